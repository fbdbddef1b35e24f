/- Parts of the proof of CueCleansChangeNothing, in order. -/
import Derived.Orders
import Derived.Below
import Derived.WalkKit
import Derived.Laws.StructEq
import Derived.Laws.Append
import Derived.Laws.AppendOwn
import Derived.Test.YtphgchakmkankaaRows
import Derived.KernelRfl
import Derived.Lib.Bytealg
import Derived.Sort.Defs
import Derived.Lib.BitFns
import Derived.Test.YtphgchakmkankaaShelf
import Derived.Lib.Overlaps
import Derived.IntWalk
import Derived.Sort.Statements
import Derived.Shelf.SlSortCmp.WholeK
import Derived.Shelf.SlSortCmp.NoneTotal
import Derived.Sort.AssemblyPlain
import Derived.Lib.Strings
import Derived.WalkSpells
import Derived.ProofKit
import Derived.OpenShut
import Derived.Lib.Hide
import Derived.Lib.SmallJoins
import Derived.Deep.QuietTactic
import Derived.BigQuiet
import Derived.Deep.RegionHeld3
import Derived.Deep.Slices
import Derived.Test.YtphgchakmkankaaKCueCleansChangeNothing4
namespace Go.Proofs.Ytphgchakmkankaa
set_option linter.unusedSectionVars false
set_option linter.unusedVariables false
set_option linter.unusedSimpArgs false
theorem eqSelf {α : Type} {l : List α} {body : Nat → α → Unit → Option (Lr Unit Unit Unit)} {K : Unit → Option Bool} (hl : l.length ≤ mxl) (hb : ∀ i x, l[i]? = some x → body i x () = some (.go ())) : forE l body (fun s => some ()) () (fun _ => some true) K = some true := by
 rw [forE_find (p := fun _ => false) (r := fun _ => ()) hl (fun i x hx => by rw [hb i x hx]; rfl)]
 have : l.find? (fun _ => false) = none := by simp
 rw [this]
theorem EqualP_t (l : List PointD) (hl : l.length ≤ mxl) : t_slices_Equal_api_Point l l = some true := by
 unfold t_slices_Equal_api_Point
 simp only [not_true_eq_false, if_false]
 refine eqSelf hl fun i x hx => ?_
 rw [tIx_get (x := x) (by omega) (by simpa using hx)]
 simp
theorem EqualM_t (l : List MoveD) (hl : l.length ≤ mxl) : t_slices_Equal_api_Move l l = some true := by
 unfold t_slices_Equal_api_Move
 simp only [not_true_eq_false, if_false]
 refine eqSelf hl fun i x hx => ?_
 rw [tIx_get (x := x) (by omega) (by simpa using hx)]
 simp
theorem EqualEn_t (l : List EntryD) (hl : l.length ≤ mxl) : t_slices_Equal_api_Entry l l = some true := by
 unfold t_slices_Equal_api_Entry
 simp only [not_true_eq_false, if_false]
 refine eqSelf hl fun i x hx => ?_
 rw [tIx_get (x := x) (by omega) (by simpa using hx)]
 simp
theorem sameCue_t (c : CueD) (h : okCue c) : t_W5_sameCue c c = some true := by
 unfold t_W5_sameCue
 have h1 : c.curve.points.length ≤ mxl := h.2.2.2.2.2.2.1.2.1
 have h2 : c.moves.length ≤ mxl := h.2.2.2.2.2.2.2.2.1
 simp only [decide_true, Bool.and_self, if_true, EqualP_t _ h1, EqualM_t _ h2, Option.bind_some]
theorem sameList_t (l : List CueD) (hl : okL okCue l) (σ : Heap) : m_W5_sameList [sl 11 cCue l, sl 11 cCue l] σ = some (.bool true, σ) := by
 have hd : ∀ x ∈ l, A.tab (fun _ _ => none) [(201, m_W5_sameCue)] 201 [.agg (cCue x), .agg (cCue x)] σ = some (.bool true, σ) := fun x hx => h_W5_sameCue (sameCue_t x (hl.2 x hx))
 have key : m_slices_EqualFunc_api_Cue (A.tab (fun _ _ => none) [(201, m_W5_sameCue)]) [sl 11 cCue l, sl 11 cCue l, .fn 201 []] σ = some (.bool true, σ) := by
  refine wrap_eq rfl ?_ rfl
  show r_slices_EqualFunc_api_Cue _ (sl 11 cCue l) (sl 11 cCue l) (.fn 201 []) σ = _
  unfold r_slices_EqualFunc_api_Cue
  rw [lenS_sl, Option.bind_some, Option.bind_some, aNe, Option.bind_some, decide_eq_false (by simp)]
  show ((A.loop _ _ _).bind _) = _
  have hloop : ∀ (pre rest : List CueD), l = pre ++ rest → ∃ n, A.iter (fun v5 s6 =>
    (A.lss (v5.getD 1 AV.undef) (.int .i64 (l.length : Int))).bind fun x8 =>
    A.cond x8 (
     (A.iaddr 11 (sl 11 cCue l) (v5.getD 1 AV.undef)).bind fun x9 =>
     ((A.deref x9 s6).bind fun c10 => A.partA 0 11 c10).bind fun x11 =>
     (A.cells 11 x11).bind fun c12 =>
     (A.splice 0 c12 [(AV.int .i64 0), (AV.str ⟨#[]⟩), (AV.int .i64 0), (AV.int .i64 0), (AV.int .i64 0), (AV.int .i64 0), (AV.int .i64 0), AV.nsl, (AV.bool false), (AV.int .i64 0), AV.nsl]).bind fun c13 =>
     (A.iaddr 11 (sl 11 cCue l) (v5.getD 1 AV.undef)).bind fun x14 =>
     ((A.deref x14 s6).bind fun c15 => A.partA 0 11 c15).bind fun x16 =>
     (A.cells 11 x16).bind fun c17 =>
     (A.splice 0 c17 [(AV.int .i64 0), (AV.str ⟨#[]⟩), (AV.int .i64 0), (AV.int .i64 0), (AV.int .i64 0), (AV.int .i64 0), (AV.int .i64 0), AV.nsl, (AV.bool false), (AV.int .i64 0), AV.nsl]).bind fun c18 =>
     (A.partA 0 11 c13).bind fun x19 =>
     (A.partA 0 11 c18).bind fun x20 =>
     (A.callv (A.tab (fun _ _ => none) [(201, m_W5_sameCue)]) (.fn 201 []) [x19, x20] s6).bind fun r21 =>
     (A.not r21.1).bind fun x22 =>
     A.cond x22 (
      some (AX.ret, [(AV.bool false), (v5.getD 1 AV.undef)], r21.2)) (
      (A.add (v5.getD 1 AV.undef) (AV.int .i64 1)).bind fun x23 =>
      some (AX.normal, [(v5.getD 0 AV.undef), x23], r21.2))) (
     some (AX.exit 0, [(v5.getD 0 AV.undef), (v5.getD 1 AV.undef)], s6))) n [.bool false, .int .i64 (pre.length : Int)] σ = some (.exit 0, [.bool false, .int .i64 (l.length : Int)], σ) := by
   intro pre rest
   induction rest generalizing pre with
   | nil =>
    intro h
    rw [List.append_nil] at h
    subst h
    refine loop_done ?_ (by simp)
    simp only [List.getD_cons_zero, List.getD_cons_succ]
    rw [ix_end]; rfl
   | cons x rest ih =>
    intro h
    have hx : l[pre.length]? = some x := by rw [h]; simp
    have hdx := hd x (List.mem_of_getElem? hx)
    refine loop_step (σ' := σ) (v' := [.bool false, .int .i64 ((pre.length + 1 : Nat) : Int)]) ?_ ?_
    ·simp only [List.getD_cons_zero, List.getD_cons_succ]
     rw [ix_lt hx, Option.bind_some]
     show ((A.iaddr 11 (sl 11 cCue l) (.int .i64 (pre.length : Int))).bind _) = _
     rw [ix_for hx, Option.bind_some]
     have hsp : A.splice 0 (cCue x) [(AV.int .i64 0), (AV.str ⟨#[]⟩), (AV.int .i64 0), (AV.int .i64 0), (AV.int .i64 0), (AV.int .i64 0), (AV.int .i64 0), AV.nsl, (AV.bool false), (AV.int .i64 0), AV.nsl] = some (cCue x) := sp_cCue _ _ rfl
     simp only [A.deref, Option.bind_some, pA_cCue, ce_cCue, hsp, ix_for hx, A.callv, List.append_nil]
     rw [hdx, Option.bind_some, show A.not (.bool true) = some (.bool false) from rfl, Option.bind_some]
     simp only [A.cond, cond_false]
     rw [ix_inc hx hl.1]; rfl
    ·have := ih (pre ++ [x]) (by rw [h]; simp)
     rwa [List.length_append, List.length_singleton] at this
  obtain ⟨n, hn⟩ := hloop [] l rfl
  rw [List.length_nil] at hn
  erw [loop_of_iter hn]
  exact fin_same _ _
 refine wrap_eq rfl ?_ rfl
 rw [show A.nnL [Sh.e 11 [.k, .k, .k, .k, .k, .k, .k, .s 2, .k, .k, .s 8], Sh.e 11 [.k, .k, .k, .k, .k, .k, .k, .s 2, .k, .k, .s 8]] [sl 11 cCue l, sl 11 cCue l] = [sl 11 cCue l, sl 11 cCue l] from nn_t1 (nn_e (fun _ => rfl) _) (nn_t1 (nn_e (fun _ => rfl) _) nn_t0)]
 show r_W5_sameList (sl 11 cCue l) (sl 11 cCue l) σ = _
 unfold r_W5_sameList
 rw [key, Option.bind_some]
 exact fin_same _ _
end Go.Proofs.Ytphgchakmkankaa

namespace Go.Proofs.Ytphgchakmkankaa
set_option linter.unusedSectionVars false
set_option linter.unusedSimpArgs false
set_option linter.unusedVariables false
theorem okL_none : okL okCue [] := ⟨Nat.zero_le _, by simp⟩
end Go.Proofs.Ytphgchakmkankaa

namespace Go.Proofs.Ytphgchakmkankaa
set_option linter.unusedSectionVars false
set_option linter.unusedVariables false
set_option linter.unusedSimpArgs false
open HP
def zeroC (e : EntryD) : EntryD := { e with cue := 0 }
theorem state_bd (l : List CueD) (n : Int) : (stateRes l n).1.length ≤ 600000000 := by
 unfold stateRes
 split
 ·simp
 rename_i hz
 split
 ·simp
 have hg := good_of (Decidable.not_not.1 hz)
 have hlen := hg.len
 exact (beforeF_bound (l := l.take (posC l n + 1)) (by simp; omega) (fun c hc => (hg.mv c (List.mem_of_mem_take hc)).1)).2
section
variable {σ0 σ : Heap} {R : HP}
theorem fin_tupX {α : Type} {c : α → List AV} {sz : Nat} {B : Blk → Prop} {v w : AV} {l : List α} (hw : Fz w) (hc : ∀ x, FzL (c x)) (H : Hs B σ0 σ (Sl (fl c) sz v l * R)) : ∃ v', A.fin σ0 (.tup [v, w]) σ = some (.tup [v', w], σ0) ∧ A.nn (.s sz) v' = sl sz c l := by
 obtain ⟨v', h1, h2, h3⟩ := slf_fz H hc (Nat.le_refl _) 7
 refine ⟨v', fin_hs (hs_any H) (by simp [A.frz, A.frzL, h1, hw σ σ0.length 8]) (fun e => ?_), h3⟩
 rcases slf_cases H with ⟨rfl, rfl | rfl, _⟩ | ⟨id, g, rfl, K⟩
 ·simp [A.frz] at h1; rw [h1]
 ·simp [A.frz] at h1; rw [h1]
 ·obtain ⟨k1, k2⟩ := hs_get K
  have := (List.getElem?_eq_some_iff.1 k2).1
  subst e; omega
theorem nn_retX {α : Type} {c : α → List AV} {sz : Nat} {v w : AV} {l : List α} (h : A.nn (.s sz) v = sl sz c l) : A.nn (.t [(.s sz), .k]) (.tup [v, w]) = .tup [sl sz c l, w] := by
 simp only [A.nn, A.nnL] at h ⊢
 rw [h]
def valsR (l : List CueD) (n : Int) : List EntryD := (stateRes l n).1.map zeroC
theorem values_t {l : List CueD} (hl : okL okCue l) {n : Int} (hn : inI n) (σ : Heap) : m_W5_values [sl 11 cCue l, .int .i64 n] σ = some (.tup [sl 5 cEntry (valsR l n), .bool (decide ((stateRes l n).2 = 0))], σ) := by
 have run : ∃ b, r_W5_values (sl 11 cCue l) (.int .i64 n) σ = some b ∧ b.2 = σ ∧ A.nn (.t [(.s 5), .k]) b.1 = .tup [sl 5 cEntry (valsR l n), .bool (decide ((stateRes l n).2 = 0))] := by
  unfold r_W5_values valsR
  have hbd := state_bd l n
  rw [State_t hl hn σ, Option.bind_some, ext0, Option.bind_some, ext1, Option.bind_some]
  generalize (stateRes l n).1 = st at hbd ⊢
  generalize (stateRes l n).2 = e
  obtain ⟨v, s1, e1, _, K1⟩ := clo_gen (B := anyB) (most := 140737488355328 / 48) (m := m_slices_Clone_api_Entry) (r := fun _ _ => none) (r0 := r_slices_Clone_api_Entry) (c := cEntry) (sz := 5) (l := st) rfl (fun _ _ => rfl) (by omega) (fun _ _ _ _ => trivial) (hs_nil (B := anyB) σ)
  simp only
  rw [e1, Option.bind_some, sl_len K1, Option.bind_some]
  refine loop_k (Q := fun q => q.1 = .exit 0 ∧ Hs anyB σ q.2.2 (Sl (fl cEntry) 5 v (st.map zeroC) * emp)) (loop_hs st (fun i w s => w = [.int .i64 (i : Int)] ∧ Hs anyB σ s (Sl (fl cEntry) 5 v ((st.take i).map zeroC ++ st.drop i) * emp)) ?_ ?_ ⟨rfl, by simpa using K1⟩) ?_
  ·rintro i x w s hx ⟨rfl, K⟩
   have hi := (List.getElem?_eq_some_iff.1 hx).1
   have hxo : ((st.take i).map zeroC ++ st.drop i)[i]? = some x := by
    rw [List.getElem?_append_right (by simp; omega)]
    simp [Nat.min_eq_left (Nat.le_of_lt hi), hx]
   obtain ⟨p, F, e', f1, hC, K2, back⟩ := sl_cell K hxo
   have he : e' = cEntry x := (hs_pr.1 (hs_drop K2)).1
   subst he
   have K3 := hs_drop (hs_eq (show _ = pr (cEntry x = cEntry x) * (F (cEntry x) * emp) by rw [show fl cEntry (cEntry x) x = pr (cEntry x = cEntry x) from rfl]; ac_rfl) K2)
   obtain ⟨q, g1, _, g3⟩ := hC.fa 4
   obtain ⟨s', h2, K4⟩ := g3 K3 (new := [.int .i64 0]) (e' := cEntry (zeroC x)) rfl
   simp only [List.getD_cons_zero]
   rw [ix_lt hx, Option.bind_some, cnd_t, f1, Option.bind_some, g1, Option.bind_some, show A.cell (.int .i64 0) = some (.int .i64 0) from rfl, Option.bind_some, Option.bind_some, h2, Option.bind_some, ix_inc hx (by unfold mxl; omega), Option.bind_some]
   refine ⟨_, _, rfl, rfl, ?_⟩
   have K5 := back (e := cEntry (zeroC x)) (y := zeroC x) (hs_eq (show pr (cEntry (zeroC x) = cEntry (zeroC x)) * (F (cEntry (zeroC x)) * emp) = _ by rw [show fl cEntry (cEntry (zeroC x)) (zeroC x) = pr (cEntry (zeroC x) = cEntry (zeroC x)) from rfl]; ac_rfl) (hs_pr.2 ⟨rfl, K4⟩))
   have e9 : ((st.take i).map zeroC ++ st.drop i).set i (zeroC x) = (st.take (i + 1)).map zeroC ++ st.drop (i + 1) := by
    have e : st.drop i = x :: st.drop (i + 1) := by rw [List.drop_eq_getElem_cons hi, (List.getElem?_eq_some_iff.1 hx).2]
    rw [e, List.take_add_one, hx, List.set_append_right _ _ (by simp; omega)]
    rw [show i - ((st.take i).map zeroC).length = 0 by simp; omega]
    simp
   rw [← e9]; exact K5
  ·rintro w s ⟨rfl, K⟩
   simp only [List.getD_cons_zero]
   rw [ix_end, Option.bind_some, cnd_f]
   rw [List.take_length, List.drop_length, List.append_nil] at K
   exact ⟨_, rfl, by simp, rfl, K⟩
  ·rintro ⟨x, w, s⟩ ⟨h1, K⟩
   simp only at h1 K
   subst h1
   simp only [exb]
   rw [aEq, Option.bind_some]
   obtain ⟨v', j1, j2⟩ := fin_tupX (w := .bool (decide (e = 0))) (fz_bool _) fz_cEntry K
   exact ⟨_, j1, rfl, nn_retX j2⟩
 obtain ⟨⟨b, s⟩, h1, h2, h3⟩ := run
 simp only at h2 h3
 subst h2
 refine wrap_eq rfl ?_ h3
 rw [show A.nnL [Sh.e 11 [.k, .k, .k, .k, .k, .k, .k, .s 2, .k, .k, .s 8]] [sl 11 cCue l, .int .i64 n] = [sl 11 cCue l, .int .i64 n] from nn_arg1 l _]
 exact h1
theorem equalE_t (l : List EntryD) (hl : l.length ≤ mxl) (σ : Heap) : A.quiet (m_slices_Equal_api_Entry [sl 5 cEntry l, sl 5 cEntry l] σ) σ = some (.bool true) := quiet_of (h_slices_Equal_api_Entry (EqualEn_t l hl))
theorem valsR_bd (l : List CueD) (n : Int) : (valsR l n).length ≤ mxl := by
 unfold valsR; rw [List.length_map]; have := state_bd l n; unfold mxl; omega
def LooksAs (a b : List CueD) (n : Int) : Prop := (stateRes a n).2 = 0 ∧ (stateRes b n).2 = 0 ∧ valsR a n = valsR b n
theorem okC_num {l : List CueD} (hl : okL okCue l) {c : CueD} (hc : c ∈ l) : inI c.number := (hl.2 c hc).1
theorem nn_arg2 (l m : List CueD) (aas : List AV) : A.nnL [Sh.e 11 shCue, Sh.e 11 shCue] (sl 11 cCue l :: sl 11 cCue m :: aas) = sl 11 cCue l :: sl 11 cCue m :: aas := nn_t1 (nn_idem_cues l) (nn_t1 (nn_idem_cues m) rfl)
theorem asBefore_t {a b : List CueD} (ha : okL okCue a) (hb : okL okCue b) (but and' : Int) (h : ∀ c ∈ a, c.number ≠ but → c.number ≠ and' → LooksAs a b c.number) (σ : Heap) : m_W5_asBefore [sl 11 cCue a, sl 11 cCue b, .int .i64 but, .int .i64 and'] σ = some (.bool true, σ) := by
 have run : ∃ q, r_W5_asBefore (sl 11 cCue a) (sl 11 cCue b) (.int .i64 but) (.int .i64 and') σ = some q ∧ q = (.bool true, σ) := by
  unfold r_W5_asBefore
  rw [lenS_sl, Option.bind_some]
  refine loop_k (Q := fun q => q.1 = .exit 0 ∧ q.2.2 = σ) (loop_hs a (fun i v s => v = [.bool false, .int .i64 (i : Int)] ∧ s = σ) ?_ ?_ ⟨rfl, rfl⟩) ?_
  ·rintro i c v s hx ⟨rfl, rfl⟩
   have hm := List.mem_of_getElem? hx
   have hn := okC_num ha hm
   simp only [List.getD_cons_zero, List.getD_cons_succ]
   rw [ix_lt hx, Option.bind_some, cnd_t, ix_for hx, Option.bind_some]
   simp only [A.deref, Option.bind_some]
   rw [pA_cCue, Option.bind_some, ce_cCue, Option.bind_some, sp_cCue c _ rfl, Option.bind_some, show A.part1 0 (cCue c) = some (.int .i64 c.number) from rfl, Option.bind_some, aEq, Option.bind_some]
   by_cases h1 : c.number = but
   ·rw [decide_eq_true h1]
    simp only [A.guard, show (true == false) = false from rfl, cond_false, Option.bind_some, A.pick, cond_true, cnd_t]
    rw [ix_inc hx ha.1, Option.bind_some]
    exact ⟨_, _, rfl, rfl, rfl⟩
   rw [decide_eq_false h1]
   simp only [A.guard, beq_self_eq_true, cond_true, Option.bind_some, A.pick, cond_false]
   rw [aEq]
   simp only [Option.bind_some]
   by_cases h2 : c.number = and'
   ·rw [decide_eq_true h2, cnd_t, ix_inc hx ha.1, Option.bind_some]
    exact ⟨_, _, rfl, rfl, rfl⟩
   rw [decide_eq_false h2, cnd_f]
   obtain ⟨k1, k2, k3⟩ := h c hm h1 h2
   rw [values_t ha hn, Option.bind_some, ext0, Option.bind_some, ext1, Option.bind_some, values_t hb hn, Option.bind_some, ext0, Option.bind_some, ext1, Option.bind_some, decide_eq_true k1, decide_eq_true k2, k3]
   simp only [show A.not (.bool true) = some (.bool false) from rfl, Option.bind_some, beq_self_eq_true, cond_true, cond_false]
   rw [equalE_t _ (valsR_bd _ _)]
   simp only [show A.not (.bool true) = some (.bool false) from rfl, Option.bind_some, cnd_f]
   rw [ix_inc hx ha.1, Option.bind_some]
   exact ⟨_, _, rfl, rfl, rfl⟩
  ·rintro v s ⟨rfl, rfl⟩
   simp only [List.getD_cons_zero, List.getD_cons_succ]
   rw [ix_end, Option.bind_some, cnd_f]
   exact ⟨_, rfl, by simp, rfl, rfl⟩
  ·rintro ⟨e, v, s⟩ ⟨h1, h2⟩
   simp only at h1 h2
   subst h1; subst h2
   simp only [exb]
   exact ⟨_, fin_same _ _, rfl⟩
 obtain ⟨q, h1, rfl⟩ := run
 refine wrap_eq rfl ?_ rfl
 rw [show A.nnL [Sh.e 11 [.k, .k, .k, .k, .k, .k, .k, .s 2, .k, .k, .s 8], Sh.e 11 [.k, .k, .k, .k, .k, .k, .k, .s 2, .k, .k, .s 8]] [sl 11 cCue a, sl 11 cCue b, .int .i64 but, .int .i64 and'] = [sl 11 cCue a, sl 11 cCue b, .int .i64 but, .int .i64 and'] from nn_arg2 a b _]
 exact h1
end
end Go.Proofs.Ytphgchakmkankaa

namespace Go.Proofs.Ytphgchakmkankaa
set_option linter.unusedSectionVars false
set_option linter.unusedVariables false
set_option linter.unusedSimpArgs false
theorem gdF (X d : Option AV) : A.guard (.bool false) false X d = X := rfl
theorem gdT (X d : Option AV) : A.guard (.bool true) true X d = X := rfl
theorem gdFx (X d : Option AV) : A.guard (.bool true) false X d = d := rfl
theorem gdTx (X d : Option AV) : A.guard (.bool false) true X d = d := rfl
theorem pkF (x y : AV) : A.pick (.bool false) x y = some y := rfl
theorem pkT (x y : AV) : A.pick (.bool true) x y = some x := rfl
theorem notT : A.not (.bool true) = some (.bool false) := rfl
theorem notF : A.not (.bool false) = some (.bool true) := rfl
def valE (st : List EntryD) (k : KeyD) : Option ValueD := (lookE st k).map (·.value)
def mvV (o : Option MoveD) (d : Option ValueD) : Option ValueD := match o with
 | some m => if m.release = true then none else some m.value
 | none => d
def sv (l : List CueD) (i : Nat) (k : KeyD) : Option ValueD := valE (beforeF (l.take i)) k
def AllS (l : List CueD) : Prop := ∀ c ∈ l, srtM c.moves
theorem good_allS {l : List CueD} (h : Good l) : AllS l := fun c hc => (h.mv c hc).2
theorem beforeF_srt (l : List CueD) : srtE (beforeF l) := (same_state l).2.1
theorem vals_eq {a b : List EntryD} (ha : srtE a) (hb : srtE b) (h : ∀ k, valE a k = valE b k) : a.map zeroC = b.map zeroC := by
 have hm : ∀ {l : List EntryD}, srtE l → (l.map zeroC).Pairwise fun x y => ltK x.key y.key = true := fun h => List.pairwise_map.2 h
 refine pw_ext (r := fun x y : EntryD => ltK x.key y.key = true) (fun x q => by rw [ltK_irr] at q; cases q) (fun x y z => ltK_trans) (hm ha) (hm hb) fun x => ?_
 have key : ∀ {l : List EntryD}, srtE l → (x ∈ l.map zeroC ↔ valE l x.key = some x.value ∧ x.cue = 0) := by
  intro l hl
  rw [List.mem_map]
  constructor
  ·rintro ⟨e, he, rfl⟩
   refine ⟨?_, rfl⟩
   unfold valE
   rw [show (zeroC e).key = e.key from rfl, (lookE_some hl).2 ⟨he, rfl⟩]; rfl
  ·rintro ⟨h1, h2⟩
   unfold valE at h1
   obtain ⟨e, he, hv⟩ := Option.map_eq_some_iff.1 h1
   obtain ⟨m1, m2⟩ := (lookE_some hl).1 he
   refine ⟨e, m1, ?_⟩
   cases x; cases e
   simp only [zeroC] at *
   subst m2; subst hv; subst h2; rfl
 rw [key ha, key hb, h]
theorem val_fold {n : Int} {k : KeyD} : ∀ (ms : List MoveD) {st : List EntryD}, srtE st → srtM ms → valE (ms.foldl (stepE n) st) k = mvV (mvK ms k) (valE st k)
 | [], st, _, _ => rfl
 | m :: ms, st, hs, hm => by
  obtain ⟨h1, h2, _⟩ := stepE_spec (n := n) hs m
  have hm' := List.pairwise_cons.1 hm
  rw [List.foldl_cons, val_fold ms h1 hm'.2]
  have e : valE (stepE n st m) k = if k = m.key then (if m.release = true then none else some m.value) else valE st k := by
   unfold valE
   rw [h2]
   split
   ·split <;> rfl
   ·rfl
  rw [e]
  by_cases hk : m.key = k
  ·have hn : mvK ms k = none := by
    unfold mvK; rw [List.find?_eq_none]
    intro z hz q
    have := hm'.1 z hz
    rw [of_decide_eq_true q, ← hk, ltK_irr] at this; cases this
   have hc : mvK (m :: ms) k = some m := by unfold mvK; rw [List.find?_cons, decide_eq_true hk]
   rw [hn, hc, if_pos hk.symm]
   rfl
  ·have hc : mvK (m :: ms) k = mvK ms k := by unfold mvK; rw [List.find?_cons, decide_eq_false hk]
   rw [hc, if_neg (fun q => hk q.symm)]
theorem sv_succ {l : List CueD} {i : Nat} {c : CueD} (hx : l[i]? = some c) (hs : srtM c.moves) (k : KeyD) : sv l (i + 1) k = mvV (mvK c.moves k) (sv l i k) := by
 unfold sv
 rw [List.take_add_one, hx, Option.toList_some, beforeF, List.foldl_append]
 exact val_fold c.moves (beforeF_srt _) hs
theorem looks_of {a b : List CueD} {n : Int} (ha : formF a = 0) (hb : formF b = 0) {i j : Nat} {x y : CueD} (hx : a[i]? = some x) (hxn : x.number = n) (hy : b[j]? = some y) (hyn : y.number = n) (h : ∀ k, sv a (i + 1) k = sv b (j + 1) k) : LooksAs a b n := by
 have hga := good_of ha
 have hgb := good_of hb
 have pa := posC_at hga.srt hx hxn
 have pb := posC_at hgb.srt hy hyn
 have ca : hasC a n = true := List.any_eq_true.2 ⟨x, List.mem_of_getElem? hx, by simp [hxn]⟩
 have cb : hasC b n = true := List.any_eq_true.2 ⟨y, List.mem_of_getElem? hy, by simp [hyn]⟩
 have ea : stateRes a n = (beforeF (a.take (i + 1)), 0) := by
  unfold stateRes; rw [if_neg (by simp [ha]), ca, if_neg (by decide), pa]
 have eb : stateRes b n = (beforeF (b.take (j + 1)), 0) := by
  unfold stateRes; rw [if_neg (by simp [hb]), cb, if_neg (by decide), pb]
 refine ⟨by rw [ea], by rw [eb], ?_⟩
 unfold valsR
 rw [ea, eb]
 exact vals_eq (beforeF_srt _) (beforeF_srt _) h
def moveOk (m : MoveD) : Prop := withinB m.key.unit 1 9999 = true ∧ nameB m.key.param = true ∧ ((m.release && (decide (¬ (m.value = (⟨0, 0⟩ : ValueD))))) || ((decide (¬ (m.value.level = 0))) && (decide (¬ (m.value.preset = 0))))) = false ∧
 ((!(withinB m.value.level 0 65535)) || (!(withinB m.value.preset 0 999))) = false ∧ ((!m.timed) && ((decide (¬ (m.delay = 0))) || (decide (¬ (m.time = 0))))) = false ∧ ((!(withinB m.delay 0 36000000)) || (!(withinB m.time 0 36000000))) = false
theorem moveF_zero (l : List MoveD) (i : Nat) (m : MoveD) : moveF l i m = 0 ↔ moveOk m ∧ (0 < i → ltK (pv l i).key m.key = true) := by
 have hi : decide (0 < (i : Int)) = decide (0 < i) := decide_eq_decide.2 (by omega)
 unfold moveF moveOk
 rw [hi]
 constructor
 ·intro h
  split at h
  ·cases h
  rename_i h1
  split at h
  ·cases h
  rename_i h2
  split at h
  ·cases h
  rename_i h3
  split at h
  ·cases h
  rename_i h4
  split at h
  ·cases h
  rename_i h5
  split at h
  ·cases h
  rename_i h6
  split at h
  ·cases h
  rename_i h7
  simp only [Bool.not_eq_true] at h3 h4 h5 h6
  refine ⟨⟨by simpa using h1, by simpa using h2, h3, h4, h5, h6⟩, fun h0 => ?_⟩
  rw [decide_eq_true h0, Bool.true_and] at h7
  simpa using h7
 ·rintro ⟨⟨h1, h2, h3, h4, h5, h6⟩, h7⟩
  rw [h1, h2, h3, h4, h5, h6]
  by_cases h0 : 0 < i
  ·rw [h7 h0]; simp
  ·rw [decide_eq_false h0]; simp
theorem movesF_zero {l : List MoveD} : movesF l = 0 ↔ (∀ m ∈ l, moveOk m) ∧ srtM l := by
 constructor
 ·intro h
  refine ⟨fun m hm => ?_, good_moves h⟩
  obtain ⟨i, hi⟩ := List.mem_iff_getElem?.1 hm
  unfold movesF at h
  have := (chkE_zero l 0).1 h i m hi
  exact ((moveF_zero _ _ _).1 this).1
 ·rintro ⟨h1, h2⟩
  unfold movesF
  refine (chkE_zero l 0).2 fun i m hi => ?_
  rw [Nat.zero_add, moveF_zero]
  refine ⟨h1 m (List.mem_of_getElem? hi), fun h0 => ?_⟩
  obtain ⟨j, rfl⟩ : ∃ j, i = j + 1 := ⟨i - 1, by omega⟩
  rw [pv_succ]
  have hj := (List.getElem?_eq_some_iff.1 hi).1
  have hx : l[j]? = some l[j] := List.getElem?_eq_getElem (by omega)
  rw [hx, Option.getD_some]
  have := List.pairwise_iff_getElem.1 h2 j (j + 1) (by omega) hj (by omega)
  rwa [(List.getElem?_eq_some_iff.1 hi).2] at this
def headOk (c : CueD) : Prop := withinB c.number 1 9999999 = true ∧ blankB c.title = true ∧ (((((!(withinB c.delay 0 36000000)) || (!(withinB c.up 0 36000000))) || (!(withinB c.down 0 36000000))) || (!(withinB c.other 0 36000000))) || (!(withinB c.follow (-1) 36000000))) = false ∧ curveF c.curve = 0
theorem cueF_zero (l : List CueD) (i : Nat) (c : CueD) : cueF l i c = 0 ↔ headOk c ∧ (0 < i → (pv l i).number < c.number) ∧ c.moves.length ≤ 2000 ∧ movesF c.moves = 0 := by
 have hi : decide (0 < (i : Int)) = decide (0 < i) := decide_eq_decide.2 (by omega)
 unfold cueF headOk
 rw [hi]
 constructor
 ·intro h
  split at h
  ·cases h
  rename_i h1
  split at h
  ·cases h
  rename_i h2
  split at h
  ·cases h
  rename_i h3
  split at h
  ·cases h
  rename_i h4
  split at h
  ·rename_i h5; exact absurd h h5
  rename_i h5
  split at h
  ·cases h
  rename_i h6
  simp only [Bool.not_eq_true] at h4
  refine ⟨⟨by simpa using h1, by simpa using h3, h4, by simpa using h5⟩, fun h0 => ?_, by omega, h⟩
  rw [decide_eq_true h0, Bool.true_and, decide_eq_true_eq] at h2
  omega
 ·rintro ⟨⟨h1, h3, h4, h5⟩, h2, h6, h7⟩
  rw [h1, h3, h4, h5]
  have : (decide (0 < i) && decide (c.number ≤ (pv l i).number)) = false := by
   by_cases h0 : 0 < i
   ·have := h2 h0
    simp [h0]; omega
   ·simp [h0]
  rw [this]
  simp [h7]; omega
def manyN (l : List CueD) : Nat := (l.map fun c => c.moves.length).sum
theorem manyN_le : ∀ {l : List CueD}, (∀ c ∈ l, c.moves.length ≤ 2000) → manyN l ≤ l.length * 2000
 | [], _ => Nat.zero_le _
 | c :: l, h => by
  have := manyN_le (l := l) (fun x hx => h x (by simp [hx]))
  have := h c (by simp)
  unfold manyN at *
  simp only [List.map_cons, List.sum_cons, List.length_cons, Nat.add_mul]
  omega
theorem manyF_eq {l : List CueD} (hl : l.length ≤ 300) (hm : ∀ c ∈ l, c.moves.length ≤ 2000) : manyF l = (manyN l : Int) := by
 have key : ∀ (l : List CueD) (s : Nat), s + manyN l < 9223372036854775808 → l.foldl (fun s c => IntKind.i64.wrap (s + (c.moves.length : Int))) (s : Int) = ((s + manyN l : Nat) : Int) := by
  intro l
  induction l with
  | nil => intro s _; simp [manyN]
  | cons c l ih =>
   intro s h
   have e : manyN (c :: l) = c.moves.length + manyN l := by simp [manyN]
   rw [e] at h ⊢
   rw [List.foldl_cons, wrap64 (by unfold inI; omega), show (s : Int) + (c.moves.length : Int) = ((s + c.moves.length : Nat) : Int) by omega, ih _ (by omega)]
   congr 1; omega
 have := key l 0 (by have := manyN_le hm; omega)
 unfold manyF
 simpa using this
theorem formF_zero {l : List CueD} : formF l = 0 ↔ l.length ≤ 300 ∧ (∀ c ∈ l, headOk c ∧ c.moves.length ≤ 2000 ∧ movesF c.moves = 0) ∧ (l.Pairwise fun a b => a.number < b.number) ∧ manyN l ≤ 10000 := by
 constructor
 ·intro h
  have hg := good_of h
  unfold formF at h
  by_cases h1 : 300 < (l.length : Int)
  ·simp [h1] at h
  rw [if_neg h1] at h
  by_cases h2 : chkE (cueF l) l 0 = 0
  case neg => rw [if_pos h2] at h; exact absurd h h2
  rw [if_neg (by simp [h2])] at h
  refine ⟨by omega, fun c hc => ?_, hg.srt, ?_⟩
  ·obtain ⟨i, hi⟩ := List.mem_iff_getElem?.1 hc
   have := (chkE_zero l 0).1 h2 i c hi
   obtain ⟨q1, _, q3, q4⟩ := (cueF_zero _ _ _).1 this
   exact ⟨q1, q3, q4⟩
  ·rw [manyF_eq (by omega) (fun c hc => (hg.mv c hc).1)] at h
   by_cases h3 : 10000 < (manyN l : Int)
   ·rw [if_pos h3] at h; cases h
   ·omega
 ·rintro ⟨h1, h2, h3, h4⟩
  unfold formF
  rw [if_neg (by omega)]
  have hc : chkE (cueF l) l 0 = 0 := (chkE_zero l 0).2 fun i c hi => by
   rw [Nat.zero_add, cueF_zero]
   obtain ⟨q1, q2, q3⟩ := h2 c (List.mem_of_getElem? hi)
   refine ⟨q1, fun h0 => ?_, q2, q3⟩
   obtain ⟨j, rfl⟩ : ∃ j, i = j + 1 := ⟨i - 1, by omega⟩
   rw [pv_succ]
   have hj := (List.getElem?_eq_some_iff.1 hi).1
   have hx : l[j]? = some l[j] := List.getElem?_eq_getElem (by omega)
   rw [hx, Option.getD_some]
   have := List.pairwise_iff_getElem.1 h3 j (j + 1) (by omega) hj (by omega)
   rwa [(List.getElem?_eq_some_iff.1 hi).2] at this
  rw [if_neg (by simp [hc]), manyF_eq h1 (fun c hc => (h2 c hc).2.1), if_neg (by omega)]
end Go.Proofs.Ytphgchakmkankaa

namespace Go.Proofs.Ytphgchakmkankaa
set_option linter.unusedSectionVars false
set_option linter.unusedSimpArgs false
set_option linter.unusedVariables false
theorem blockF_ok {l : List CueD} (hl : okL okCue l) (n : Int) : okL okCue (blockF l n).1 := by
 unfold blockF
 split
 ·exact okL_none
 rename_i hz
 split
 ·exact okL_none
 rw [doneF_pair]
 simp only
 split
 ·exact blkOn_ok hl.2 (good_of (Decidable.not_not.1 hz)) _
 ·exact okL_none
theorem unblockF_ok {l : List CueD} (hl : okL okCue l) (n : Int) : okL okCue (unblockF l n).1 := by
 unfold unblockF
 split
 ·exact okL_none
 rename_i hz
 split
 ·exact okL_none
 exact unblk_ok hl.2 (good_of (Decidable.not_not.1 hz)) _
theorem cleanRes_ok {l : List CueD} (hl : okL okCue l) : okL okCue (cleanRes l).1 := by
 unfold cleanRes
 simp only
 split
 ·exact clean_ok hl.2 hl.1 _
 ·exact okL_none
end Go.Proofs.Ytphgchakmkankaa

namespace Go.Proofs.Ytphgchakmkankaa
set_option linter.unusedSectionVars false
set_option linter.unusedVariables false
set_option linter.unusedSimpArgs false
theorem srt_filter {ms : List MoveD} (h : srtM ms) (p : MoveD → Bool) : srtM (ms.filter p) := List.Pairwise.filter p h
theorem mvK_filter {ms : List MoveD} (hs : srtM ms) (p : MoveD → Bool) (k : KeyD) : mvK (ms.filter p) k = match mvK ms k with
  | some m => if p m = true then some m else none
  | none => none := by
 have hs' := srt_filter hs p
 cases h' : mvK (ms.filter p) k with
 | some y =>
  obtain ⟨h1, h2⟩ := (mvK_some hs').1 h'
  obtain ⟨h3, h4⟩ := List.mem_filter.1 h1
  rw [(mvK_some hs).2 ⟨h3, h2⟩]
  simp only
  rw [if_pos h4]
 | none =>
  cases h : mvK ms k with
  | none => rfl
  | some m =>
   simp only
   by_cases hp : p m = true
   ·obtain ⟨h1, h2⟩ := (mvK_some hs).1 h
    rw [(mvK_some hs').2 ⟨List.mem_filter.2 ⟨h1, hp⟩, h2⟩] at h'
    cases h'
   ·rw [if_neg hp]
theorem keep_val {st : List EntryD} {ms : List MoveD} (hs : srtM ms) (k : KeyD) : mvV (mvK (ms.filter (keepM st)) k) (valE st k) = mvV (mvK ms k) (valE st k) := by
 rw [mvK_filter hs]
 cases h : mvK ms k with
 | none => rfl
 | some m =>
  have hk := ((mvK_some hs).1 h).2
  simp only
  by_cases hp : keepM st m = true
  ·rw [if_pos hp]
  ·rw [if_neg hp]
   unfold keepM at hp
   rw [hk] at hp
   unfold valE mvV
   cases e : lookE st k with
   | none =>
    rw [e] at hp
    simp [mvOf] at hp
    simp [hp.2]
   | some x =>
    rw [e] at hp
    simp [mvOf] at hp
    simp [hp.2, Classical.not_not.1 (of_decide_eq_false hp.1.2)]
theorem mvOf_val {a b : List EntryD} {k : KeyD} (h : valE a k = valE b k) : mvOf k (lookE a k) = mvOf k (lookE b k) := by
 unfold valE at h
 cases ea : lookE a k with
 | none =>
  cases eb : lookE b k with
  | none => rfl
  | some y => rw [ea, eb] at h; cases h
 | some x =>
  cases eb : lookE b k with
  | none => rw [ea, eb] at h; cases h
  | some y =>
   rw [ea, eb] at h
   simp only [Option.map_some, Option.some.injEq] at h
   simp [mvOf, h]
theorem keepM_val {a b : List EntryD} {m : MoveD} (h : valE a m.key = valE b m.key) : keepM a m = keepM b m := by
 unfold keepM; rw [mvOf_val h]
theorem sv_all {a b : List CueD} (ha : AllS a) (hb : AllS b) (hlen : b.length = a.length) (h : ∀ (i : Nat) (x y : CueD), a[i]? = some x → b[i]? = some y → ∀ k, mvV (mvK y.moves k) (sv a i k) = mvV (mvK x.moves k) (sv a i k)) (k : KeyD) : ∀ i, i ≤ a.length → sv b i k = sv a i k := by
 intro i
 induction i with
 | zero => intro _; rfl
 | succ i ih =>
  intro hi
  have hx : a[i]? = some a[i] := List.getElem?_eq_getElem (by omega)
  have hy : b[i]? = some b[i] := List.getElem?_eq_getElem (by omega)
  rw [sv_succ hx (ha _ (List.mem_of_getElem? hx)), sv_succ hy (hb _ (List.mem_of_getElem? hy)), ih (by omega)]
  exact h i _ _ hx hy k
theorem looks_all {a b : List CueD} (hfa : formF a = 0) (hfb : formF b = 0) (hlen : b.length = a.length) (hn : ∀ (i : Nat) (x y : CueD), a[i]? = some x → b[i]? = some y → y.number = x.number) (h : ∀ k i, i ≤ a.length → sv b i k = sv a i k) : ∀ c ∈ a, LooksAs a b c.number := by
 intro c hc
 obtain ⟨i, hi⟩ := List.mem_iff_getElem?.1 hc
 have hil := (List.getElem?_eq_some_iff.1 hi).1
 have hy : b[i]? = some b[i] := List.getElem?_eq_getElem (by omega)
 exact looks_of hfa hfb hi rfl hy (hn i _ _ hi hy) fun k => (h k (i + 1) (by omega)).symm
theorem many_le2 : ∀ {a b : List CueD}, b.length = a.length → (∀ (i : Nat) (x y : CueD), a[i]? = some x → b[i]? = some y → y.moves.length ≤ x.moves.length) → manyN b ≤ manyN a
 | [], [], _, _ => Nat.le_refl _
 | [], _ :: _, h, _ => by simp at h
 | _ :: _, [], h, _ => by simp at h
 | x :: a, y :: b, h, hm => by
  have h1 := many_le2 (a := a) (b := b) (by simpa using h) (fun i x y hx hy => hm (i + 1) x y hx hy)
  have h2 := hm 0 x y rfl rfl
  unfold manyN at *
  simp only [List.map_cons, List.sum_cons]
  omega
theorem form_less {a b : List CueD} (ha : formF a = 0) (hlen : b.length = a.length) (h : ∀ (i : Nat) (x y : CueD), a[i]? = some x → b[i]? = some y → (headOk x → headOk y) ∧ y.number = x.number ∧ y.moves.Sublist x.moves) : formF b = 0 := by
 obtain ⟨h1, h2, h3, h4⟩ := formF_zero.1 ha
 have hm : b.map (·.number) = a.map (·.number) := by
  apply List.ext_getElem?
  intro i
  rw [List.getElem?_map, List.getElem?_map]
  cases hx : a[i]? with
  | none =>
   have := List.getElem?_eq_none_iff.1 hx
   rw [List.getElem?_eq_none_iff.2 (by omega)]
  | some x =>
   have hl := (List.getElem?_eq_some_iff.1 hx).1
   have hy : b[i]? = some b[i] := List.getElem?_eq_getElem (by omega)
   rw [hy]
   exact congrArg some (h i _ _ hx hy).2.1
 refine formF_zero.2 ⟨by omega, fun c hc => ?_, ?_, ?_⟩
 ·obtain ⟨i, hy⟩ := List.mem_iff_getElem?.1 hc
  have hl := (List.getElem?_eq_some_iff.1 hy).1
  have hx : a[i]? = some a[i] := List.getElem?_eq_getElem (by omega)
  obtain ⟨q1, q2, q3⟩ := h2 _ (List.mem_of_getElem? hx)
  obtain ⟨r1, r2, r3⟩ := h i _ _ hx hy
  obtain ⟨s1, s2⟩ := movesF_zero.1 q3
  exact ⟨r1 q1, Nat.le_trans r3.length_le q2, movesF_zero.2 ⟨fun m hm => s1 m (r3.subset hm), List.Pairwise.sublist r3 s2⟩⟩
 ·have := List.pairwise_map.2 h3
  rw [← hm] at this
  exact List.pairwise_map.1 this
 ·have := many_le2 hlen fun i x y hx hy => (h i x y hx hy).2.2.length_le
  omega
def clC (l : List CueD) (j : Nat) (x : CueD) : CueD := if x.block = true then x else { x with moves := x.moves.filter (keepM (beforeF (l.take j))) }
theorem cleanTo_at {l : List CueD} {j : Nat} {x : CueD} (hx : l[j]? = some x) : ∀ i, j < i → (cleanTo l i)[j]? = some (clC l j x)
 | 0, h => absurd h (by omega)
 | i + 1, h => by
  rw [cleanTo]
  by_cases e : j = i
  ·subst e
   rw [hx, Option.any_some]; unfold clC
   split
   ·rw [cleanTo_get l j j (Nat.le_refl _), hx]
   ·rw [setMv_get, if_pos rfl, cleanTo_get l j j (Nat.le_refl _), hx]; rfl
  ·have := cleanTo_at hx i (by omega)
   split
   ·exact this
   ·rw [setMv_get, if_neg (by omega), this]
theorem clC_sub (l : List CueD) (j : Nat) (x : CueD) : (headOk x → headOk (clC l j x)) ∧ (clC l j x).number = x.number ∧ (clC l j x).moves.Sublist x.moves := by
 unfold clC
 split
 ·exact ⟨id, rfl, List.Sublist.refl _⟩
 ·exact ⟨id, rfl, List.filter_sublist⟩
theorem clean_get {l : List CueD} {j : Nat} {x y : CueD} (hx : l[j]? = some x) (hy : (cleanTo l l.length)[j]? = some y) : y = clC l j x := by
 have := cleanTo_at hx l.length (List.getElem?_eq_some_iff.1 hx).1
 rw [this] at hy; injection hy with hy; exact hy.symm
theorem clean_form {l : List CueD} (h : formF l = 0) : formF (cleanTo l l.length) = 0 :=
 form_less h (cleanTo_len l _) fun i x y hx hy => by rw [clean_get hx hy]; exact clC_sub l i x
theorem clean_sv {l : List CueD} (h : formF l = 0) (k : KeyD) : ∀ i, i ≤ l.length → sv (cleanTo l l.length) i k = sv l i k := by
 refine sv_all (good_allS (good_of h)) (good_allS (good_of (clean_form h))) (cleanTo_len l _) (fun i x y hx hy k => ?_) k
 rw [clean_get hx hy]
 unfold clC
 split
 ·rfl
 ·exact keep_val (good_allS (good_of h) x (List.mem_of_getElem? hx)) k
theorem clean_twice {l : List CueD} (h : formF l = 0) : cleanTo (cleanTo l l.length) (cleanTo l l.length).length = cleanTo l l.length := by
 apply List.ext_getElem?
 intro j
 cases hy : (cleanTo l l.length)[j]? with
 | none =>
  have := List.getElem?_eq_none_iff.1 hy
  exact List.getElem?_eq_none_iff.2 (by rw [cleanTo_len]; exact this)
 | some y =>
  have hj := (List.getElem?_eq_some_iff.1 hy).1
  obtain ⟨x, hx⟩ : ∃ x, l[j]? = some x := ⟨l[j]'(by rw [cleanTo_len] at hj; exact hj), List.getElem?_eq_getElem (by rw [cleanTo_len] at hj; exact hj)⟩
  rw [cleanTo_at hy _ hj]
  have e := clean_get hx hy
  have hv : ∀ m, keepM (beforeF ((cleanTo l l.length).take j)) m = keepM (beforeF (l.take j)) m := fun m => keepM_val (clean_sv h m.key j (by rw [cleanTo_len] at hj; omega))
  congr 1
  rw [e]
  unfold clC
  by_cases hb : x.block = true
  ·rw [if_pos hb, if_pos hb]
  ·rw [if_neg hb, if_neg (by exact hb)]
   have : keepM (beforeF ((cleanTo l l.length).take j)) = keepM (beforeF (l.take j)) := funext hv
   rw [this]
   show CueD.mk _ _ _ _ _ _ _ _ _ _ = CueD.mk _ _ _ _ _ _ _ _ _ _
   rw [List.filter_filter]
   simp
theorem blk_sv {l : List CueD} (h : formF l = 0) {a : Nat} (hb : formF (blkOn l a) = 0) : (blkOn l a).length = l.length ∧ (∀ (i : Nat) (x y : CueD), l[i]? = some x → (blkOn l a)[i]? = some y → y.number = x.number) ∧ ∀ k i, i ≤ l.length → sv (blkOn l a) i k = sv l i k := by
 have hS := good_allS (good_of h)
 have hlen : (blkOn l a).length = l.length := by unfold blkOn; split <;> simp
 have hget : ∀ (i : Nat) (x y : CueD), l[i]? = some x → (blkOn l a)[i]? = some y → y = x ∨ (i = a ∧ y = { x with block := true, moves := ((beforeF (l.take (a + 1))).map (·.key)).foldl (restP fun k => mvOf k (lookE (beforeF (l.take (a + 1))) k)) x.moves }) := by
  intro i x y hx hy
  unfold blkOn at hy
  cases hz : l[a]? with
  | none => rw [hz] at hy; simp only at hy; rw [hx] at hy; injection hy with hy; exact .inl hy.symm
  | some z =>
   rw [hz] at hy
   simp only at hy
   rw [List.getElem?_set] at hy
   by_cases e : a = i
   ·subst e
    rw [if_pos rfl, if_pos (List.getElem?_eq_some_iff.1 hz).1] at hy
    injection hy with hy
    rw [hz] at hx; injection hx with hx
    subst hx
    exact .inr ⟨rfl, hy.symm⟩
   ·rw [if_neg e, hx] at hy
    injection hy with hy
    exact .inl hy.symm
 refine ⟨hlen, fun i x y hx hy => ?_, fun k => sv_all hS (good_allS (good_of hb)) hlen (fun i x y hx hy k => ?_) k⟩
 ·rcases hget i x y hx hy with rfl | ⟨_, rfl⟩ <;> rfl
 ·rcases hget i x y hx hy with rfl | ⟨rfl, rfl⟩
  ·rfl
  have hsx := hS x (List.mem_of_getElem? hx)
  show mvV (mvK (((beforeF (l.take (i + 1))).map (·.key)).foldl (restP fun k => mvOf k (lookE (beforeF (l.take (i + 1))) k)) x.moves) k) _ = _
  rw [mvK_rest (fun k => mvOf_key k _) _ hsx]
  cases hh : hasM x.moves k
  ·rw [if_neg (by decide), mvK_none.2 hh]
   have hsv := sv_succ hx hsx k
   rw [mvK_none.2 hh] at hsv
   show _ = sv l i k
   have hsv' : sv l i k = valE (beforeF (l.take (i + 1))) k := hsv.symm
   rw [hsv']
   by_cases hk : k ∈ (beforeF (l.take (i + 1))).map (·.key)
   ·rw [if_pos hk]
    obtain ⟨e, he, hek⟩ := List.mem_map.1 hk
    have := (lookE_some (beforeF_srt (l.take (i + 1)))).2 ⟨he, hek⟩
    unfold valE
    rw [this]
    rfl
   ·rw [if_neg hk]; rfl
  ·rw [if_pos rfl]
theorem unblk_get {l : List CueD} {a i : Nat} {x y : CueD} (hx : l[i]? = some x) (hy : (unblk l a)[i]? = some y) : y = x ∨ (i = a ∧ y = { x with block := false, moves := x.moves.filter (keepM (beforeF (l.take a))) }) := by
 unfold unblk at hy
 cases hz : l[a]? with
 | none => rw [hz] at hy; simp only at hy; rw [hx] at hy; injection hy with hy; exact .inl hy.symm
 | some z =>
  rw [hz] at hy
  simp only at hy
  rw [List.getElem?_set] at hy
  by_cases e : a = i
  ·subst e
   rw [if_pos rfl, if_pos (List.getElem?_eq_some_iff.1 hz).1] at hy
   injection hy with hy
   rw [hz] at hx; injection hx with hx
   subst hx
   exact .inr ⟨rfl, hy.symm⟩
  ·rw [if_neg e, hx] at hy
   injection hy with hy
   exact .inl hy.symm
theorem unblk_sv {l : List CueD} (h : formF l = 0) (a : Nat) : (unblk l a).length = l.length ∧ formF (unblk l a) = 0 ∧ (∀ (i : Nat) (x y : CueD), l[i]? = some x → (unblk l a)[i]? = some y → y.number = x.number) ∧ ∀ k i, i ≤ l.length → sv (unblk l a) i k = sv l i k := by
 have hS := good_allS (good_of h)
 have hlen : (unblk l a).length = l.length := by unfold unblk; split <;> simp
 have hf : formF (unblk l a) = 0 := form_less h hlen fun i x y hx hy => by
  rcases unblk_get hx hy with rfl | ⟨rfl, rfl⟩
  ·exact ⟨id, rfl, List.Sublist.refl _⟩
  ·exact ⟨id, rfl, List.filter_sublist⟩
 refine ⟨hlen, hf, fun i x y hx hy => ?_, fun k => sv_all hS (good_allS (good_of hf)) hlen (fun i x y hx hy k => ?_) k⟩
 ·rcases unblk_get hx hy with rfl | ⟨_, rfl⟩ <;> rfl
 ·rcases unblk_get hx hy with rfl | ⟨rfl, rfl⟩
  ·rfl
  ·exact keep_val (hS x (List.mem_of_getElem? hx)) k
theorem asB_t {a b : List CueD} (ha : okL okCue a) (hb : okL okCue b) (hfa : formF a = 0) (hfb : formF b = 0) (hlen : b.length = a.length) (hn : ∀ (i : Nat) (x y : CueD), a[i]? = some x → b[i]? = some y → y.number = x.number) (h : ∀ k i, i ≤ a.length → sv b i k = sv a i k) (σ : Heap) : m_W5_asBefore [sl 11 cCue a, sl 11 cCue b, .int .i64 0, .int .i64 0] σ = some (.bool true, σ) :=
 asBefore_t ha hb 0 0 (fun c hc _ _ => looks_all hfa hfb hlen hn h c hc) σ
theorem h_W5_CueCleansChangeNothing {l : List CueD} {n : Int} {σ : Heap} (h : okL okCue l ∧ inI n) : m_W5_CueCleansChangeNothing [sl 11 cCue l, .int .i64 n] σ = some (.bool true, σ) := by
 obtain ⟨hl, hn⟩ := h
 have run : r_W5_CueCleansChangeNothing (sl 11 cCue l) (.int .i64 n) σ = some (.bool true, σ) := by
  unfold r_W5_CueCleansChangeNothing
  rw [Clean_s hl σ, Option.bind_some, ext0, Option.bind_some, ext1, Option.bind_some, aNeI, Option.bind_some]
  have hok := cleanRes_ok hl
  by_cases hf : formF l = 0
  case neg =>
   have e1 : (cleanRes l).1 = [] := by unfold cleanRes; exact if_neg hf
   have e2 : (cleanRes l).2 = formF l := rfl
   rw [e1, e2, decide_eq_true hf, cnd_t, lenS_sl, Option.bind_some, aEq, Option.bind_some]
   exact fin_same _ _
  have e1 : (cleanRes l).1 = cleanTo l l.length := by unfold cleanRes; exact if_pos hf
  have e2 : (cleanRes l).2 = 0 := hf
  rw [e1] at hok
  have hcf := clean_form hf
  have d1 : (cleanRes (cleanTo l l.length)).1 = cleanTo l l.length := by unfold cleanRes; rw [if_pos hcf]; exact clean_twice hf
  have d2 : (cleanRes (cleanTo l l.length)).2 = 0 := hcf
  rw [e1, e2, decide_eq_false (by decide), cnd_f, Clean_s hok σ, Option.bind_some, ext0, Option.bind_some, ext1, Option.bind_some, d1, d2, aNeI, Option.bind_some, decide_eq_false (by decide)]
  have q1 := asB_t hl hok hf hcf (cleanTo_len l _) (fun i x y hx hy => by rw [clean_get hx hy]; exact (clC_sub l i x).2.1) (fun k => clean_sv hf k) σ
  simp only [gdF, gdT, gdFx, gdTx, pkF, pkT, notT, notF, Option.bind_some]
  rw [quiet_of (sameList_t _ hok σ)]
  simp only [gdF, gdT, gdFx, gdTx, pkF, pkT, notT, notF, Option.bind_some]
  rw [quiet_of q1]
  simp only [gdF, gdT, gdFx, gdTx, pkF, pkT, notT, notF, Option.bind_some]
  rw [lenS_sl, lenS_sl]
  simp only [gdF, gdT, gdFx, gdTx, pkF, pkT, notT, notF, Option.bind_some]
  rw [cleanTo_len, aNe, decide_eq_false (by simp)]
  simp only [gdF, gdT, gdFx, gdTx, pkF, pkT, notT, notF, Option.bind_some]
  rw [cnd_f, Block_s hl hn σ, Option.bind_some, ext0, Option.bind_some, ext1, Option.bind_some, aEq, Option.bind_some]
  have hbok := blockF_ok hl n
  have q2 : (blockF l n).2 = 0 → m_W5_asBefore [sl 11 cCue l, sl 11 cCue (blockF l n).1, .int .i64 0, .int .i64 0] σ = some (.bool true, σ) := by
   intro hz
   unfold blockF at hz hbok ⊢
   rw [if_neg (by simp [hf])] at hz hbok ⊢
   cases hh : hasC l n
   ·rw [hh, if_pos rfl] at hz; cases hz
   rw [hh, if_neg (by decide)] at hz hbok
   rw [if_neg (by decide)]
   rw [doneF_pair] at hz hbok ⊢
   simp only at hz hbok ⊢
   rw [if_pos hz] at hbok ⊢
   obtain ⟨r1, r2, r3⟩ := blk_sv hf hz
   exact asB_t hl hbok hf hz r1 r2 r3 σ
  have q3 : (unblockF l n).2 = 0 → m_W5_asBefore [sl 11 cCue l, sl 11 cCue (unblockF l n).1, .int .i64 0, .int .i64 0] σ = some (.bool true, σ) := by
   intro hz
   have huok := unblockF_ok hl n
   unfold unblockF at hz huok ⊢
   rw [if_neg (by simp [hf])] at hz huok ⊢
   cases hh : hasC l n
   ·rw [hh, if_pos rfl] at hz; cases hz
   rw [hh, if_neg (by decide)] at hz huok
   rw [if_neg (by decide)]
   obtain ⟨r1, r2, r3, r4⟩ := unblk_sv hf (posC l n)
   exact asB_t hl huok hf r2 r1 r3 r4 σ
  have tail : ((m_cue_Unblock [sl 11 cCue l, .int .i64 n] σ).bind fun r36 =>
    (A.ext 0 r36.1).bind fun x37 =>
    (A.ext 1 r36.1).bind fun x38 =>
    (A.neq .i x38 (AV.int .i64 0)).bind fun x39 =>
    (A.guard x39 false (some (sl 11 cCue l)) (some (AV.tup []))).bind fun x40 =>
    (A.guard x39 false (some x37) (some (AV.tup []))).bind fun x41 =>
    (A.guard x39 false (A.quiet (m_W5_asBefore [x40, x41, (AV.int .i64 0), (AV.int .i64 0)] r36.2) r36.2) (some (AV.tup []))).bind fun x42 =>
    (A.pick x39 (AV.bool true) x42).bind fun x43 =>
    A.fin σ x43 r36.2) = some (.bool true, σ) := by
   rw [Unblock_s hl hn σ, Option.bind_some, ext0, Option.bind_some, ext1, Option.bind_some, aNeI, Option.bind_some]
   by_cases hz : (unblockF l n).2 = 0
   ·rw [decide_eq_false (by simp [hz])]
    simp only [gdF, gdT, gdFx, gdTx, pkF, pkT, notT, notF, Option.bind_some]
    rw [quiet_of (q3 hz)]
    simp only [gdF, gdT, gdFx, gdTx, pkF, pkT, notT, notF, Option.bind_some]
    exact fin_same _ _
   ·rw [decide_eq_true hz]
    simp only [gdF, gdT, gdFx, gdTx, pkF, pkT, notT, notF, Option.bind_some]
    exact fin_same _ _
  by_cases hz : (blockF l n).2 = 0
  ·rw [decide_eq_true hz]
   simp only [gdF, gdT, gdFx, gdTx, pkF, pkT, notT, notF, Option.bind_some]
   rw [quiet_of (q2 hz)]
   simp only [gdF, gdT, gdFx, gdTx, pkF, pkT, notT, notF, Option.bind_some]
   rw [cnd_f]
   exact tail
  ·rw [decide_eq_false hz]
   simp only [gdF, gdT, gdFx, gdTx, pkF, pkT, notT, notF, Option.bind_some]
   rw [cnd_f]
   exact tail
 refine wrap_eq rfl ?_ rfl
 rw [show A.nnL [Sh.e 11 [.k, .k, .k, .k, .k, .k, .k, .s 2, .k, .k, .s 8]] [sl 11 cCue l, .int .i64 n] = [sl 11 cCue l, .int .i64 n] from nn_arg1 l _]
 exact run
theorem cueCleansChangeNothing_true (l : List CueD) (n : Int) (hl : okL okCue l) (hn : inI n) : okL okCue l ∧ inI n := ⟨hl, hn⟩
end Go.Proofs.Ytphgchakmkankaa

namespace Go.Proofs.Ytphgchakmkankaa
set_option linter.unusedSectionVars false
set_option linter.unusedSimpArgs false
set_option linter.unusedVariables false
open Go.ChangeShapes Go.WideShapes Go.ChangeAt Go.RowKit

theorem own : ownKnob Try.prog.godebug = none := by kernel_rfl
theorem laidOut : laidOutB Try.prog = true := by kernel_rfl

theorem trodAll_below {H : Type} {enc : TypeId × Value → H} {P : Program} (hl : laidOutB P = true) {W W' : World} (hb : Below W.heap.size W W') :
  ∀ {ts : List TypeId} {vs : List Value} {ds : List (DataW H)} {ps : List MemPlace}, (ts.all fun t => P.readableRec t && decide (t < P.types.size)) = true →
   DataW.TrodAll enc P W 0 (fun _ => true) true ts vs ds ps → (∀ x ∈ ps, x.block < W.heap.size) → DataW.TrodAll enc P W' 0 (fun b => decide (b < W.heap.size)) true ts vs ds ps
 | [], [], [], _, _, h, _ => h
 | t :: ts, v :: vs, d :: ds, ps, hts, h, hlt => by
  obtain ⟨p, q, h1, h2, rfl⟩ := h
  simp only [List.all_cons, Bool.and_eq_true, decide_eq_true_eq] at hts
  exact ⟨p, q, Below.trod hl hts.1.1 hts.1.2 h1 hb (fun x hx => hlt x (List.mem_append_left _ hx)),
   trodAll_below hl hb (by simpa using hts.2) h2 (fun x hx => hlt x (List.mem_append_right _ hx)), rfl⟩
 | [], _ :: _, _, _, _, h, _ => h.elim
 | [], [], _ :: _, _, _, h, _ => h.elim
 | _ :: _, [], _, _, _, h, _ => h.elim
 | _ :: _, _ :: _, [], _, _, h, _ => h.elim

theorem law_post {H : Type} {enc : TypeId × Value → H} {f : Func} {s : ChangeSpec} {W W' : World} {args : Array Value} {ds gs : List (DataW H)} {before : List MemPlace} {t : TypeId}
  (hts : (f.params.toList.all fun t => Try.prog.readableRec t && decide (t < Try.prog.types.size)) = true) (hrt : f.resultTypes = #[t]) (ht : Try.prog.underlying t = some .bool) (hvs : s.vars = [])
  (hW : DataW.Whole enc Try.prog f.params.toList s.vars false W args.toList ds gs before) (hb : Below W.heap.size W W')
  (hspec : s.fn H (ds ++ gs) = { results := [.lit (.bool true)], args := ds }) :
  s.post enc Try.prog f false true false false W args (.bool true) W' := by
 have hW' := hW
 obtain ⟨p, q, hA, hV, rfl, hfz, hnd⟩ := hW
 have hlt : ∀ x ∈ p ++ q, x.block < W.heap.size := fun x hx => hW'.lt x hx
 refine ⟨ds, gs, p ++ q, [], p, [], hW', ?_, ?_, ?_, hb.frame _, fun h => by cases h⟩
 ·rw [hspec, hrt]
  exact trodAll_cons_mk (shut_bool ht _) trodAll_mk0
 ·rw [hspec]
  exact trodAll_below laidOut hb hts hA (fun x hx => hlt x (List.mem_append_left _ hx))
 ·rw [hspec, hvs]
  exact rfl
end Go.Proofs.Ytphgchakmkankaa

namespace Go.Proofs.Ytphgchakmkankaa
set_option linter.unusedSectionVars false
open Go.RowKit
set_option linter.unusedVariables false
set_option linter.unusedSimpArgs false

def Gr (w w' : World) : Prop := Below w.heap.size w w'
theorem Gr.refl (w : World) : Gr w w := Below.refl _ _
theorem Gr.below {w w' : World} (h : Gr w w') : Below w.heap.size w w' := h
theorem Gr.of {w w' : World} (h : Below w.heap.size w w') : Gr w w' := h
theorem Gr.trans {a b c : World} (h : Gr a b) (k : Gr b c) : Gr a c := Below.trans h (Below.mono k (Below.size h))
theorem Gr.alloc {a b : World} (h : Gr a b) (o : Obj) : Gr a (b.alloc o) := Below.alloc h (Below.size h) o
theorem Gr.drew {a b : World} (h : Gr a b) : Gr a b.drew := Below.drew h
theorem Gr.drewN {a b : World} (h : Gr a b) (n : Nat) : Gr a (b.drewN n) := ⟨h.os, h.tape, h.output, h.size, h.block⟩
theorem Gr.set {a b : World} (h : Gr a b) {k o : Nat} (hp : a.heap.size ≤ k) (u : Value) : Gr a (b.setCell ⟨k, o, none⟩ u) := Below.setCell h hp u
theorem Gr.put {a b : World} {k o : Nat} (hp : a.heap.size ≤ k) (h : Gr a b) (u : Value) : Gr a (b.setCell ⟨k, o, none⟩ u) := Below.setCell h hp u
theorem Gr.after {a b c : World} (k : Gr b c) (h : Gr a b) : Gr a c := h.trans k
theorem Gr.size {a b : World} (h : Gr a b) : a.heap.size ≤ b.heap.size := Below.size h
theorem Gr.cell {a b : World} (h : Gr a b) {p : Addr} {v : Value} (hc : a.cell? p = some v) : b.cell? p = some v := by
 by_cases hp : p.block < a.heap.size
 ·rw [Below.cell h hp]; exact hc
 ·have : a.heap[p.block]? = none := Array.getElem?_eq_none (by omega)
  simp [World.cell?, this] at hc
theorem Gr.free {a b : World} (h : Gr a b) {p : Addr} (hp : p.block < a.heap.size) {x : Bool} (hc : a.frozen? p = x) : b.frozen? p = x := by
 rw [Below.frozen h hp]; exact hc
theorem Gr.lt {w w1 : World} {o : Obj} (h : Gr (w.alloc o) w1) : w.heap.size < w1.heap.size := by have := h.size; simp at this; omega
abbrev Box1 (w : World) (b : Nat) (v0 : Value) : Prop := (w.cell? ⟨b, 0, none⟩ = some v0) ∧ (w.frozen? ⟨b, 0, none⟩ = false) ∧ b < w.heap.size
theorem Box1.mono {w w1 : World} {b : Nat} {v0 : Value} (k : Box1 w b v0) (h : Gr w w1) : Box1 w1 b v0 := by
 obtain ⟨k0, f0, hlt⟩ := k
 exact ⟨h.cell k0, h.free (by exact hlt) f0, Nat.lt_of_lt_of_le hlt h.size⟩
theorem Box1.of {w : World} {b : Nat} {v0 : Value} {t : TypeId} (h : w.heap[b]? = some (.cells #[v0] t (0, 0))) : Box1 w b v0 := by
 have hlt : b < w.heap.size := (Array.getElem?_eq_some_iff.1 h).1
 refine ⟨?_, ?_, hlt⟩ <;> simp [World.cell?, World.frozen?, h]
theorem Box1.at {w w1 : World} {b : Nat} {v0 : Value} {t : TypeId} (g : Gr w w1) (h : w.heap[b]? = some (.cells #[v0] t (0, 0))) : Box1 w1 b v0 := (Box1.of h).mono g
abbrev Box2 (w : World) (b : Nat) (v0 v1 : Value) : Prop := (w.cell? ⟨b, 0, none⟩ = some v0 ∧ w.cell? ⟨b, 1, none⟩ = some v1) ∧ (w.frozen? ⟨b, 0, none⟩ = false ∧ w.frozen? ⟨b, 1, none⟩ = false) ∧ b < w.heap.size
theorem Box2.mono {w w1 : World} {b : Nat} {v0 v1 : Value} (k : Box2 w b v0 v1) (h : Gr w w1) : Box2 w1 b v0 v1 := by
 obtain ⟨⟨k0, k1⟩, ⟨f0, f1⟩, hlt⟩ := k
 exact ⟨⟨h.cell k0, h.cell k1⟩, ⟨h.free (by exact hlt) f0, h.free (by exact hlt) f1⟩, Nat.lt_of_lt_of_le hlt h.size⟩
theorem Box2.of {w : World} {b : Nat} {v0 v1 : Value} {t : TypeId} (h : w.heap[b]? = some (.cells #[v0, v1] t (0, 0))) : Box2 w b v0 v1 := by
 have hlt : b < w.heap.size := (Array.getElem?_eq_some_iff.1 h).1
 refine ⟨⟨?_, ?_⟩, ⟨?_, ?_⟩, hlt⟩ <;> simp [World.cell?, World.frozen?, h]
theorem Box2.at {w w1 : World} {b : Nat} {v0 v1 : Value} {t : TypeId} (g : Gr w w1) (h : w.heap[b]? = some (.cells #[v0, v1] t (0, 0))) : Box2 w1 b v0 v1 := (Box2.of h).mono g
abbrev Box3 (w : World) (b : Nat) (v0 v1 v2 : Value) : Prop := (w.cell? ⟨b, 0, none⟩ = some v0 ∧ w.cell? ⟨b, 1, none⟩ = some v1 ∧ w.cell? ⟨b, 2, none⟩ = some v2) ∧ (w.frozen? ⟨b, 0, none⟩ = false ∧ w.frozen? ⟨b, 1, none⟩ = false ∧ w.frozen? ⟨b, 2, none⟩ = false) ∧ b < w.heap.size
theorem Box3.mono {w w1 : World} {b : Nat} {v0 v1 v2 : Value} (k : Box3 w b v0 v1 v2) (h : Gr w w1) : Box3 w1 b v0 v1 v2 := by
 obtain ⟨⟨k0, k1, k2⟩, ⟨f0, f1, f2⟩, hlt⟩ := k
 exact ⟨⟨h.cell k0, h.cell k1, h.cell k2⟩, ⟨h.free (by exact hlt) f0, h.free (by exact hlt) f1, h.free (by exact hlt) f2⟩, Nat.lt_of_lt_of_le hlt h.size⟩
theorem Box3.of {w : World} {b : Nat} {v0 v1 v2 : Value} {t : TypeId} (h : w.heap[b]? = some (.cells #[v0, v1, v2] t (0, 0))) : Box3 w b v0 v1 v2 := by
 have hlt : b < w.heap.size := (Array.getElem?_eq_some_iff.1 h).1
 refine ⟨⟨?_, ?_, ?_⟩, ⟨?_, ?_, ?_⟩, hlt⟩ <;> simp [World.cell?, World.frozen?, h]
theorem Box3.at {w w1 : World} {b : Nat} {v0 v1 v2 : Value} {t : TypeId} (g : Gr w w1) (h : w.heap[b]? = some (.cells #[v0, v1, v2] t (0, 0))) : Box3 w1 b v0 v1 v2 := (Box3.of h).mono g
abbrev Box4 (w : World) (b : Nat) (v0 v1 v2 v3 : Value) : Prop := (w.cell? ⟨b, 0, none⟩ = some v0 ∧ w.cell? ⟨b, 1, none⟩ = some v1 ∧ w.cell? ⟨b, 2, none⟩ = some v2 ∧ w.cell? ⟨b, 3, none⟩ = some v3) ∧ (w.frozen? ⟨b, 0, none⟩ = false ∧ w.frozen? ⟨b, 1, none⟩ = false ∧ w.frozen? ⟨b, 2, none⟩ = false ∧ w.frozen? ⟨b, 3, none⟩ = false) ∧ b < w.heap.size
theorem Box4.mono {w w1 : World} {b : Nat} {v0 v1 v2 v3 : Value} (k : Box4 w b v0 v1 v2 v3) (h : Gr w w1) : Box4 w1 b v0 v1 v2 v3 := by
 obtain ⟨⟨k0, k1, k2, k3⟩, ⟨f0, f1, f2, f3⟩, hlt⟩ := k
 exact ⟨⟨h.cell k0, h.cell k1, h.cell k2, h.cell k3⟩, ⟨h.free (by exact hlt) f0, h.free (by exact hlt) f1, h.free (by exact hlt) f2, h.free (by exact hlt) f3⟩, Nat.lt_of_lt_of_le hlt h.size⟩
theorem Box4.of {w : World} {b : Nat} {v0 v1 v2 v3 : Value} {t : TypeId} (h : w.heap[b]? = some (.cells #[v0, v1, v2, v3] t (0, 0))) : Box4 w b v0 v1 v2 v3 := by
 have hlt : b < w.heap.size := (Array.getElem?_eq_some_iff.1 h).1
 refine ⟨⟨?_, ?_, ?_, ?_⟩, ⟨?_, ?_, ?_, ?_⟩, hlt⟩ <;> simp [World.cell?, World.frozen?, h]
theorem Box4.at {w w1 : World} {b : Nat} {v0 v1 v2 v3 : Value} {t : TypeId} (g : Gr w w1) (h : w.heap[b]? = some (.cells #[v0, v1, v2, v3] t (0, 0))) : Box4 w1 b v0 v1 v2 v3 := (Box4.of h).mono g
abbrev Box5 (w : World) (b : Nat) (v0 v1 v2 v3 v4 : Value) : Prop := (w.cell? ⟨b, 0, none⟩ = some v0 ∧ w.cell? ⟨b, 1, none⟩ = some v1 ∧ w.cell? ⟨b, 2, none⟩ = some v2 ∧ w.cell? ⟨b, 3, none⟩ = some v3 ∧ w.cell? ⟨b, 4, none⟩ = some v4) ∧ (w.frozen? ⟨b, 0, none⟩ = false ∧ w.frozen? ⟨b, 1, none⟩ = false ∧ w.frozen? ⟨b, 2, none⟩ = false ∧ w.frozen? ⟨b, 3, none⟩ = false ∧ w.frozen? ⟨b, 4, none⟩ = false) ∧ b < w.heap.size
theorem Box5.mono {w w1 : World} {b : Nat} {v0 v1 v2 v3 v4 : Value} (k : Box5 w b v0 v1 v2 v3 v4) (h : Gr w w1) : Box5 w1 b v0 v1 v2 v3 v4 := by
 obtain ⟨⟨k0, k1, k2, k3, k4⟩, ⟨f0, f1, f2, f3, f4⟩, hlt⟩ := k
 exact ⟨⟨h.cell k0, h.cell k1, h.cell k2, h.cell k3, h.cell k4⟩, ⟨h.free (by exact hlt) f0, h.free (by exact hlt) f1, h.free (by exact hlt) f2, h.free (by exact hlt) f3, h.free (by exact hlt) f4⟩, Nat.lt_of_lt_of_le hlt h.size⟩
theorem Box5.of {w : World} {b : Nat} {v0 v1 v2 v3 v4 : Value} {t : TypeId} (h : w.heap[b]? = some (.cells #[v0, v1, v2, v3, v4] t (0, 0))) : Box5 w b v0 v1 v2 v3 v4 := by
 have hlt : b < w.heap.size := (Array.getElem?_eq_some_iff.1 h).1
 refine ⟨⟨?_, ?_, ?_, ?_, ?_⟩, ⟨?_, ?_, ?_, ?_, ?_⟩, hlt⟩ <;> simp [World.cell?, World.frozen?, h]
theorem Box5.at {w w1 : World} {b : Nat} {v0 v1 v2 v3 v4 : Value} {t : TypeId} (g : Gr w w1) (h : w.heap[b]? = some (.cells #[v0, v1, v2, v3, v4] t (0, 0))) : Box5 w1 b v0 v1 v2 v3 v4 := (Box5.of h).mono g
abbrev Box6 (w : World) (b : Nat) (v0 v1 v2 v3 v4 v5 : Value) : Prop := (w.cell? ⟨b, 0, none⟩ = some v0 ∧ w.cell? ⟨b, 1, none⟩ = some v1 ∧ w.cell? ⟨b, 2, none⟩ = some v2 ∧ w.cell? ⟨b, 3, none⟩ = some v3 ∧ w.cell? ⟨b, 4, none⟩ = some v4 ∧ w.cell? ⟨b, 5, none⟩ = some v5) ∧ (w.frozen? ⟨b, 0, none⟩ = false ∧ w.frozen? ⟨b, 1, none⟩ = false ∧ w.frozen? ⟨b, 2, none⟩ = false ∧ w.frozen? ⟨b, 3, none⟩ = false ∧ w.frozen? ⟨b, 4, none⟩ = false ∧ w.frozen? ⟨b, 5, none⟩ = false) ∧ b < w.heap.size
theorem Box6.mono {w w1 : World} {b : Nat} {v0 v1 v2 v3 v4 v5 : Value} (k : Box6 w b v0 v1 v2 v3 v4 v5) (h : Gr w w1) : Box6 w1 b v0 v1 v2 v3 v4 v5 := by
 obtain ⟨⟨k0, k1, k2, k3, k4, k5⟩, ⟨f0, f1, f2, f3, f4, f5⟩, hlt⟩ := k
 exact ⟨⟨h.cell k0, h.cell k1, h.cell k2, h.cell k3, h.cell k4, h.cell k5⟩, ⟨h.free (by exact hlt) f0, h.free (by exact hlt) f1, h.free (by exact hlt) f2, h.free (by exact hlt) f3, h.free (by exact hlt) f4, h.free (by exact hlt) f5⟩, Nat.lt_of_lt_of_le hlt h.size⟩
theorem Box6.of {w : World} {b : Nat} {v0 v1 v2 v3 v4 v5 : Value} {t : TypeId} (h : w.heap[b]? = some (.cells #[v0, v1, v2, v3, v4, v5] t (0, 0))) : Box6 w b v0 v1 v2 v3 v4 v5 := by
 have hlt : b < w.heap.size := (Array.getElem?_eq_some_iff.1 h).1
 refine ⟨⟨?_, ?_, ?_, ?_, ?_, ?_⟩, ⟨?_, ?_, ?_, ?_, ?_, ?_⟩, hlt⟩ <;> simp [World.cell?, World.frozen?, h]
theorem Box6.at {w w1 : World} {b : Nat} {v0 v1 v2 v3 v4 v5 : Value} {t : TypeId} (g : Gr w w1) (h : w.heap[b]? = some (.cells #[v0, v1, v2, v3, v4, v5] t (0, 0))) : Box6 w1 b v0 v1 v2 v3 v4 v5 := (Box6.of h).mono g
abbrev Box7 (w : World) (b : Nat) (v0 v1 v2 v3 v4 v5 v6 : Value) : Prop := (w.cell? ⟨b, 0, none⟩ = some v0 ∧ w.cell? ⟨b, 1, none⟩ = some v1 ∧ w.cell? ⟨b, 2, none⟩ = some v2 ∧ w.cell? ⟨b, 3, none⟩ = some v3 ∧ w.cell? ⟨b, 4, none⟩ = some v4 ∧ w.cell? ⟨b, 5, none⟩ = some v5 ∧ w.cell? ⟨b, 6, none⟩ = some v6) ∧ (w.frozen? ⟨b, 0, none⟩ = false ∧ w.frozen? ⟨b, 1, none⟩ = false ∧ w.frozen? ⟨b, 2, none⟩ = false ∧ w.frozen? ⟨b, 3, none⟩ = false ∧ w.frozen? ⟨b, 4, none⟩ = false ∧ w.frozen? ⟨b, 5, none⟩ = false ∧ w.frozen? ⟨b, 6, none⟩ = false) ∧ b < w.heap.size
theorem Box7.mono {w w1 : World} {b : Nat} {v0 v1 v2 v3 v4 v5 v6 : Value} (k : Box7 w b v0 v1 v2 v3 v4 v5 v6) (h : Gr w w1) : Box7 w1 b v0 v1 v2 v3 v4 v5 v6 := by
 obtain ⟨⟨k0, k1, k2, k3, k4, k5, k6⟩, ⟨f0, f1, f2, f3, f4, f5, f6⟩, hlt⟩ := k
 exact ⟨⟨h.cell k0, h.cell k1, h.cell k2, h.cell k3, h.cell k4, h.cell k5, h.cell k6⟩, ⟨h.free (by exact hlt) f0, h.free (by exact hlt) f1, h.free (by exact hlt) f2, h.free (by exact hlt) f3, h.free (by exact hlt) f4, h.free (by exact hlt) f5, h.free (by exact hlt) f6⟩, Nat.lt_of_lt_of_le hlt h.size⟩
theorem Box7.of {w : World} {b : Nat} {v0 v1 v2 v3 v4 v5 v6 : Value} {t : TypeId} (h : w.heap[b]? = some (.cells #[v0, v1, v2, v3, v4, v5, v6] t (0, 0))) : Box7 w b v0 v1 v2 v3 v4 v5 v6 := by
 have hlt : b < w.heap.size := (Array.getElem?_eq_some_iff.1 h).1
 refine ⟨⟨?_, ?_, ?_, ?_, ?_, ?_, ?_⟩, ⟨?_, ?_, ?_, ?_, ?_, ?_, ?_⟩, hlt⟩ <;> simp [World.cell?, World.frozen?, h]
theorem Box7.at {w w1 : World} {b : Nat} {v0 v1 v2 v3 v4 v5 v6 : Value} {t : TypeId} (g : Gr w w1) (h : w.heap[b]? = some (.cells #[v0, v1, v2, v3, v4, v5, v6] t (0, 0))) : Box7 w1 b v0 v1 v2 v3 v4 v5 v6 := (Box7.of h).mono g
abbrev Box8 (w : World) (b : Nat) (v0 v1 v2 v3 v4 v5 v6 v7 : Value) : Prop := (w.cell? ⟨b, 0, none⟩ = some v0 ∧ w.cell? ⟨b, 1, none⟩ = some v1 ∧ w.cell? ⟨b, 2, none⟩ = some v2 ∧ w.cell? ⟨b, 3, none⟩ = some v3 ∧ w.cell? ⟨b, 4, none⟩ = some v4 ∧ w.cell? ⟨b, 5, none⟩ = some v5 ∧ w.cell? ⟨b, 6, none⟩ = some v6 ∧ w.cell? ⟨b, 7, none⟩ = some v7) ∧ (w.frozen? ⟨b, 0, none⟩ = false ∧ w.frozen? ⟨b, 1, none⟩ = false ∧ w.frozen? ⟨b, 2, none⟩ = false ∧ w.frozen? ⟨b, 3, none⟩ = false ∧ w.frozen? ⟨b, 4, none⟩ = false ∧ w.frozen? ⟨b, 5, none⟩ = false ∧ w.frozen? ⟨b, 6, none⟩ = false ∧ w.frozen? ⟨b, 7, none⟩ = false) ∧ b < w.heap.size
theorem Box8.mono {w w1 : World} {b : Nat} {v0 v1 v2 v3 v4 v5 v6 v7 : Value} (k : Box8 w b v0 v1 v2 v3 v4 v5 v6 v7) (h : Gr w w1) : Box8 w1 b v0 v1 v2 v3 v4 v5 v6 v7 := by
 obtain ⟨⟨k0, k1, k2, k3, k4, k5, k6, k7⟩, ⟨f0, f1, f2, f3, f4, f5, f6, f7⟩, hlt⟩ := k
 exact ⟨⟨h.cell k0, h.cell k1, h.cell k2, h.cell k3, h.cell k4, h.cell k5, h.cell k6, h.cell k7⟩, ⟨h.free (by exact hlt) f0, h.free (by exact hlt) f1, h.free (by exact hlt) f2, h.free (by exact hlt) f3, h.free (by exact hlt) f4, h.free (by exact hlt) f5, h.free (by exact hlt) f6, h.free (by exact hlt) f7⟩, Nat.lt_of_lt_of_le hlt h.size⟩
theorem Box8.of {w : World} {b : Nat} {v0 v1 v2 v3 v4 v5 v6 v7 : Value} {t : TypeId} (h : w.heap[b]? = some (.cells #[v0, v1, v2, v3, v4, v5, v6, v7] t (0, 0))) : Box8 w b v0 v1 v2 v3 v4 v5 v6 v7 := by
 have hlt : b < w.heap.size := (Array.getElem?_eq_some_iff.1 h).1
 refine ⟨⟨?_, ?_, ?_, ?_, ?_, ?_, ?_, ?_⟩, ⟨?_, ?_, ?_, ?_, ?_, ?_, ?_, ?_⟩, hlt⟩ <;> simp [World.cell?, World.frozen?, h]
theorem Box8.at {w w1 : World} {b : Nat} {v0 v1 v2 v3 v4 v5 v6 v7 : Value} {t : TypeId} (g : Gr w w1) (h : w.heap[b]? = some (.cells #[v0, v1, v2, v3, v4, v5, v6, v7] t (0, 0))) : Box8 w1 b v0 v1 v2 v3 v4 v5 v6 v7 := (Box8.of h).mono g
abbrev Box9 (w : World) (b : Nat) (v0 v1 v2 v3 v4 v5 v6 v7 v8 : Value) : Prop := (w.cell? ⟨b, 0, none⟩ = some v0 ∧ w.cell? ⟨b, 1, none⟩ = some v1 ∧ w.cell? ⟨b, 2, none⟩ = some v2 ∧ w.cell? ⟨b, 3, none⟩ = some v3 ∧ w.cell? ⟨b, 4, none⟩ = some v4 ∧ w.cell? ⟨b, 5, none⟩ = some v5 ∧ w.cell? ⟨b, 6, none⟩ = some v6 ∧ w.cell? ⟨b, 7, none⟩ = some v7 ∧ w.cell? ⟨b, 8, none⟩ = some v8) ∧ (w.frozen? ⟨b, 0, none⟩ = false ∧ w.frozen? ⟨b, 1, none⟩ = false ∧ w.frozen? ⟨b, 2, none⟩ = false ∧ w.frozen? ⟨b, 3, none⟩ = false ∧ w.frozen? ⟨b, 4, none⟩ = false ∧ w.frozen? ⟨b, 5, none⟩ = false ∧ w.frozen? ⟨b, 6, none⟩ = false ∧ w.frozen? ⟨b, 7, none⟩ = false ∧ w.frozen? ⟨b, 8, none⟩ = false) ∧ b < w.heap.size
theorem Box9.mono {w w1 : World} {b : Nat} {v0 v1 v2 v3 v4 v5 v6 v7 v8 : Value} (k : Box9 w b v0 v1 v2 v3 v4 v5 v6 v7 v8) (h : Gr w w1) : Box9 w1 b v0 v1 v2 v3 v4 v5 v6 v7 v8 := by
 obtain ⟨⟨k0, k1, k2, k3, k4, k5, k6, k7, k8⟩, ⟨f0, f1, f2, f3, f4, f5, f6, f7, f8⟩, hlt⟩ := k
 exact ⟨⟨h.cell k0, h.cell k1, h.cell k2, h.cell k3, h.cell k4, h.cell k5, h.cell k6, h.cell k7, h.cell k8⟩, ⟨h.free (by exact hlt) f0, h.free (by exact hlt) f1, h.free (by exact hlt) f2, h.free (by exact hlt) f3, h.free (by exact hlt) f4, h.free (by exact hlt) f5, h.free (by exact hlt) f6, h.free (by exact hlt) f7, h.free (by exact hlt) f8⟩, Nat.lt_of_lt_of_le hlt h.size⟩
theorem Box9.of {w : World} {b : Nat} {v0 v1 v2 v3 v4 v5 v6 v7 v8 : Value} {t : TypeId} (h : w.heap[b]? = some (.cells #[v0, v1, v2, v3, v4, v5, v6, v7, v8] t (0, 0))) : Box9 w b v0 v1 v2 v3 v4 v5 v6 v7 v8 := by
 have hlt : b < w.heap.size := (Array.getElem?_eq_some_iff.1 h).1
 refine ⟨⟨?_, ?_, ?_, ?_, ?_, ?_, ?_, ?_, ?_⟩, ⟨?_, ?_, ?_, ?_, ?_, ?_, ?_, ?_, ?_⟩, hlt⟩ <;> simp [World.cell?, World.frozen?, h]
theorem Box9.at {w w1 : World} {b : Nat} {v0 v1 v2 v3 v4 v5 v6 v7 v8 : Value} {t : TypeId} (g : Gr w w1) (h : w.heap[b]? = some (.cells #[v0, v1, v2, v3, v4, v5, v6, v7, v8] t (0, 0))) : Box9 w1 b v0 v1 v2 v3 v4 v5 v6 v7 v8 := (Box9.of h).mono g
abbrev Box10 (w : World) (b : Nat) (v0 v1 v2 v3 v4 v5 v6 v7 v8 v9 : Value) : Prop := (w.cell? ⟨b, 0, none⟩ = some v0 ∧ w.cell? ⟨b, 1, none⟩ = some v1 ∧ w.cell? ⟨b, 2, none⟩ = some v2 ∧ w.cell? ⟨b, 3, none⟩ = some v3 ∧ w.cell? ⟨b, 4, none⟩ = some v4 ∧ w.cell? ⟨b, 5, none⟩ = some v5 ∧ w.cell? ⟨b, 6, none⟩ = some v6 ∧ w.cell? ⟨b, 7, none⟩ = some v7 ∧ w.cell? ⟨b, 8, none⟩ = some v8 ∧ w.cell? ⟨b, 9, none⟩ = some v9) ∧ (w.frozen? ⟨b, 0, none⟩ = false ∧ w.frozen? ⟨b, 1, none⟩ = false ∧ w.frozen? ⟨b, 2, none⟩ = false ∧ w.frozen? ⟨b, 3, none⟩ = false ∧ w.frozen? ⟨b, 4, none⟩ = false ∧ w.frozen? ⟨b, 5, none⟩ = false ∧ w.frozen? ⟨b, 6, none⟩ = false ∧ w.frozen? ⟨b, 7, none⟩ = false ∧ w.frozen? ⟨b, 8, none⟩ = false ∧ w.frozen? ⟨b, 9, none⟩ = false) ∧ b < w.heap.size
theorem Box10.mono {w w1 : World} {b : Nat} {v0 v1 v2 v3 v4 v5 v6 v7 v8 v9 : Value} (k : Box10 w b v0 v1 v2 v3 v4 v5 v6 v7 v8 v9) (h : Gr w w1) : Box10 w1 b v0 v1 v2 v3 v4 v5 v6 v7 v8 v9 := by
 obtain ⟨⟨k0, k1, k2, k3, k4, k5, k6, k7, k8, k9⟩, ⟨f0, f1, f2, f3, f4, f5, f6, f7, f8, f9⟩, hlt⟩ := k
 exact ⟨⟨h.cell k0, h.cell k1, h.cell k2, h.cell k3, h.cell k4, h.cell k5, h.cell k6, h.cell k7, h.cell k8, h.cell k9⟩, ⟨h.free (by exact hlt) f0, h.free (by exact hlt) f1, h.free (by exact hlt) f2, h.free (by exact hlt) f3, h.free (by exact hlt) f4, h.free (by exact hlt) f5, h.free (by exact hlt) f6, h.free (by exact hlt) f7, h.free (by exact hlt) f8, h.free (by exact hlt) f9⟩, Nat.lt_of_lt_of_le hlt h.size⟩
theorem Box10.of {w : World} {b : Nat} {v0 v1 v2 v3 v4 v5 v6 v7 v8 v9 : Value} {t : TypeId} (h : w.heap[b]? = some (.cells #[v0, v1, v2, v3, v4, v5, v6, v7, v8, v9] t (0, 0))) : Box10 w b v0 v1 v2 v3 v4 v5 v6 v7 v8 v9 := by
 have hlt : b < w.heap.size := (Array.getElem?_eq_some_iff.1 h).1
 refine ⟨⟨?_, ?_, ?_, ?_, ?_, ?_, ?_, ?_, ?_, ?_⟩, ⟨?_, ?_, ?_, ?_, ?_, ?_, ?_, ?_, ?_, ?_⟩, hlt⟩ <;> simp [World.cell?, World.frozen?, h]
theorem Box10.at {w w1 : World} {b : Nat} {v0 v1 v2 v3 v4 v5 v6 v7 v8 v9 : Value} {t : TypeId} (g : Gr w w1) (h : w.heap[b]? = some (.cells #[v0, v1, v2, v3, v4, v5, v6, v7, v8, v9] t (0, 0))) : Box10 w1 b v0 v1 v2 v3 v4 v5 v6 v7 v8 v9 := (Box10.of h).mono g
abbrev Box11 (w : World) (b : Nat) (v0 v1 v2 v3 v4 v5 v6 v7 v8 v9 v10 : Value) : Prop := (w.cell? ⟨b, 0, none⟩ = some v0 ∧ w.cell? ⟨b, 1, none⟩ = some v1 ∧ w.cell? ⟨b, 2, none⟩ = some v2 ∧ w.cell? ⟨b, 3, none⟩ = some v3 ∧ w.cell? ⟨b, 4, none⟩ = some v4 ∧ w.cell? ⟨b, 5, none⟩ = some v5 ∧ w.cell? ⟨b, 6, none⟩ = some v6 ∧ w.cell? ⟨b, 7, none⟩ = some v7 ∧ w.cell? ⟨b, 8, none⟩ = some v8 ∧ w.cell? ⟨b, 9, none⟩ = some v9 ∧ w.cell? ⟨b, 10, none⟩ = some v10) ∧ (w.frozen? ⟨b, 0, none⟩ = false ∧ w.frozen? ⟨b, 1, none⟩ = false ∧ w.frozen? ⟨b, 2, none⟩ = false ∧ w.frozen? ⟨b, 3, none⟩ = false ∧ w.frozen? ⟨b, 4, none⟩ = false ∧ w.frozen? ⟨b, 5, none⟩ = false ∧ w.frozen? ⟨b, 6, none⟩ = false ∧ w.frozen? ⟨b, 7, none⟩ = false ∧ w.frozen? ⟨b, 8, none⟩ = false ∧ w.frozen? ⟨b, 9, none⟩ = false ∧ w.frozen? ⟨b, 10, none⟩ = false) ∧ b < w.heap.size
theorem Box11.mono {w w1 : World} {b : Nat} {v0 v1 v2 v3 v4 v5 v6 v7 v8 v9 v10 : Value} (k : Box11 w b v0 v1 v2 v3 v4 v5 v6 v7 v8 v9 v10) (h : Gr w w1) : Box11 w1 b v0 v1 v2 v3 v4 v5 v6 v7 v8 v9 v10 := by
 obtain ⟨⟨k0, k1, k2, k3, k4, k5, k6, k7, k8, k9, k10⟩, ⟨f0, f1, f2, f3, f4, f5, f6, f7, f8, f9, f10⟩, hlt⟩ := k
 exact ⟨⟨h.cell k0, h.cell k1, h.cell k2, h.cell k3, h.cell k4, h.cell k5, h.cell k6, h.cell k7, h.cell k8, h.cell k9, h.cell k10⟩, ⟨h.free (by exact hlt) f0, h.free (by exact hlt) f1, h.free (by exact hlt) f2, h.free (by exact hlt) f3, h.free (by exact hlt) f4, h.free (by exact hlt) f5, h.free (by exact hlt) f6, h.free (by exact hlt) f7, h.free (by exact hlt) f8, h.free (by exact hlt) f9, h.free (by exact hlt) f10⟩, Nat.lt_of_lt_of_le hlt h.size⟩
theorem Box11.of {w : World} {b : Nat} {v0 v1 v2 v3 v4 v5 v6 v7 v8 v9 v10 : Value} {t : TypeId} (h : w.heap[b]? = some (.cells #[v0, v1, v2, v3, v4, v5, v6, v7, v8, v9, v10] t (0, 0))) : Box11 w b v0 v1 v2 v3 v4 v5 v6 v7 v8 v9 v10 := by
 have hlt : b < w.heap.size := (Array.getElem?_eq_some_iff.1 h).1
 refine ⟨⟨?_, ?_, ?_, ?_, ?_, ?_, ?_, ?_, ?_, ?_, ?_⟩, ⟨?_, ?_, ?_, ?_, ?_, ?_, ?_, ?_, ?_, ?_, ?_⟩, hlt⟩ <;> simp [World.cell?, World.frozen?, h]
theorem Box11.at {w w1 : World} {b : Nat} {v0 v1 v2 v3 v4 v5 v6 v7 v8 v9 v10 : Value} {t : TypeId} (g : Gr w w1) (h : w.heap[b]? = some (.cells #[v0, v1, v2, v3, v4, v5, v6, v7, v8, v9, v10] t (0, 0))) : Box11 w1 b v0 v1 v2 v3 v4 v5 v6 v7 v8 v9 v10 := (Box11.of h).mono g
abbrev Box12 (w : World) (b : Nat) (v0 v1 v2 v3 v4 v5 v6 v7 v8 v9 v10 v11 : Value) : Prop := (w.cell? ⟨b, 0, none⟩ = some v0 ∧ w.cell? ⟨b, 1, none⟩ = some v1 ∧ w.cell? ⟨b, 2, none⟩ = some v2 ∧ w.cell? ⟨b, 3, none⟩ = some v3 ∧ w.cell? ⟨b, 4, none⟩ = some v4 ∧ w.cell? ⟨b, 5, none⟩ = some v5 ∧ w.cell? ⟨b, 6, none⟩ = some v6 ∧ w.cell? ⟨b, 7, none⟩ = some v7 ∧ w.cell? ⟨b, 8, none⟩ = some v8 ∧ w.cell? ⟨b, 9, none⟩ = some v9 ∧ w.cell? ⟨b, 10, none⟩ = some v10 ∧ w.cell? ⟨b, 11, none⟩ = some v11) ∧ (w.frozen? ⟨b, 0, none⟩ = false ∧ w.frozen? ⟨b, 1, none⟩ = false ∧ w.frozen? ⟨b, 2, none⟩ = false ∧ w.frozen? ⟨b, 3, none⟩ = false ∧ w.frozen? ⟨b, 4, none⟩ = false ∧ w.frozen? ⟨b, 5, none⟩ = false ∧ w.frozen? ⟨b, 6, none⟩ = false ∧ w.frozen? ⟨b, 7, none⟩ = false ∧ w.frozen? ⟨b, 8, none⟩ = false ∧ w.frozen? ⟨b, 9, none⟩ = false ∧ w.frozen? ⟨b, 10, none⟩ = false ∧ w.frozen? ⟨b, 11, none⟩ = false) ∧ b < w.heap.size
theorem Box12.mono {w w1 : World} {b : Nat} {v0 v1 v2 v3 v4 v5 v6 v7 v8 v9 v10 v11 : Value} (k : Box12 w b v0 v1 v2 v3 v4 v5 v6 v7 v8 v9 v10 v11) (h : Gr w w1) : Box12 w1 b v0 v1 v2 v3 v4 v5 v6 v7 v8 v9 v10 v11 := by
 obtain ⟨⟨k0, k1, k2, k3, k4, k5, k6, k7, k8, k9, k10, k11⟩, ⟨f0, f1, f2, f3, f4, f5, f6, f7, f8, f9, f10, f11⟩, hlt⟩ := k
 exact ⟨⟨h.cell k0, h.cell k1, h.cell k2, h.cell k3, h.cell k4, h.cell k5, h.cell k6, h.cell k7, h.cell k8, h.cell k9, h.cell k10, h.cell k11⟩, ⟨h.free (by exact hlt) f0, h.free (by exact hlt) f1, h.free (by exact hlt) f2, h.free (by exact hlt) f3, h.free (by exact hlt) f4, h.free (by exact hlt) f5, h.free (by exact hlt) f6, h.free (by exact hlt) f7, h.free (by exact hlt) f8, h.free (by exact hlt) f9, h.free (by exact hlt) f10, h.free (by exact hlt) f11⟩, Nat.lt_of_lt_of_le hlt h.size⟩
theorem Box12.of {w : World} {b : Nat} {v0 v1 v2 v3 v4 v5 v6 v7 v8 v9 v10 v11 : Value} {t : TypeId} (h : w.heap[b]? = some (.cells #[v0, v1, v2, v3, v4, v5, v6, v7, v8, v9, v10, v11] t (0, 0))) : Box12 w b v0 v1 v2 v3 v4 v5 v6 v7 v8 v9 v10 v11 := by
 have hlt : b < w.heap.size := (Array.getElem?_eq_some_iff.1 h).1
 refine ⟨⟨?_, ?_, ?_, ?_, ?_, ?_, ?_, ?_, ?_, ?_, ?_, ?_⟩, ⟨?_, ?_, ?_, ?_, ?_, ?_, ?_, ?_, ?_, ?_, ?_, ?_⟩, hlt⟩ <;> simp [World.cell?, World.frozen?, h]
theorem Box12.at {w w1 : World} {b : Nat} {v0 v1 v2 v3 v4 v5 v6 v7 v8 v9 v10 v11 : Value} {t : TypeId} (g : Gr w w1) (h : w.heap[b]? = some (.cells #[v0, v1, v2, v3, v4, v5, v6, v7, v8, v9, v10, v11] t (0, 0))) : Box12 w1 b v0 v1 v2 v3 v4 v5 v6 v7 v8 v9 v10 v11 := (Box12.of h).mono g
abbrev Box13 (w : World) (b : Nat) (v0 v1 v2 v3 v4 v5 v6 v7 v8 v9 v10 v11 v12 : Value) : Prop := (w.cell? ⟨b, 0, none⟩ = some v0 ∧ w.cell? ⟨b, 1, none⟩ = some v1 ∧ w.cell? ⟨b, 2, none⟩ = some v2 ∧ w.cell? ⟨b, 3, none⟩ = some v3 ∧ w.cell? ⟨b, 4, none⟩ = some v4 ∧ w.cell? ⟨b, 5, none⟩ = some v5 ∧ w.cell? ⟨b, 6, none⟩ = some v6 ∧ w.cell? ⟨b, 7, none⟩ = some v7 ∧ w.cell? ⟨b, 8, none⟩ = some v8 ∧ w.cell? ⟨b, 9, none⟩ = some v9 ∧ w.cell? ⟨b, 10, none⟩ = some v10 ∧ w.cell? ⟨b, 11, none⟩ = some v11 ∧ w.cell? ⟨b, 12, none⟩ = some v12) ∧ (w.frozen? ⟨b, 0, none⟩ = false ∧ w.frozen? ⟨b, 1, none⟩ = false ∧ w.frozen? ⟨b, 2, none⟩ = false ∧ w.frozen? ⟨b, 3, none⟩ = false ∧ w.frozen? ⟨b, 4, none⟩ = false ∧ w.frozen? ⟨b, 5, none⟩ = false ∧ w.frozen? ⟨b, 6, none⟩ = false ∧ w.frozen? ⟨b, 7, none⟩ = false ∧ w.frozen? ⟨b, 8, none⟩ = false ∧ w.frozen? ⟨b, 9, none⟩ = false ∧ w.frozen? ⟨b, 10, none⟩ = false ∧ w.frozen? ⟨b, 11, none⟩ = false ∧ w.frozen? ⟨b, 12, none⟩ = false) ∧ b < w.heap.size
theorem Box13.mono {w w1 : World} {b : Nat} {v0 v1 v2 v3 v4 v5 v6 v7 v8 v9 v10 v11 v12 : Value} (k : Box13 w b v0 v1 v2 v3 v4 v5 v6 v7 v8 v9 v10 v11 v12) (h : Gr w w1) : Box13 w1 b v0 v1 v2 v3 v4 v5 v6 v7 v8 v9 v10 v11 v12 := by
 obtain ⟨⟨k0, k1, k2, k3, k4, k5, k6, k7, k8, k9, k10, k11, k12⟩, ⟨f0, f1, f2, f3, f4, f5, f6, f7, f8, f9, f10, f11, f12⟩, hlt⟩ := k
 exact ⟨⟨h.cell k0, h.cell k1, h.cell k2, h.cell k3, h.cell k4, h.cell k5, h.cell k6, h.cell k7, h.cell k8, h.cell k9, h.cell k10, h.cell k11, h.cell k12⟩, ⟨h.free (by exact hlt) f0, h.free (by exact hlt) f1, h.free (by exact hlt) f2, h.free (by exact hlt) f3, h.free (by exact hlt) f4, h.free (by exact hlt) f5, h.free (by exact hlt) f6, h.free (by exact hlt) f7, h.free (by exact hlt) f8, h.free (by exact hlt) f9, h.free (by exact hlt) f10, h.free (by exact hlt) f11, h.free (by exact hlt) f12⟩, Nat.lt_of_lt_of_le hlt h.size⟩
theorem Box13.of {w : World} {b : Nat} {v0 v1 v2 v3 v4 v5 v6 v7 v8 v9 v10 v11 v12 : Value} {t : TypeId} (h : w.heap[b]? = some (.cells #[v0, v1, v2, v3, v4, v5, v6, v7, v8, v9, v10, v11, v12] t (0, 0))) : Box13 w b v0 v1 v2 v3 v4 v5 v6 v7 v8 v9 v10 v11 v12 := by
 have hlt : b < w.heap.size := (Array.getElem?_eq_some_iff.1 h).1
 refine ⟨⟨?_, ?_, ?_, ?_, ?_, ?_, ?_, ?_, ?_, ?_, ?_, ?_, ?_⟩, ⟨?_, ?_, ?_, ?_, ?_, ?_, ?_, ?_, ?_, ?_, ?_, ?_, ?_⟩, hlt⟩ <;> simp [World.cell?, World.frozen?, h]
theorem Box13.at {w w1 : World} {b : Nat} {v0 v1 v2 v3 v4 v5 v6 v7 v8 v9 v10 v11 v12 : Value} {t : TypeId} (g : Gr w w1) (h : w.heap[b]? = some (.cells #[v0, v1, v2, v3, v4, v5, v6, v7, v8, v9, v10, v11, v12] t (0, 0))) : Box13 w1 b v0 v1 v2 v3 v4 v5 v6 v7 v8 v9 v10 v11 v12 := (Box13.of h).mono g
abbrev Box14 (w : World) (b : Nat) (v0 v1 v2 v3 v4 v5 v6 v7 v8 v9 v10 v11 v12 v13 : Value) : Prop := (w.cell? ⟨b, 0, none⟩ = some v0 ∧ w.cell? ⟨b, 1, none⟩ = some v1 ∧ w.cell? ⟨b, 2, none⟩ = some v2 ∧ w.cell? ⟨b, 3, none⟩ = some v3 ∧ w.cell? ⟨b, 4, none⟩ = some v4 ∧ w.cell? ⟨b, 5, none⟩ = some v5 ∧ w.cell? ⟨b, 6, none⟩ = some v6 ∧ w.cell? ⟨b, 7, none⟩ = some v7 ∧ w.cell? ⟨b, 8, none⟩ = some v8 ∧ w.cell? ⟨b, 9, none⟩ = some v9 ∧ w.cell? ⟨b, 10, none⟩ = some v10 ∧ w.cell? ⟨b, 11, none⟩ = some v11 ∧ w.cell? ⟨b, 12, none⟩ = some v12 ∧ w.cell? ⟨b, 13, none⟩ = some v13) ∧ (w.frozen? ⟨b, 0, none⟩ = false ∧ w.frozen? ⟨b, 1, none⟩ = false ∧ w.frozen? ⟨b, 2, none⟩ = false ∧ w.frozen? ⟨b, 3, none⟩ = false ∧ w.frozen? ⟨b, 4, none⟩ = false ∧ w.frozen? ⟨b, 5, none⟩ = false ∧ w.frozen? ⟨b, 6, none⟩ = false ∧ w.frozen? ⟨b, 7, none⟩ = false ∧ w.frozen? ⟨b, 8, none⟩ = false ∧ w.frozen? ⟨b, 9, none⟩ = false ∧ w.frozen? ⟨b, 10, none⟩ = false ∧ w.frozen? ⟨b, 11, none⟩ = false ∧ w.frozen? ⟨b, 12, none⟩ = false ∧ w.frozen? ⟨b, 13, none⟩ = false) ∧ b < w.heap.size
theorem Box14.mono {w w1 : World} {b : Nat} {v0 v1 v2 v3 v4 v5 v6 v7 v8 v9 v10 v11 v12 v13 : Value} (k : Box14 w b v0 v1 v2 v3 v4 v5 v6 v7 v8 v9 v10 v11 v12 v13) (h : Gr w w1) : Box14 w1 b v0 v1 v2 v3 v4 v5 v6 v7 v8 v9 v10 v11 v12 v13 := by
 obtain ⟨⟨k0, k1, k2, k3, k4, k5, k6, k7, k8, k9, k10, k11, k12, k13⟩, ⟨f0, f1, f2, f3, f4, f5, f6, f7, f8, f9, f10, f11, f12, f13⟩, hlt⟩ := k
 exact ⟨⟨h.cell k0, h.cell k1, h.cell k2, h.cell k3, h.cell k4, h.cell k5, h.cell k6, h.cell k7, h.cell k8, h.cell k9, h.cell k10, h.cell k11, h.cell k12, h.cell k13⟩, ⟨h.free (by exact hlt) f0, h.free (by exact hlt) f1, h.free (by exact hlt) f2, h.free (by exact hlt) f3, h.free (by exact hlt) f4, h.free (by exact hlt) f5, h.free (by exact hlt) f6, h.free (by exact hlt) f7, h.free (by exact hlt) f8, h.free (by exact hlt) f9, h.free (by exact hlt) f10, h.free (by exact hlt) f11, h.free (by exact hlt) f12, h.free (by exact hlt) f13⟩, Nat.lt_of_lt_of_le hlt h.size⟩
theorem Box14.of {w : World} {b : Nat} {v0 v1 v2 v3 v4 v5 v6 v7 v8 v9 v10 v11 v12 v13 : Value} {t : TypeId} (h : w.heap[b]? = some (.cells #[v0, v1, v2, v3, v4, v5, v6, v7, v8, v9, v10, v11, v12, v13] t (0, 0))) : Box14 w b v0 v1 v2 v3 v4 v5 v6 v7 v8 v9 v10 v11 v12 v13 := by
 have hlt : b < w.heap.size := (Array.getElem?_eq_some_iff.1 h).1
 refine ⟨⟨?_, ?_, ?_, ?_, ?_, ?_, ?_, ?_, ?_, ?_, ?_, ?_, ?_, ?_⟩, ⟨?_, ?_, ?_, ?_, ?_, ?_, ?_, ?_, ?_, ?_, ?_, ?_, ?_, ?_⟩, hlt⟩ <;> simp [World.cell?, World.frozen?, h]
theorem Box14.at {w w1 : World} {b : Nat} {v0 v1 v2 v3 v4 v5 v6 v7 v8 v9 v10 v11 v12 v13 : Value} {t : TypeId} (g : Gr w w1) (h : w.heap[b]? = some (.cells #[v0, v1, v2, v3, v4, v5, v6, v7, v8, v9, v10, v11, v12, v13] t (0, 0))) : Box14 w1 b v0 v1 v2 v3 v4 v5 v6 v7 v8 v9 v10 v11 v12 v13 := (Box14.of h).mono g
end Go.Proofs.Ytphgchakmkankaa

namespace Go.Proofs.Ytphgchakmkankaa
set_option linter.unusedSectionVars false
open Go.RowKit Go.Deep
set_option linter.unusedVariables false
set_option linter.unusedSimpArgs false

theorem Gr.cells {w w' : World} (g : Gr w w') {a : Addr} {n : Nat} {cs : List Value} (h : ∀ i, i < n → w.cell? (a.add i) = cs[i]?) (hl : cs.length = n) : ∀ i, i < n → w'.cell? (a.add i) = cs[i]? := by
 intro i hi
 have h1 := h i hi
 rw [List.getElem?_eq_getElem (by omega)] at h1 ⊢
 exact g.cell h1

structure Cod (α : Type) where
 size : Nat
 is : World → List Value → α → Prop
 len : ∀ {w cs a}, is w cs a → cs.length = size
 mono : ∀ {w w' cs a}, is w cs a → Gr w w' → is w' cs a
 bulk : α → Nat

def intC : Cod Int where
 size := 1
 is := fun _ cs n => cs = [.int .i64 n] ∧ -9223372036854775808 ≤ n ∧ n ≤ 9223372036854775807
 len := fun h => by rw [h.1]; rfl
 mono := fun h _ => h
 bulk := fun _ => 1
def boolC : Cod Bool where
 size := 1
 is := fun _ cs b => cs = [.bool b]
 len := fun h => by rw [h]; rfl
 mono := fun h _ => h
 bulk := fun _ => 1
def strC : Cod ByteArray where
 size := 1
 is := fun _ cs s => cs = [.string s] ∧ s.size ≤ maxLen
 len := fun h => by rw [h.1]; rfl
 mono := fun h _ => h
 bulk := fun s => s.size + 1
def Cod.pair {α β : Type} (c : Cod α) (d : Cod β) : Cod (α × β) where
 size := c.size + d.size
 is := fun w cs x => c.is w (cs.take c.size) x.1 ∧ d.is w (cs.drop c.size) x.2
 len := fun {w cs a} h => by
  have h1 := c.len h.1
  have h2 := d.len h.2
  simp at h1 h2
  omega
 mono := fun h g => ⟨c.mono h.1 g, d.mono h.2 g⟩
 bulk := fun x => c.bulk x.1 + d.bulk x.2
def sliceC {α : Type} (c : Cod α) : Cod (List α) where
 size := 1
 is := fun w cs l => (cs = [.slice none 0 0] ∧ l = []) ∨ ∃ (b off : Nat) (sp : Option Nat) (cap : Nat), cs = [.slice (some ⟨b, off, sp⟩) l.length cap] ∧ l.length ≤ cap ∧ cap ≤ maxLen ∧
  ∀ i (h : i < l.length), sp = none ∧ ∃ cs', (∀ j, j < c.size → w.cell? ⟨b, off + (i * c.size + j), none⟩ = cs'[j]?) ∧ c.is w cs' l[i]
 len := fun h => by
  rcases h with ⟨rfl, _⟩ | ⟨b, off, sp, cap, rfl, _⟩ <;> rfl
 mono := fun {w w' cs l} h g => by
  rcases h with h | ⟨b, off, sp, cap, h1, h2, h3, h4⟩
  ·exact .inl h
  ·refine .inr ⟨b, off, sp, cap, h1, h2, h3, fun i hi => ?_⟩
   obtain ⟨e, cs', h5, h6⟩ := h4 i hi
   refine ⟨e, cs', fun j hj => ?_, c.mono h6 g⟩
   have h7 := h5 j hj
   have hl := c.len h6
   rw [List.getElem?_eq_getElem (by omega)] at h7 ⊢
   exact g.cell h7
 bulk := fun l => (l.map c.bulk).sum + 1

def ReadsF {α : Type} (F : Nat → Prop) (P : Program) (c : Cod α) (t : TypeId) : Prop :=
 ∀ ⦃H : Type⦄ ⦃enc : TypeId × Value → H⦄ ⦃w : World⦄ ⦃base : Nat⦄ ⦃spare : Nat → Bool⦄ ⦃held : Bool⦄ ⦃fuel : Nat⦄ ⦃cs : List Value⦄ ⦃x : DataW H × List MemPlace⦄, F fuel →
  DataW.trod enc P w base spare held fuel t cs = some x → ∃ a, c.is w cs a ∧ c.bulk a ≤ Rows.uptoBulk x.1
abbrev Reads {α : Type} (P : Program) (c : Cod α) (t : TypeId) : Prop := ReadsF (fun _ => True) P c t
theorem bulkAll_sum {H : Type} (l : List (DataW H)) : Rows.uptoBulkAll l = (l.map Rows.uptoBulk).sum := by
 induction l with
 | nil => rfl
 | cons x r ih => simp only [Rows.uptoBulkAll, List.map_cons, List.sum_cons, ih]
theorem sum_le_range {α : Type} (f : α → Nat) (D : Nat → Nat) : ∀ (l : List α) (o : Nat), (∀ i (h : i < l.length), f l[i] ≤ D (o + i)) → (l.map f).sum ≤ ((List.range' o l.length).map D).sum
 | [], _, _ => by simp
 | x :: r, o, h => by
  simp only [List.length_cons, List.range'_succ, List.map_cons, List.sum_cons]
  have h0 := h 0 (by simp)
  have := sum_le_range f D r (o + 1) (fun i hi => by have := h (i + 1) (by simp; omega); simp only [List.getElem_cons_succ] at this; rw [show o + 1 + i = o + (i + 1) by omega]; exact this)
  simp at h0
  omega

theorem wf_i64 {n : Int} (h : (Lit.int .i64 n).wf = true) : -9223372036854775808 ≤ n ∧ n ≤ 9223372036854775807 := by
 simpa [Lit.wf, IntKind.min, IntKind.max, IntKind.signed, IntKind.bits] using h
theorem bulk_pos {H : Type} (d : DataW H) : 1 ≤ Rows.uptoBulk d := by
 cases d with
 | lit l => cases l <;> simp [Rows.uptoBulk]
 | _ => simp [Rows.uptoBulk]
theorem reads_int {F : Nat → Prop} {P : Program} {t : TypeId} (ht : P.underlying t = some (.int .i64)) : ReadsF F P intC t := by
 intro H enc w base spare held fuel cs x _ h
 obtain ⟨n, rfl, _, hw⟩ := DataW.trod_int ht h
 exact ⟨n, ⟨rfl, wf_i64 hw⟩, bulk_pos _⟩
theorem reads_bool {F : Nat → Prop} {P : Program} {t : TypeId} (ht : P.underlying t = some .bool) : ReadsF F P boolC t := by
 intro H enc w base spare held fuel cs x _ h
 obtain ⟨n, rfl, _⟩ := DataW.trod_bool ht h
 exact ⟨n, rfl, bulk_pos _⟩
theorem reads_str {F : Nat → Prop} {P : Program} {t : TypeId} (ht : P.underlying t = some .string) : ReadsF F P strC t := by
 intro H enc w base spare held fuel cs x _ h
 obtain ⟨n, rfl, hx, hw⟩ := DataW.trod_string ht h
 refine ⟨n, ⟨rfl, hw⟩, ?_⟩
 subst hx
 simp only [Rows.uptoBulk, strC]
 first | (simp; done) | omega
theorem reads_slice {F : Nat → Prop} {P : Program} {α : Type} {c : Cod α} {t e : TypeId} (ht : P.underlying t = some (.slice e)) (hz : P.cellsOf e = c.size) (hp : 0 < c.size) (hr : ReadsF (fun m => F (m + 1)) P c e) : ReadsF F P (sliceC c) t := by
 intro H enc w base spare held fuel cs x hF h
 rcases DataW.trod_slice ht h with ⟨rfl, rfl⟩ | ⟨a, len, cap, elems, rest, n, hfu, rfl, hxe, hb, hl, hm, hlen, hel, h8, h9⟩
 ·exact ⟨[], .inl ⟨rfl, rfl⟩, by simp [sliceC, Rows.uptoBulk]⟩
 ·obtain ⟨D, hD⟩ : ∃ D : Nat → DataW H, D = fun i => (elems.getD i (.nil, [])).1 := ⟨_, rfl⟩
  have key : ∀ i, i < len → ∃ (y : α) (cs' : List Value), (∀ j, j < c.size → w.cell? (a.add (i * c.size + j)) = cs'[j]?) ∧ c.is w cs' y ∧ c.bulk y ≤ Rows.uptoBulk (D i) := by
   intro i hi
   have hk := hel i hi
   rw [List.getElem?_eq_getElem (by omega)] at hk
   obtain ⟨cs', h1, h2⟩ := Option.bind_eq_some_iff.1 hk
   obtain ⟨y, hy, hyb⟩ := hr (by subst hfu; exact hF) h2
   have hyb : c.bulk y ≤ Rows.uptoBulk (D i) := by
    rw [hD]
    simpa [List.getD, List.getElem?_eq_getElem (show i < elems.length by omega)] using hyb
   obtain ⟨_, h3, h4⟩ := World.cells?_some h1
   refine ⟨y, cs', fun j hj => ?_, hy, hyb⟩
   have := h4 j (by rw [hz]; exact hj)
   rw [hz] at this
   rw [← this, add_add]
  obtain ⟨ys, hys⟩ : ∃ ys : List α, ys.length = len ∧ ∀ i (h : i < ys.length), c.bulk ys[i] ≤ Rows.uptoBulk (D i) ∧ ∃ cs', (∀ j, j < c.size → w.cell? (a.add (i * c.size + j)) = cs'[j]?) ∧ c.is w cs' ys[i] := by
   clear hel hlen h hl hxe h8 h9
   induction len with
   | zero => exact ⟨[], rfl, fun i h => by simp at h⟩
   | succ k ih =>
    obtain ⟨ys, h1, h2⟩ := ih (fun i hi => key i (by omega))
    obtain ⟨y, cs', h3, h4, h4b⟩ := key k (by omega)
    refine ⟨ys ++ [y], by simp [h1], fun i hi => ?_⟩
    by_cases hk : i < ys.length
    ·rw [List.getElem_append_left hk]; exact h2 i hk
    ·have : i = k := by simp at hi; omega
     subst this
     rw [List.getElem_append_right (by omega)]
     simp only [h1, Nat.sub_self, List.getElem_cons_zero]
     exact ⟨h4b, cs', h3, h4⟩
  obtain ⟨h1, h2⟩ := hys
  obtain ⟨b, off, sp⟩ := a
  refine ⟨ys, .inr ⟨b, off, sp, cap, by rw [h1], by omega, hm, fun i hi => ?_⟩, ?_⟩
  ·have hs : sp = none := by
    cases sp with
    | none => rfl
    | some q =>
     exfalso
     obtain ⟨_, cs', h3, h4⟩ := h2 0 (by omega)
     have h5 := h3 0 hp
     have hl := c.len h4
     rw [List.getElem?_eq_getElem (by omega)] at h5
     simp only [Nat.zero_mul, Nat.zero_add, World.cell?, Addr.add] at h5
     split at h5 <;> simp at h5
   obtain ⟨_, cs', h3, h4⟩ := h2 i hi
   subst hs
   refine ⟨rfl, cs', fun j hj => ?_, h4⟩
   have h6 := h3 j hj
   rw [← h6]
   congr 1
   simp only [Addr.add]
   split
   ·rename_i h7; simp only [h7, Nat.add_zero]
   ·rfl
  ·subst hxe
   simp only [sliceC, Rows.uptoBulk, bulkAll_sum, List.map_map]
   have := sum_le_range c.bulk (fun i => Rows.uptoBulk (D i)) ys 0 (fun i hi => by simpa using (h2 i hi).1)
   rw [h1, ← List.range_eq_range'] at this
   have e : List.map (Rows.uptoBulk ∘ fun x => x.1) elems = List.map (fun i => Rows.uptoBulk (D i)) (List.range len) := by
    rw [← hlen, hD]
    apply List.ext_getElem (by simp)
    intro i h3 h4
    simp at h3
    simp [List.getD, List.getElem?_eq_getElem h3]
   rw [e]
   omega
theorem take_drop_all {α : Type} (l : List α) (o n : Nat) (h : l.length = o + n) : (l.drop o).take n = l.drop o := List.take_of_length_le (by simp; omega)

theorem list_of_len2 {α : Type} (l : List α) (h : l.length = 2) : ∃ x0 x1, l = [x0, x1] := by
 match l, h with
 | [x0, x1], _ => exact ⟨x0, x1, rfl⟩
theorem reads_struct2 {F : Nat → Prop} {P : Program} {α0 α1 : Type} {t : TypeId} {f0 f1 : Field} {c0 : Cod α0} {c1 : Cod α1} (ht : P.underlying t = some (.struct #[f0, f1])) (hz : P.cellsOf t = c0.size + c1.size) (o0 : f0.offset = 0) (o1 : f1.offset = c0.size) (z0 : P.cellsOf f0.type = c0.size) (z1 : P.cellsOf f1.type = c1.size) (r0 : ReadsF (fun m => F (m + 1)) P c0 f0.type) (r1 : ReadsF (fun m => F (m + 1)) P c1 f1.type) : ReadsF F P (c0.pair c1) t := by
 intro H enc w base spare held fuel cs x hF h
 obtain ⟨xs, m, hfu, hxx, hlen, hxl, hf⟩ := DataW.trod_struct ht h
 rw [hz] at hlen
 have hxl : xs.length = 2 := hxl
 have h0 := hf 0 f0 rfl
 rw [o0, z0, List.getElem?_eq_getElem (show 0 < xs.length by omega)] at h0
 obtain ⟨a0, k0, b0⟩ := r0 (by subst hfu; exact hF) h0
 have h1 := hf 1 f1 rfl
 rw [o1, z1, List.getElem?_eq_getElem (show 1 < xs.length by omega)] at h1
 obtain ⟨a1, k1, b1⟩ := r1 (by subst hfu; exact hF) h1
 rw [take_drop_all cs (c0.size) c1.size (by omega)] at k1
 refine ⟨(a0, a1), ?_, ?_⟩
 ·exact ⟨by simpa using k0, (by simpa [List.drop_drop, Nat.add_assoc] using k1)⟩
 ·subst hxx
  simp only [Rows.uptoBulk, bulkAll_sum, Cod.pair]
  have hs : (List.map Rows.uptoBulk (xs.map (·.1))).sum = Rows.uptoBulk xs[0].1 + (Rows.uptoBulk xs[1].1) := by
   obtain ⟨x0, x1, rfl⟩ := list_of_len2 xs hxl
   simp
  rw [hs]
  exact Nat.le_succ_of_le (Nat.add_le_add b0 b1)
theorem list_of_len6 {α : Type} (l : List α) (h : l.length = 6) : ∃ x0 x1 x2 x3 x4 x5, l = [x0, x1, x2, x3, x4, x5] := by
 match l, h with
 | [x0, x1, x2, x3, x4, x5], _ => exact ⟨x0, x1, x2, x3, x4, x5, rfl⟩
theorem reads_struct6 {F : Nat → Prop} {P : Program} {α0 α1 α2 α3 α4 α5 : Type} {t : TypeId} {f0 f1 f2 f3 f4 f5 : Field} {c0 : Cod α0} {c1 : Cod α1} {c2 : Cod α2} {c3 : Cod α3} {c4 : Cod α4} {c5 : Cod α5} (ht : P.underlying t = some (.struct #[f0, f1, f2, f3, f4, f5])) (hz : P.cellsOf t = c0.size + c1.size + c2.size + c3.size + c4.size + c5.size) (o0 : f0.offset = 0) (o1 : f1.offset = c0.size) (o2 : f2.offset = c0.size + c1.size) (o3 : f3.offset = c0.size + c1.size + c2.size) (o4 : f4.offset = c0.size + c1.size + c2.size + c3.size) (o5 : f5.offset = c0.size + c1.size + c2.size + c3.size + c4.size) (z0 : P.cellsOf f0.type = c0.size) (z1 : P.cellsOf f1.type = c1.size) (z2 : P.cellsOf f2.type = c2.size) (z3 : P.cellsOf f3.type = c3.size) (z4 : P.cellsOf f4.type = c4.size) (z5 : P.cellsOf f5.type = c5.size) (r0 : ReadsF (fun m => F (m + 1)) P c0 f0.type) (r1 : ReadsF (fun m => F (m + 1)) P c1 f1.type) (r2 : ReadsF (fun m => F (m + 1)) P c2 f2.type) (r3 : ReadsF (fun m => F (m + 1)) P c3 f3.type) (r4 : ReadsF (fun m => F (m + 1)) P c4 f4.type) (r5 : ReadsF (fun m => F (m + 1)) P c5 f5.type) : ReadsF F P (c0.pair (c1.pair (c2.pair (c3.pair (c4.pair c5))))) t := by
 intro H enc w base spare held fuel cs x hF h
 obtain ⟨xs, m, hfu, hxx, hlen, hxl, hf⟩ := DataW.trod_struct ht h
 rw [hz] at hlen
 have hxl : xs.length = 6 := hxl
 have h0 := hf 0 f0 rfl
 rw [o0, z0, List.getElem?_eq_getElem (show 0 < xs.length by omega)] at h0
 obtain ⟨a0, k0, b0⟩ := r0 (by subst hfu; exact hF) h0
 have h1 := hf 1 f1 rfl
 rw [o1, z1, List.getElem?_eq_getElem (show 1 < xs.length by omega)] at h1
 obtain ⟨a1, k1, b1⟩ := r1 (by subst hfu; exact hF) h1
 have h2 := hf 2 f2 rfl
 rw [o2, z2, List.getElem?_eq_getElem (show 2 < xs.length by omega)] at h2
 obtain ⟨a2, k2, b2⟩ := r2 (by subst hfu; exact hF) h2
 have h3 := hf 3 f3 rfl
 rw [o3, z3, List.getElem?_eq_getElem (show 3 < xs.length by omega)] at h3
 obtain ⟨a3, k3, b3⟩ := r3 (by subst hfu; exact hF) h3
 have h4 := hf 4 f4 rfl
 rw [o4, z4, List.getElem?_eq_getElem (show 4 < xs.length by omega)] at h4
 obtain ⟨a4, k4, b4⟩ := r4 (by subst hfu; exact hF) h4
 have h5 := hf 5 f5 rfl
 rw [o5, z5, List.getElem?_eq_getElem (show 5 < xs.length by omega)] at h5
 obtain ⟨a5, k5, b5⟩ := r5 (by subst hfu; exact hF) h5
 rw [take_drop_all cs (c0.size + c1.size + c2.size + c3.size + c4.size) c5.size (by omega)] at k5
 refine ⟨(a0, (a1, (a2, (a3, (a4, a5))))), ?_, ?_⟩
 ·exact ⟨by simpa using k0, ⟨by simpa [List.drop_drop, Nat.add_assoc] using k1, ⟨by simpa [List.drop_drop, Nat.add_assoc] using k2, ⟨by simpa [List.drop_drop, Nat.add_assoc] using k3, ⟨by simpa [List.drop_drop, Nat.add_assoc] using k4, (by simpa [List.drop_drop, Nat.add_assoc] using k5)⟩⟩⟩⟩⟩
 ·subst hxx
  simp only [Rows.uptoBulk, bulkAll_sum, Cod.pair]
  have hs : (List.map Rows.uptoBulk (xs.map (·.1))).sum = Rows.uptoBulk xs[0].1 + (Rows.uptoBulk xs[1].1 + (Rows.uptoBulk xs[2].1 + (Rows.uptoBulk xs[3].1 + (Rows.uptoBulk xs[4].1 + (Rows.uptoBulk xs[5].1))))) := by
   obtain ⟨x0, x1, x2, x3, x4, x5, rfl⟩ := list_of_len6 xs hxl
   simp
  rw [hs]
  exact Nat.le_succ_of_le (Nat.add_le_add b0 (Nat.add_le_add b1 (Nat.add_le_add b2 (Nat.add_le_add b3 (Nat.add_le_add b4 b5)))))
theorem list_of_len10 {α : Type} (l : List α) (h : l.length = 10) : ∃ x0 x1 x2 x3 x4 x5 x6 x7 x8 x9, l = [x0, x1, x2, x3, x4, x5, x6, x7, x8, x9] := by
 match l, h with
 | [x0, x1, x2, x3, x4, x5, x6, x7, x8, x9], _ => exact ⟨x0, x1, x2, x3, x4, x5, x6, x7, x8, x9, rfl⟩
theorem reads_struct10 {F : Nat → Prop} {P : Program} {α0 α1 α2 α3 α4 α5 α6 α7 α8 α9 : Type} {t : TypeId} {f0 f1 f2 f3 f4 f5 f6 f7 f8 f9 : Field} {c0 : Cod α0} {c1 : Cod α1} {c2 : Cod α2} {c3 : Cod α3} {c4 : Cod α4} {c5 : Cod α5} {c6 : Cod α6} {c7 : Cod α7} {c8 : Cod α8} {c9 : Cod α9} (ht : P.underlying t = some (.struct #[f0, f1, f2, f3, f4, f5, f6, f7, f8, f9])) (hz : P.cellsOf t = c0.size + c1.size + c2.size + c3.size + c4.size + c5.size + c6.size + c7.size + c8.size + c9.size) (o0 : f0.offset = 0) (o1 : f1.offset = c0.size) (o2 : f2.offset = c0.size + c1.size) (o3 : f3.offset = c0.size + c1.size + c2.size) (o4 : f4.offset = c0.size + c1.size + c2.size + c3.size) (o5 : f5.offset = c0.size + c1.size + c2.size + c3.size + c4.size) (o6 : f6.offset = c0.size + c1.size + c2.size + c3.size + c4.size + c5.size) (o7 : f7.offset = c0.size + c1.size + c2.size + c3.size + c4.size + c5.size + c6.size) (o8 : f8.offset = c0.size + c1.size + c2.size + c3.size + c4.size + c5.size + c6.size + c7.size) (o9 : f9.offset = c0.size + c1.size + c2.size + c3.size + c4.size + c5.size + c6.size + c7.size + c8.size) (z0 : P.cellsOf f0.type = c0.size) (z1 : P.cellsOf f1.type = c1.size) (z2 : P.cellsOf f2.type = c2.size) (z3 : P.cellsOf f3.type = c3.size) (z4 : P.cellsOf f4.type = c4.size) (z5 : P.cellsOf f5.type = c5.size) (z6 : P.cellsOf f6.type = c6.size) (z7 : P.cellsOf f7.type = c7.size) (z8 : P.cellsOf f8.type = c8.size) (z9 : P.cellsOf f9.type = c9.size) (r0 : ReadsF (fun m => F (m + 1)) P c0 f0.type) (r1 : ReadsF (fun m => F (m + 1)) P c1 f1.type) (r2 : ReadsF (fun m => F (m + 1)) P c2 f2.type) (r3 : ReadsF (fun m => F (m + 1)) P c3 f3.type) (r4 : ReadsF (fun m => F (m + 1)) P c4 f4.type) (r5 : ReadsF (fun m => F (m + 1)) P c5 f5.type) (r6 : ReadsF (fun m => F (m + 1)) P c6 f6.type) (r7 : ReadsF (fun m => F (m + 1)) P c7 f7.type) (r8 : ReadsF (fun m => F (m + 1)) P c8 f8.type) (r9 : ReadsF (fun m => F (m + 1)) P c9 f9.type) : ReadsF F P (c0.pair (c1.pair (c2.pair (c3.pair (c4.pair (c5.pair (c6.pair (c7.pair (c8.pair c9))))))))) t := by
 intro H enc w base spare held fuel cs x hF h
 obtain ⟨xs, m, hfu, hxx, hlen, hxl, hf⟩ := DataW.trod_struct ht h
 rw [hz] at hlen
 have hxl : xs.length = 10 := hxl
 have h0 := hf 0 f0 rfl
 rw [o0, z0, List.getElem?_eq_getElem (show 0 < xs.length by omega)] at h0
 obtain ⟨a0, k0, b0⟩ := r0 (by subst hfu; exact hF) h0
 have h1 := hf 1 f1 rfl
 rw [o1, z1, List.getElem?_eq_getElem (show 1 < xs.length by omega)] at h1
 obtain ⟨a1, k1, b1⟩ := r1 (by subst hfu; exact hF) h1
 have h2 := hf 2 f2 rfl
 rw [o2, z2, List.getElem?_eq_getElem (show 2 < xs.length by omega)] at h2
 obtain ⟨a2, k2, b2⟩ := r2 (by subst hfu; exact hF) h2
 have h3 := hf 3 f3 rfl
 rw [o3, z3, List.getElem?_eq_getElem (show 3 < xs.length by omega)] at h3
 obtain ⟨a3, k3, b3⟩ := r3 (by subst hfu; exact hF) h3
 have h4 := hf 4 f4 rfl
 rw [o4, z4, List.getElem?_eq_getElem (show 4 < xs.length by omega)] at h4
 obtain ⟨a4, k4, b4⟩ := r4 (by subst hfu; exact hF) h4
 have h5 := hf 5 f5 rfl
 rw [o5, z5, List.getElem?_eq_getElem (show 5 < xs.length by omega)] at h5
 obtain ⟨a5, k5, b5⟩ := r5 (by subst hfu; exact hF) h5
 have h6 := hf 6 f6 rfl
 rw [o6, z6, List.getElem?_eq_getElem (show 6 < xs.length by omega)] at h6
 obtain ⟨a6, k6, b6⟩ := r6 (by subst hfu; exact hF) h6
 have h7 := hf 7 f7 rfl
 rw [o7, z7, List.getElem?_eq_getElem (show 7 < xs.length by omega)] at h7
 obtain ⟨a7, k7, b7⟩ := r7 (by subst hfu; exact hF) h7
 have h8 := hf 8 f8 rfl
 rw [o8, z8, List.getElem?_eq_getElem (show 8 < xs.length by omega)] at h8
 obtain ⟨a8, k8, b8⟩ := r8 (by subst hfu; exact hF) h8
 have h9 := hf 9 f9 rfl
 rw [o9, z9, List.getElem?_eq_getElem (show 9 < xs.length by omega)] at h9
 obtain ⟨a9, k9, b9⟩ := r9 (by subst hfu; exact hF) h9
 rw [take_drop_all cs (c0.size + c1.size + c2.size + c3.size + c4.size + c5.size + c6.size + c7.size + c8.size) c9.size (by omega)] at k9
 refine ⟨(a0, (a1, (a2, (a3, (a4, (a5, (a6, (a7, (a8, a9))))))))), ?_, ?_⟩
 ·exact ⟨by simpa using k0, ⟨by simpa [List.drop_drop, Nat.add_assoc] using k1, ⟨by simpa [List.drop_drop, Nat.add_assoc] using k2, ⟨by simpa [List.drop_drop, Nat.add_assoc] using k3, ⟨by simpa [List.drop_drop, Nat.add_assoc] using k4, ⟨by simpa [List.drop_drop, Nat.add_assoc] using k5, ⟨by simpa [List.drop_drop, Nat.add_assoc] using k6, ⟨by simpa [List.drop_drop, Nat.add_assoc] using k7, ⟨by simpa [List.drop_drop, Nat.add_assoc] using k8, (by simpa [List.drop_drop, Nat.add_assoc] using k9)⟩⟩⟩⟩⟩⟩⟩⟩⟩
 ·subst hxx
  simp only [Rows.uptoBulk, bulkAll_sum, Cod.pair]
  have hs : (List.map Rows.uptoBulk (xs.map (·.1))).sum = Rows.uptoBulk xs[0].1 + (Rows.uptoBulk xs[1].1 + (Rows.uptoBulk xs[2].1 + (Rows.uptoBulk xs[3].1 + (Rows.uptoBulk xs[4].1 + (Rows.uptoBulk xs[5].1 + (Rows.uptoBulk xs[6].1 + (Rows.uptoBulk xs[7].1 + (Rows.uptoBulk xs[8].1 + (Rows.uptoBulk xs[9].1))))))))) := by
   obtain ⟨x0, x1, x2, x3, x4, x5, x6, x7, x8, x9, rfl⟩ := list_of_len10 xs hxl
   simp
  rw [hs]
  exact Nat.le_succ_of_le (Nat.add_le_add b0 (Nat.add_le_add b1 (Nat.add_le_add b2 (Nat.add_le_add b3 (Nat.add_le_add b4 (Nat.add_le_add b5 (Nat.add_le_add b6 (Nat.add_le_add b7 (Nat.add_le_add b8 b9)))))))))
end Go.Proofs.Ytphgchakmkankaa

namespace Go.Proofs.Ytphgchakmkankaa
set_option linter.unusedSectionVars false
open Go.RowKit Go.Deep
set_option linter.unusedVariables false
set_option linter.unusedSimpArgs false

theorem ReadsF.imp {F : Nat → Prop} {P : Program} {α β : Type} {c : Cod α} {d : Cod β} {t : TypeId} (h : ReadsF F P c t) (k : ∀ w cs a, c.is w cs a → ∃ b, d.is w cs b ∧ d.bulk b ≤ c.bulk a) : ReadsF F P d t := by
 intro H enc w base spare held fuel cs x hF h1
 obtain ⟨a, ha, hb⟩ := h hF h1
 obtain ⟨b, h2, h3⟩ := k _ _ _ ha
 exact ⟨b, h2, Nat.le_trans h3 hb⟩
theorem cells_split {α : Type} {cs a b : List α} {n : Nat} (h1 : cs.take n = a) (h2 : cs.drop n = b) : cs = a ++ b := by rw [← h1, ← h2, List.take_append_drop]
def pointC : Cod PointD where
 size := 2
 is := fun w cs x => cs = [.int .i64 x.time, .int .i64 x.way] ∧ inI x.time ∧ inI x.way
 len := fun h => by obtain ⟨rfl, _⟩ := h; rfl
 mono := fun h _ => h
 bulk := fun x => intC.bulk x.time + (intC.bulk x.way)
theorem reads_point : Reads Try.prog pointC 133 :=
 (reads_struct2 (F := fun _ => True) Try.underlying133 (c0 := intC) (c1 := intC) (by kernel_rfl) rfl rfl (by kernel_rfl) (by kernel_rfl) (reads_int Try.underlying3) (reads_int Try.underlying3)).imp fun w cs a h => by
  obtain ⟨a0, a1⟩ := a
  obtain ⟨h0, h1⟩ := h
  obtain ⟨e0, b0⟩ := h0
  obtain ⟨e1, b1⟩ := h1
  have e100 := cells_split e0 e1
  exact ⟨⟨a0, a1⟩, ⟨by rw [e100]; rfl, b0, b1⟩, Nat.le_refl _⟩
theorem reads_points : Reads Try.prog (sliceC pointC) 40 := reads_slice Try.underlying40 (c := pointC) (by kernel_rfl) (by decide) reads_point
def curveC : Cod CurveD where
 size := 2
 is := fun w cs x => ∃ v0 : Value, cs = [.int .i64 x.kind, v0] ∧ inI x.kind ∧ (sliceC pointC).is w [v0] x.points
 len := fun h => by obtain ⟨v0, rfl, _⟩ := h; rfl
 mono := fun {w w' cs x} h g => by obtain ⟨v0, e, h0, h1⟩ := h; exact ⟨v0, e, h0, ((sliceC pointC)).mono h1 g⟩
 bulk := fun x => intC.bulk x.kind + ((sliceC pointC).bulk x.points)
theorem reads_curve : Reads Try.prog curveC 42 :=
 (reads_struct2 (F := fun _ => True) Try.underlying42 (c0 := intC) (c1 := (sliceC pointC)) (by kernel_rfl) rfl rfl (by kernel_rfl) (by kernel_rfl) (reads_int Try.underlying3) reads_points).imp fun w cs a h => by
  obtain ⟨a0, a1⟩ := a
  obtain ⟨h0, h1⟩ := h
  obtain ⟨e0, b0⟩ := h0
  obtain ⟨s1, e1⟩ := List.length_eq_one_iff.1 (((sliceC pointC)).len h1); rw [e1] at h1
  have e100 := cells_split e0 e1
  exact ⟨⟨a0, a1⟩, ⟨s1, by rw [e100]; rfl, b0, h1⟩, Nat.le_refl _⟩
def keyC : Cod KeyD where
 size := 2
 is := fun w cs x => cs = [.int .i64 x.unit, .string x.param] ∧ inI x.unit ∧ x.param.size ≤ maxLen
 len := fun h => by obtain ⟨rfl, _⟩ := h; rfl
 mono := fun h _ => h
 bulk := fun x => intC.bulk x.unit + (strC.bulk x.param)
theorem reads_key : Reads Try.prog keyC 49 :=
 (reads_struct2 (F := fun _ => True) Try.underlying49 (c0 := intC) (c1 := strC) (by kernel_rfl) rfl rfl (by kernel_rfl) (by kernel_rfl) (reads_int Try.underlying3) (reads_str Try.underlying9)).imp fun w cs a h => by
  obtain ⟨a0, a1⟩ := a
  obtain ⟨h0, h1⟩ := h
  obtain ⟨e0, b0⟩ := h0
  obtain ⟨e1, b1⟩ := h1
  have e100 := cells_split e0 e1
  exact ⟨⟨a0, a1⟩, ⟨by rw [e100]; rfl, b0, b1⟩, Nat.le_refl _⟩
def valueC : Cod ValueD where
 size := 2
 is := fun w cs x => cs = [.int .i64 x.level, .int .i64 x.preset] ∧ inI x.level ∧ inI x.preset
 len := fun h => by obtain ⟨rfl, _⟩ := h; rfl
 mono := fun h _ => h
 bulk := fun x => intC.bulk x.level + (intC.bulk x.preset)
theorem reads_value : Reads Try.prog valueC 64 :=
 (reads_struct2 (F := fun _ => True) Try.underlying64 (c0 := intC) (c1 := intC) (by kernel_rfl) rfl rfl (by kernel_rfl) (by kernel_rfl) (reads_int Try.underlying3) (reads_int Try.underlying3)).imp fun w cs a h => by
  obtain ⟨a0, a1⟩ := a
  obtain ⟨h0, h1⟩ := h
  obtain ⟨e0, b0⟩ := h0
  obtain ⟨e1, b1⟩ := h1
  have e100 := cells_split e0 e1
  exact ⟨⟨a0, a1⟩, ⟨by rw [e100]; rfl, b0, b1⟩, Nat.le_refl _⟩
def moveC : Cod MoveD where
 size := 8
 is := fun w cs x => cs = [.int .i64 x.key.unit, .string x.key.param, .int .i64 x.value.level, .int .i64 x.value.preset, .bool x.release, .bool x.timed, .int .i64 x.delay, .int .i64 x.time] ∧ inI x.key.unit ∧ x.key.param.size ≤ maxLen ∧ inI x.value.level ∧ inI x.value.preset ∧ inI x.delay ∧ inI x.time
 len := fun h => by obtain ⟨rfl, _⟩ := h; rfl
 mono := fun h _ => h
 bulk := fun x => keyC.bulk x.key + (valueC.bulk x.value + (boolC.bulk x.release + (boolC.bulk x.timed + (intC.bulk x.delay + (intC.bulk x.time)))))
theorem reads_move : Reads Try.prog moveC 66 :=
 (reads_struct6 (F := fun _ => True) Try.underlying66 (c0 := keyC) (c1 := valueC) (c2 := boolC) (c3 := boolC) (c4 := intC) (c5 := intC) (by kernel_rfl) rfl rfl rfl rfl rfl rfl (by kernel_rfl) (by kernel_rfl) (by kernel_rfl) (by kernel_rfl) (by kernel_rfl) (by kernel_rfl) reads_key reads_value (reads_bool Try.underlying4) (reads_bool Try.underlying4) (reads_int Try.underlying3) (reads_int Try.underlying3)).imp fun w cs a h => by
  obtain ⟨a0, a1, a2, a3, a4, a5⟩ := a
  obtain ⟨h0, h1, h2, h3, h4, h5⟩ := h
  obtain ⟨e0, b0⟩ := h0
  obtain ⟨b0_0, b0_1⟩ := b0
  obtain ⟨e1, b1⟩ := h1
  obtain ⟨b1_0, b1_1⟩ := b1
  have e2 := h2; simp only [boolC] at e2
  have e3 := h3; simp only [boolC] at e3
  obtain ⟨e4, b4⟩ := h4
  obtain ⟨e5, b5⟩ := h5
  have e104 := cells_split e4 e5
  have e103 := cells_split e3 e104
  have e102 := cells_split e2 e103
  have e101 := cells_split e1 e102
  have e100 := cells_split e0 e101
  exact ⟨⟨a0, a1, a2, a3, a4, a5⟩, ⟨by rw [e100]; rfl, b0_0, b0_1, b1_0, b1_1, b4, b5⟩, Nat.le_refl _⟩
theorem reads_moves : Reads Try.prog (sliceC moveC) 31 := reads_slice Try.underlying31 (c := moveC) (by kernel_rfl) (by decide) reads_move
def cueC : Cod CueD where
 size := 11
 is := fun w cs x => ∃ v0 v1 : Value, cs = [.int .i64 x.number, .string x.title, .int .i64 x.delay, .int .i64 x.up, .int .i64 x.down, .int .i64 x.other, .int .i64 x.curve.kind, v0, .bool x.block, .int .i64 x.follow, v1] ∧ inI x.number ∧ x.title.size ≤ maxLen ∧ inI x.delay ∧ inI x.up ∧ inI x.down ∧ inI x.other ∧ inI x.curve.kind ∧ (sliceC pointC).is w [v0] x.curve.points ∧ inI x.follow ∧ (sliceC moveC).is w [v1] x.moves
 len := fun h => by obtain ⟨v0, v1, rfl, _⟩ := h; rfl
 mono := fun {w w' cs x} h g => by obtain ⟨v0, v1, e, h0, h1, h2, h3, h4, h5, h6, h7, h8, h9⟩ := h; exact ⟨v0, v1, e, h0, h1, h2, h3, h4, h5, h6, ((sliceC pointC)).mono h7 g, h8, ((sliceC moveC)).mono h9 g⟩
 bulk := fun x => intC.bulk x.number + (strC.bulk x.title + (intC.bulk x.delay + (intC.bulk x.up + (intC.bulk x.down + (intC.bulk x.other + (curveC.bulk x.curve + (boolC.bulk x.block + (intC.bulk x.follow + ((sliceC moveC).bulk x.moves)))))))))
theorem reads_cue : Reads Try.prog cueC 44 :=
 (reads_struct10 (F := fun _ => True) Try.underlying44 (c0 := intC) (c1 := strC) (c2 := intC) (c3 := intC) (c4 := intC) (c5 := intC) (c6 := curveC) (c7 := boolC) (c8 := intC) (c9 := (sliceC moveC)) (by kernel_rfl) rfl rfl rfl rfl rfl rfl rfl rfl rfl rfl (by kernel_rfl) (by kernel_rfl) (by kernel_rfl) (by kernel_rfl) (by kernel_rfl) (by kernel_rfl) (by kernel_rfl) (by kernel_rfl) (by kernel_rfl) (by kernel_rfl) (reads_int Try.underlying3) (reads_str Try.underlying9) (reads_int Try.underlying3) (reads_int Try.underlying3) (reads_int Try.underlying3) (reads_int Try.underlying3) reads_curve (reads_bool Try.underlying4) (reads_int Try.underlying3) reads_moves).imp fun w cs a h => by
  obtain ⟨a0, a1, a2, a3, a4, a5, a6, a7, a8, a9⟩ := a
  obtain ⟨h0, h1, h2, h3, h4, h5, h6, h7, h8, h9⟩ := h
  obtain ⟨e0, b0⟩ := h0
  obtain ⟨e1, b1⟩ := h1
  obtain ⟨e2, b2⟩ := h2
  obtain ⟨e3, b3⟩ := h3
  obtain ⟨e4, b4⟩ := h4
  obtain ⟨e5, b5⟩ := h5
  obtain ⟨s6_0, e6, b6⟩ := h6
  obtain ⟨b6_0, b6_1⟩ := b6
  have e7 := h7; simp only [boolC] at e7
  obtain ⟨e8, b8⟩ := h8
  obtain ⟨s9, e9⟩ := List.length_eq_one_iff.1 (((sliceC moveC)).len h9); rw [e9] at h9
  have e108 := cells_split e8 e9
  have e107 := cells_split e7 e108
  have e106 := cells_split e6 e107
  have e105 := cells_split e5 e106
  have e104 := cells_split e4 e105
  have e103 := cells_split e3 e104
  have e102 := cells_split e2 e103
  have e101 := cells_split e1 e102
  have e100 := cells_split e0 e101
  exact ⟨⟨a0, a1, a2, a3, a4, a5, a6, a7, a8, a9⟩, ⟨s6_0, s9, by rw [e100]; rfl, b0, b1, b2, b3, b4, b5, b6_0, b6_1, b8, h9⟩, Nat.le_refl _⟩
theorem reads_cues : Reads Try.prog (sliceC cueC) 22 := reads_slice Try.underlying22 (c := cueC) (by kernel_rfl) (by decide) reads_cue
end Go.Proofs.Ytphgchakmkankaa

namespace Go.Proofs.Ytphgchakmkankaa
set_option linter.unusedSectionVars false
open Go.RowKit Go.Deep
set_option linter.unusedVariables false
set_option linter.unusedSimpArgs false
section
variable {c : RC}
theorem repL_nil : RepL c [] [] := by simp [RepL]
theorem repL_cons {a : AV} {v : Value} {l : List AV} {vs : List Value} (h : Rep c a v) (k : RepL c l vs) : RepL c (a :: l) (v :: vs) := by
 simp only [RepL]; exact ⟨v, vs, rfl, h, k⟩
theorem rep_int (k : IntKind) (n : Int) : Rep c (.int k n) (.int k n) := by simp [Rep]
theorem rep_bool (b : Bool) : Rep c (.bool b) (.bool b) := by simp [Rep]
theorem rep_str (s : ByteArray) : Rep c (.str s) (.string s) := by simp [Rep]
def RP {α : Type} (c : RC) (d : Cod α) (e : α → List AV) (ok : α → Prop) : Prop := ∀ cs x, d.is c.w cs x → RepL c (e x) cs ∧ ok x ∧ (∀ v ∈ cs, one1 v = true)
theorem repL_len : ∀ {l : List AV} {vs : List Value}, RepL c l vs → l.length = vs.length
 | [], vs, h => by simp only [RepL] at h; subst h; rfl
 | a :: l, vs, h => by
  simp only [RepL] at h
  obtain ⟨v, vs', rfl, _, h⟩ := h
  simp [repL_len h]
theorem repCs_of {b : Nat} : ∀ {l : List AV} {vs : List Value} {off : Nat}, RepL c l vs → (∀ v ∈ vs, one1 v = true) → (∀ j, j < vs.length → c.w.cell? ⟨b, off + j, none⟩ = vs[j]?) → RepCs c b off l
 | [], vs, off, h, _, _ => by simp [RepCs]
 | a :: l, vs, off, h, ho, hc => by
  simp only [RepL] at h
  obtain ⟨v, vs', rfl, h1, h2⟩ := h
  simp only [RepCs]
  refine ⟨⟨v, by simpa using hc 0 (by simp), ho v (by simp), h1⟩, repCs_of h2 (fun v hv => ho v (by simp [hv])) fun j hj => ?_⟩
  have := hc (j + 1) (by simpa using hj)
  rw [show off + 1 + j = off + (j + 1) by omega]
  simpa using this
theorem repEs_of {α : Type} {d : Cod α} {e : α → List AV} {ok : α → Prop} (H : RP c d e ok) {b sz : Nat} (hsz : d.size = sz) : ∀ {l : List α} {off : Nat}, (∀ (i : Nat) (x : α), l[i]? = some x → ∃ cs', (∀ j, j < d.size → c.w.cell? ⟨b, off + (i * d.size + j), none⟩ = cs'[j]?) ∧ d.is c.w cs' x) → RepEs c sz b off (l.map e) ∧ ∀ x ∈ l, ok x
 | [], off, h => by simp [RepEs]
 | x :: l, off, h => by
  obtain ⟨cs, h1, h2⟩ := h 0 x rfl
  obtain ⟨k1, k2, k3⟩ := H cs x h2
  have hl : cs.length = d.size := d.len h2
  obtain ⟨r1, r2⟩ := repEs_of H hsz (l := l) (off := off + sz) (fun i y hy => by
   obtain ⟨cs', q1, q2⟩ := h (i + 1) y (by simpa using hy)
   refine ⟨cs', fun j hj => ?_, q2⟩
   have := q1 j hj
   rw [← hsz]
   rwa [show off + d.size + (i * d.size + j) = off + ((i + 1) * d.size + j) by rw [Nat.succ_mul]; omega])
  refine ⟨?_, fun y hy => ?_⟩
  ·simp only [List.map_cons, RepEs]
   refine ⟨by rw [repL_len k1, hl, hsz], repCs_of k1 k3 fun j hj => ?_, r1⟩
   have := h1 j (by rw [← hl]; exact hj)
   simpa using this
  ·rcases List.mem_cons.1 hy with rfl | hy
   ·exact k2
   ·exact r2 y hy
theorem cell_in {w : World} {b off : Nat} {v : Value} (h : w.cell? ⟨b, off, none⟩ = some v) : b < w.heap.size := by
 rcases Nat.lt_or_ge b w.heap.size with k | k
 ·exact k
 ·simp [World.cell?, Array.getElem?_eq_none k] at h
theorem rp_slice {α : Type} {d : Cod α} {e : α → List AV} {ok : α → Prop} (hX : ∀ b, ¬ c.X b) (H : RP c d e ok) {sz : Nat} (hsz : d.size = sz) (h0 : 0 < sz) {v : Value} {l : List α} (h : (sliceC d).is c.w [v] l) : Rep c (sl sz e l) v ∧ okL ok l ∧ one1 v = true := by
 rcases h with ⟨h1, rfl⟩ | ⟨b, off, sp, cap, h1, h2, h3, h4⟩
 ·simp only [List.cons.injEq, and_true] at h1
  subst h1
  exact ⟨by simp [sl, Rep, h0], ⟨by simp, by simp⟩, rfl⟩
 ·simp only [List.cons.injEq, and_true] at h1
  subst h1
  have hes : sp = none ∨ l = [] := by
   cases l with
   | nil => exact .inr rfl
   | cons x l => exact .inl (h4 0 (by simp)).1
  have hh : ∀ (i : Nat) (x : α), l[i]? = some x → ∃ cs', (∀ j, j < d.size → c.w.cell? ⟨b, off + (i * d.size + j), none⟩ = cs'[j]?) ∧ d.is c.w cs' x := by
   intro i x hx
   obtain ⟨hi, hx⟩ := List.getElem?_eq_some_iff.1 hx
   subst hx
   exact (h4 i hi).2
  obtain ⟨r1, r2⟩ := repEs_of H hsz hh
  refine ⟨?_, ⟨by unfold maxLen at h3; unfold mxl; omega, r2⟩, rfl⟩
  simp only [sl, Rep]
  refine ⟨some ⟨b, off, sp⟩, cap, by simp, by simpa using h2, h0, ?_⟩
  rcases hes with rfl | rfl
  ·cases l with
   | nil => exact .inl rfl
   | cons x l =>
    refine .inr ⟨b, off, rfl, ?_, hX b, r1⟩
    obtain ⟨cs, q1, q2⟩ := hh 0 x rfl
    have hl : cs.length = d.size := d.len q2
    have := q1 0 (by omega)
    obtain ⟨y, hy⟩ : ∃ y, cs[0]? = some y := ⟨cs[0], List.getElem?_eq_getElem (by omega)⟩
    rw [hy] at this
    exact cell_in this
  ·exact .inl rfl
theorem one_nil : ∀ v ∈ ([] : List Value), one1 v = true := by simp
theorem one_cons {v : Value} {vs : List Value} (h : one1 v = true) (k : ∀ x ∈ vs, one1 x = true) : ∀ x ∈ v :: vs, one1 x = true := by
 intro x hx
 rcases List.mem_cons.1 hx with rfl | hx
 ·exact h
 ·exact k x hx
theorem rp_Point : RP c pointC cPoint okPoint := by
 rintro cs x ⟨rfl, h0, h1⟩
 exact ⟨(repL_cons (rep_int _ _) (repL_cons (rep_int _ _) repL_nil)), ⟨h0, h1⟩, (one_cons rfl (one_cons rfl one_nil))⟩
theorem rp_Move : RP c moveC cMove okMove := by
 rintro cs x ⟨rfl, h0, h1, h2, h3, h6, h7⟩
 exact ⟨(repL_cons (rep_int _ _) (repL_cons (rep_str _) (repL_cons (rep_int _ _) (repL_cons (rep_int _ _) (repL_cons (rep_bool _) (repL_cons (rep_bool _) (repL_cons (rep_int _ _) (repL_cons (rep_int _ _) repL_nil)))))))), ⟨⟨h0, (show okS _ by unfold okS mxl; have := h1; unfold maxLen at this; omega)⟩, ⟨h2, h3⟩, h6, h7⟩, (one_cons rfl (one_cons rfl (one_cons rfl (one_cons rfl (one_cons rfl (one_cons rfl (one_cons rfl (one_cons rfl one_nil))))))))⟩
theorem rp_Cue (hX : ∀ b, ¬ c.X b) : RP c cueC cCue okCue := by
 rintro cs x ⟨v0, v1, rfl, h0, h1, h2, h3, h4, h5, h6, h7, h9, h10⟩
 obtain ⟨r7, o7, n7⟩ := rp_slice hX rp_Point (sz := 2) rfl (by decide) h7
 obtain ⟨r10, o10, n10⟩ := rp_slice hX rp_Move (sz := 8) rfl (by decide) h10
 exact ⟨(repL_cons (rep_int _ _) (repL_cons (rep_str _) (repL_cons (rep_int _ _) (repL_cons (rep_int _ _) (repL_cons (rep_int _ _) (repL_cons (rep_int _ _) (repL_cons (rep_int _ _) (repL_cons r7 (repL_cons (rep_bool _) (repL_cons (rep_int _ _) (repL_cons r10 repL_nil))))))))))), ⟨h0, (show okS _ by unfold okS mxl; have := h1; unfold maxLen at this; omega), h2, h3, h4, h5, ⟨h6, o7⟩, h9, o10⟩, (one_cons rfl (one_cons rfl (one_cons rfl (one_cons rfl (one_cons rfl (one_cons rfl (one_cons rfl (one_cons n7 (one_cons rfl (one_cons rfl (one_cons n10 one_nil)))))))))))⟩
end
end Go.Proofs.Ytphgchakmkankaa

namespace Go.Proofs.Ytphgchakmkankaa
set_option linter.unusedSectionVars false
set_option linter.unusedSimpArgs false
set_option linter.unusedVariables false
open Go.RowKit
noncomputable def base (W : World) : RC := ctx ⟨W, [], fun _ => False, nmT⟩ W [] nopb
theorem base_X (W : World) : ∀ b, ¬ (base W).X b := by
 rintro b (k | ⟨p, hp, _⟩ | ⟨i, k⟩)
 ·exact k
 ·cases hp
 ·cases k
theorem law_run {n : FuncId} {m : List AV → Heap → Option (AV × Heap)} {avs : List AV} (hs : Sound Try.prog nmT n m) (hc : ∀ us w, (callFunc n us).run Try.prog w = .ok (.enter n us) w) (W : World) (vs : Array Value) (hr : RepL (base W) avs vs.toList) (hm : m avs [] = some (.bool true, [])) :
  Calls Try.prog n vs W fun e W' => e = .returned (.bool true) ∧ Below W.heap.size W W' := by
 have hh0 : HeapRel (ctx ⟨W, [], fun _ => False, nmT⟩ W [] nopb) [] := by
  refine ⟨rfl, fun i j p q hp => ?_, fun i p x hp => ?_⟩
  ·simp [ctx] at hp
  ·simp [ctx] at hp
 rcases hs _ _ _ _ hm with ⟨g, h1, h2⟩ | hv
 case inr =>
  obtain ⟨v, w', E', k1, _⟩ := hv ⟨W, [], fun _ => False, nmT⟩ vs rfl (fun b k => k.elim) hh0 hr
  rw [hc] at k1
  injection k1 with k1
  cases k1
 have hg : g = n := by
  have e1 := h1 #[] W
  rw [hc #[] W] at e1
  injection e1 with e1
  injection e1 with e1
  exact e1.symm
 subst hg
 have hh : HeapRel (ctx ⟨W, [], fun _ => False, nmT⟩ W [] nopb) [] := by
  refine ⟨rfl, fun i j p q hp => ?_, fun i p x hp => ?_⟩
  ·simp [ctx] at hp
  ·simp [ctx] at hp
 refine (h2 ⟨W, [], fun _ => False, nmT⟩ vs rfl (fun b k => k.elim) hh hr).mono ?_
 rintro e w' ⟨v, E', rfl, ho, _, hv⟩
 simp only [Rep] at hv
 subst hv
 exact ⟨rfl, ho.os, ho.tape, ho.output, ho.size, fun k hk => ho.stay k hk (fun p hp => by cases hp)⟩
end Go.Proofs.Ytphgchakmkankaa

