/- Parts of the proof of CueDeletesMatchSpec, in order. -/
import Derived.Orders
import Derived.Below
import Derived.WalkKit
import Derived.Laws.StructEq
import Derived.Laws.Append
import Derived.Laws.AppendOwn
import Derived.Test.YtphgchakmkankaaRows
import Derived.KernelRfl
import Derived.Lib.Bytealg
import Derived.Sort.Defs
import Derived.Lib.BitFns
import Derived.Test.YtphgchakmkankaaShelf
import Derived.Lib.Overlaps
import Derived.IntWalk
import Derived.Lib.Strings
import Derived.WalkSpells
import Derived.ProofKit
import Derived.OpenShut
import Derived.Lib.Hide
import Derived.Lib.SmallJoins
import Derived.Deep.QuietTactic
import Derived.BigQuiet
import Derived.Deep.RegionHeld3
import Derived.Deep.Slices
import Derived.Test.YtphgchakmkankaaKCueDeletesMatchSpec4
namespace Go.Proofs.Ytphgchakmkankaa
set_option linter.unusedSectionVars false
set_option linter.unusedVariables false
set_option linter.unusedSimpArgs false
open HP
section
variable {α β : Type} {E : List AV → β → HP} {f : α → β} {B : Blk → Prop} {σ0 σ : Heap} {R : HP} {sz : Nat} {v : AV}
theorem els_map : ∀ (seg : List (List AV)) (l : List α), els E seg (l.map f) = els (fun e x => E e (f x)) seg l
 | [], [] => rfl
 | [], _ :: _ => rfl
 | _ :: _, [] => rfl
 | e :: seg, x :: l => by rw [List.map_cons, els, els, els_map seg l]
theorem sl_map (l : List α) : Sl E sz v (l.map f) = Sl (fun e x => E e (f x)) sz v l := by
 funext h
 unfold Sl
 simp only [List.map_eq_nil_iff, List.length_map, els_map]
theorem els_mono {E' : List AV → β → HP} (k : ∀ {e x} {R : HP}, Hs B σ0 σ (E e x * R) → Hs B σ0 σ (E' e x * R)) : ∀ {seg : List (List AV)} {l : List β} {R : HP}, Hs B σ0 σ (els E seg l * R) → Hs B σ0 σ (els E' seg l * R)
 | [], [], R, H => H
 | [], _ :: _, R, H => H
 | _ :: _, [], R, H => H
 | e :: seg, x :: l, R, H => by
  rw [els] at H ⊢
  have H2 := els_mono k (hs_eq (show _ = els E seg l * (E e x * R) by ac_rfl) H)
  have H3 := k (hs_eq (show _ = E e x * (els E' seg l * R) by ac_rfl) H2)
  exact hs_eq (by ac_rfl) H3
theorem sl_mono {E' : List AV → β → HP} (k : ∀ {e x} {R : HP}, Hs B σ0 σ (E e x * R) → Hs B σ0 σ (E' e x * R)) {l : List β} (H : Hs B σ0 σ (Sl E sz v l * R)) : Hs B σ0 σ (Sl E' sz v l * R) := by
 rcases sl_cases H with ⟨rfl, hv, H⟩ | ⟨id, g, seg, rfl, hl, H⟩
 ·exact slz H hv
 ·have H2 := els_mono k (hs_eq (show _ = els E seg l * (blk id (.arr g sz seg) * R) by ac_rfl) H)
  exact sl_os (id := id) (g := g) (seg := seg) (hs_eq (by ac_rfl) H2)
end
def CueI (e : List AV) (y : CueD × Option (List AV)) : HP := CueE e y.1 * pr (∀ e0, y.2 = some e0 → e = e0)
section
variable {σ0 σ : Heap} {R : HP} {v : AV}
theorem cueI_E {B : Blk → Prop} {e : List AV} {y : CueD × Option (List AV)} {R : HP} (H : Hs B σ0 σ (CueI e y * R)) : Hs B σ0 σ (CueE e y.1 * R) ∧ ∀ e0, y.2 = some e0 → e = e0 := by
 unfold CueI at H
 have K := hs_pr.1 (hs_eq (show _ = pr (∀ e0, y.2 = some e0 → e = e0) * (CueE e y.1 * R) by ac_rfl) H)
 exact ⟨K.2, K.1⟩
theorem cueI_of {B : Blk → Prop} {e : List AV} {y : CueD × Option (List AV)} {R : HP} (H : Hs B σ0 σ (CueE e y.1 * R)) (h : ∀ e0, y.2 = some e0 → e = e0) : Hs B σ0 σ (CueI e y * R) := by
 unfold CueI
 exact hs_eq (show pr (∀ e0, y.2 = some e0 → e = e0) * (CueE e y.1 * R) = _ by ac_rfl) (hs_pr.2 ⟨h, H⟩)
theorem unpin {l : List (CueD × Option (List AV))} (H : Hs anyB σ0 σ (Sl CueI 11 v l * R)) : Hs anyB σ0 σ (Sl CueE 11 v (l.map (·.1)) * R) := by
 rw [sl_map]
 exact sl_mono (fun K => (cueI_E K).1) H
theorem pin {l : List CueD} {i : Nat} {x : CueD} (hx : l[i]? = some x) (H : Hs anyB σ0 σ (Sl CueE 11 v l * R)) : ∃ p vp vm, A.iaddr 11 v (.int .i64 (i : Int)) = some p ∧ (∃ q, A.faddr 10 p = some q ∧ ((A.deref q σ).bind fun c => A.part1 0 c) = some vm) ∧ A.lenS vm = some (.int .i64 (x.moves.length : Int)) ∧
  Hs anyB σ0 σ (Sl CueI 11 v ((l.map fun y => (y, none)).set i (x, some (cCueH x vp vm))) * R) := by
 have H2 : Hs anyB σ0 σ (Sl CueI 11 v (l.map fun y => (y, none)) * R) := by
  rw [sl_map]
  exact sl_mono (fun K => cueI_of K (fun e0 h => by cases h)) H
 obtain ⟨p, F, e, h1, hC, K, back⟩ := sl_cell H2 (x := (x, none)) (by rw [List.getElem?_map, hx]; rfl)
 have K2 := hs_eq (show _ = CueI e (x, none) * (F e * R) by ac_rfl) K
 obtain ⟨K3, _⟩ := cueI_E K2
 obtain ⟨vp, vm, he, K4⟩ := cueP (hs_eq (show _ = CueP (Sl (fl cMove) 8) e x * (F e * R) from rfl) K3)
 have hvm : A.cell vm = some vm := cell_sl (hs_drop K4)
 refine ⟨p, vp, vm, h1, ?_, sl_len (hs_drop K4), ?_⟩
 ·refine faddr_at hC 10 K ?_
  subst he
  simp only [cCueH, List.drop_succ_cons, List.drop_zero, A.part1, List.getElem?_cons_zero, Option.bind_some]
  exact hvm
 ·refine back (e := e) ?_
  have K5 := cueI_of (y := (x, some (cCueH x vp vm))) K3 (fun e0 h => by injection h with h; rw [he, h])
  exact hs_eq (by ac_rfl) K5
theorem pin_read {l : List (CueD × Option (List AV))} {i : Nat} {x : CueD} {vp vm : AV} (hx : l[i]? = some (x, some (cCueH x vp vm))) (H : Hs anyB σ0 σ (Sl CueI 11 v l * R)) : ∃ R', Hs anyB σ0 σ (Sl (fl cMove) 8 vm x.moves * R') := by
 obtain ⟨p, F, e, h1, hC, K, back⟩ := sl_cell H hx
 obtain ⟨K3, he⟩ := cueI_E (hs_eq (show _ = CueI e (x, some (cCueH x vp vm)) * (F e * R) by ac_rfl) K)
 have he := he _ rfl
 obtain ⟨vp', vm', he', K4⟩ := cueP (hs_eq (show _ = CueP (Sl (fl cMove) 8) e x * (F e * R) from rfl) K3)
 have : vm = vm' := by
  rw [he] at he'
  simp only [cCueH, List.cons.injEq] at he'
  exact he'.2.2.2.2.2.2.2.2.2.2.1
 subst this
 exact ⟨_, hs_drop K4⟩
theorem lt_slf {α : Type} {c : α → List AV} {sz : Nat} {l : List α} {vm : AV} (hc : ∀ x, FzL (c x)) (H : Hs anyB σ0 σ (Sl (fl c) sz vm l * R)) : Lt σ (.s sz) vm (sl sz c l) := by
 obtain ⟨v', h1, h2, h3⟩ := slf_fz H hc (Nat.zero_le _) 7
 refine ⟨⟨v', h1, ?_, by rw [h3]; rfl⟩, rfl, fun ho => ?_⟩
 ·rcases slf_cases H with ⟨rfl, rfl | rfl, _⟩ | ⟨id, g, rfl, K⟩
  ·simp [A.frz] at h1; subst h1; rfl
  ·simp [A.frz] at h1; subst h1; rfl
  ·cases v' <;> first | rfl | (cases h2; done) | (simp only [A.nn] at h3; cases h3)
 ·rcases slf_cases H with ⟨rfl, rfl | rfl, _⟩ | ⟨id, g, rfl, K⟩
  ·rfl
  ·rfl
  ·cases ho
theorem moveOf_own {l : List MoveD} {vm : AV} (H : Hs anyB σ0 σ (Sl (fl cMove) 8 vm l * R)) (hs : srtM l) (hl : l.length < 4611686018427387904) (k : KeyD) : m_R5_moveOf [vm, .agg (cKey k)] σ = some (.tup [.int .i64 (posM l k : Int), .bool (hasM l k)], σ) :=
 lent (ain := [.s 8]) (ts := [sl 8 cMove l, .agg (cKey k)]) ⟨lt_slf fz_cMove H, lt_fz (fz_agg (fz_cKey k)) rfl, trivial⟩ (fun σ => h_R5_moveOf (moveOf_t hs hl k)) rfl
theorem put5 {l : List MoveD} {vm : AV} {m : MoveD} (H : Hs anyB σ0 σ (Sl (fl cMove) 8 vm l * R)) (hs : srtM l) (hl : l.length < 2199023255552) : ∃ v' σ', m_R5_put [vm, .agg (cMove m)] σ = some (v', σ') ∧ A.cell v' = some v' ∧ Hs anyB σ0 σ' (Sl (fl cMove) 8 v' (putM l m) * R) := by
 have run : ∃ v' σ', r_R5_put vm (.agg (cMove m)) σ = some (v', σ') ∧ A.cell v' = some v' ∧ Hs anyB σ0 σ' (Sl (fl cMove) 8 v' (putM l m) * R) := by
  unfold r_R5_put
  rw [ce_cMove, Option.bind_some, pA_cMove_key, Option.bind_some, moveOf_own H hs (by omega), Option.bind_some]
  show ∃ v' σ', A.cond (.bool (hasM l m.key)) _ _ = _ ∧ _
  cases hh : hasM l m.key
  ·obtain ⟨v', σ1, e1, e2, H1⟩ := insM (m := m) (posM_le l m.key) hl H
   rw [cnd_f, pA_cMove, Option.bind_some, row_move, Option.bind_some, e1, Option.bind_some]
   refine ⟨v', σ1, rfl, e2, ?_⟩
   rw [putM, if_neg (by rw [hh]; decide)]; exact H1
  ·obtain ⟨y, hy⟩ := hasM_lt hs hh
   obtain ⟨pp, σ1, e1, e2, H1⟩ := setM (m := m) hy H
   rw [cnd_t, pA_cMove, Option.bind_some, e1, Option.bind_some, ce_cMove, Option.bind_some, e2, Option.bind_some]
   refine ⟨vm, σ1, rfl, cell_sl H, ?_⟩
   rw [putM, if_pos hh]; exact H1
 obtain ⟨v', σ', h1, h2⟩ := run
 refine ⟨v', σ', ?_, h2⟩
 unfold m_R5_put A.wrap
 rw [Bool.false_and, cond_false, show A.nnL [] [vm, .agg (cMove m)] = [vm, .agg (cMove m)] by simp [A.nnL]]
 show (r_R5_put vm (.agg (cMove m)) σ).map _ = _
 rw [h1]
 simp [nn_k]
theorem put5_cell {p : AV} {F : List AV → HP} {e : List AV} {x : CueD} (hC : Cl p F) (H : Hs anyB σ0 σ (F e * (CueE e x * R))) (hs : srtM x.moves) (hl : x.moves.length < 2199023255552) : ∃ q vm, A.faddr 10 p = some q ∧ ((A.deref q σ).bind fun c => A.part1 0 c) = some vm ∧ (∀ k, m_R5_moveOf [vm, .agg (cKey k)] σ = some (.tup [.int .i64 (posM x.moves k : Int), .bool (hasM x.moves k)], σ)) ∧
  ∀ m, ∃ v' σ1 σ2, m_R5_put [vm, .agg (cMove m)] σ = some (v', σ1) ∧ A.cell v' = some v' ∧ A.storeAt q [v'] σ1 = some σ2 ∧ ∃ e', Hs anyB σ0 σ2 (F e' * (CueE e' { x with moves := putM x.moves m } * R)) := by
 obtain ⟨vp, vm, he, K⟩ := cueP (hs_eq (show _ = CueP (Sl (fl cMove) 8) e x * (F e * R) from by rw [show CueE e x = CueP (Sl (fl cMove) 8) e x from rfl]; ac_rfl) H)
 subst he
 have hmv : Hs anyB σ0 σ (Sl (fl cMove) 8 vm x.moves * (F (cCueH x vp vm) * (Sf cPoint 2 vp x.curve.points * R))) := hs_eq (by ac_rfl) K
 obtain ⟨q, f1, f2⟩ := faddr_at hC 10 H (vm := vm) (by
  have := cell_sl hmv
  simp only [cCueH, List.drop_succ_cons, List.drop_zero, A.part1, List.getElem?_cons_zero, Option.bind_some]
  exact this)
 refine ⟨q, vm, f1, f2, fun k => moveOf_own hmv hs (by omega) k, fun m => ?_⟩
 obtain ⟨v', σ1, e1, e2, H1⟩ := put5 (m := m) hmv hs hl
 obtain ⟨q', g1, _, g3⟩ := hC.fa 10
 rw [f1] at g1; injection g1 with g1; subst g1
 obtain ⟨σ2, e3, H2⟩ := g3 (hs_eq (show _ = F (cCueH x vp vm) * (Sl (fl cMove) 8 v' (putM x.moves m) * (Sf cPoint 2 vp x.curve.points * R)) by ac_rfl) H1) (new := [v']) (e' := cCueH x vp v') rfl
 refine ⟨v', σ1, σ2, e1, e2, e3, cCueH x vp v', ?_⟩
 have := cueP_of (M := Sl (fl cMove) 8) (x := { x with moves := putM x.moves m }) (e := cCueH x vp v') (vp := vp) (vm := v') (R := F (cCueH x vp v') * R) (B := anyB) (σ0 := σ0) (σ := σ2) rfl (hs_eq (by ac_rfl) H2)
 exact hs_eq (by rw [show CueE (cCueH x vp v') { x with moves := putM x.moves m } = CueP (Sl (fl cMove) 8) (cCueH x vp v') { x with moves := putM x.moves m } from rfl]; ac_rfl) this
theorem set_mix {l : List CueD} {i : Nat} {x : CueD} (hx1 : l[i]? = some x) : ((l.take i).map (fun x => (x, true)) ++ (l.drop i).map (fun x => (x, false))).set i (x, true) = (l.take (i + 1)).map (fun x => (x, true)) ++ (l.drop (i + 1)).map (fun x => (x, false)) := by
 have hi := (List.getElem?_eq_some_iff.1 hx1).1
 have e : l.drop i = x :: l.drop (i + 1) := by rw [List.drop_eq_getElem_cons hi, (List.getElem?_eq_some_iff.1 hx1).2]
 rw [e, List.take_add_one, hx1, List.set_append_right _ _ (by simp; omega)]
 rw [show i - ((l.take i).map fun x => (x, true)).length = 0 by simp; omega]
 simp
def CueX (e : List AV) (y : CueD × Bool) : HP := match y.2 with | true => CueE e y.1 | false => fl cCue e y.1
theorem cloned_s {l : List CueD} (hl : Small l) (hx : l.length ≤ mxl) (H : Hs anyB σ0 σ R) : ∃ v σ', m_R5_cloned [sl 11 cCue l] σ = some (v, σ') ∧ Hs anyB σ0 σ' (Sl CueE 11 v l * R) := by
 have run : ∃ b : AV × Heap, r_R5_cloned (sl 11 cCue l) σ = some b ∧ Hs anyB σ0 b.2 (Sl CueE 11 b.1 l * R) := by
  unfold r_R5_cloned
  obtain ⟨v, s0, e1, _, K0⟩ := cloC hl.1 H
  rw [e1, Option.bind_some, sl_len K0, Option.bind_some]
  refine loop_k (Q := fun q => q.1 = .exit 0 ∧ Hs anyB σ0 q.2.2 (Sl CueE 11 v l * R)) (loop_hs l (fun i w s => w = [.int .i64 (i : Int)] ∧ Hs anyB σ0 s (Sl CueX 11 v ((l.take i).map (fun x => (x, true)) ++ (l.drop i).map (fun x => (x, false))) * R)) ?_ ?_ ⟨rfl, ?_⟩) ?_
  ·rintro i x w s hx1 ⟨rfl, K⟩
   obtain ⟨hm, hp⟩ := hl.2 x (List.mem_of_getElem? hx1)
   have hi := (List.getElem?_eq_some_iff.1 hx1).1
   have hxx : ((l.take i).map (fun x => (x, true)) ++ (l.drop i).map (fun x => (x, false)))[i]? = some (x, false) := by
    rw [List.getElem?_append_right (by simp; omega)]
    simp only [List.length_map, List.length_take, Nat.min_eq_left (Nat.le_of_lt hi), Nat.sub_self, List.getElem?_map, List.getElem?_drop, Nat.add_zero, hx1]
    rfl
   obtain ⟨p, F, e, h1, hC, K1, back⟩ := sl_cell K hxx
   have he : e = cCue x := (hs_pr.1 (hs_drop K1)).1
   subst he
   have K2 := hs_drop (hs_eq (show _ = pr (cCue x = cCue x) * (F (cCue x) * R) by rw [show CueX (cCue x) (x, false) = pr (cCue x = cCue x) from rfl]; ac_rfl) K1)
   obtain ⟨q, f1, f2, f3⟩ := hC.fa 10
   obtain ⟨q6, g1, _, _⟩ := hC.fa 6
   obtain ⟨q7, k1, k2, k3⟩ := hC.fa 7
   have g2 : A.faddr 1 q6 = some q7 := by rw [hC.fc 6 1 q6 g1]; exact k1
   simp only [List.getD_cons_zero]
   rw [ix_lt hx1, Option.bind_some, cnd_t, h1, Option.bind_some, f1, Option.bind_some, f2 K2, Option.bind_some, show A.part1 0 ((cCue x).drop 10) = some (sl 8 cMove x.moves) from rfl, Option.bind_some]
   obtain ⟨vm, s1, e3, e4, K3⟩ := cloM hm K2
   obtain ⟨s2, e5, K4⟩ := f3 (hs_eq (show _ = F (cCue x) * (Sl (fl cMove) 8 vm x.moves * R) by ac_rfl) K3) (new := [vm]) (e' := cCueH x (sl 2 cPoint x.curve.points) vm) rfl
   rw [e3, Option.bind_some, Option.bind_some, f1, Option.bind_some, e4, Option.bind_some, Option.bind_some, e5, Option.bind_some, Option.bind_some, g1, Option.bind_some, g2, Option.bind_some, k2 K4, Option.bind_some, show A.part1 0 ((cCueH x (sl 2 cPoint x.curve.points) vm).drop 7) = some (sl 2 cPoint x.curve.points) from rfl, Option.bind_some]
   obtain ⟨vp, s3, e6, e7, K5⟩ := cloP hp K4
   obtain ⟨s4, e8, K6⟩ := k3 (hs_eq (show _ = F (cCueH x (sl 2 cPoint x.curve.points) vm) * (Sl (fl cPoint) 2 vp x.curve.points * (Sl (fl cMove) 8 vm x.moves * R)) by ac_rfl) K5) (new := [vp]) (e' := cCueH x vp vm) rfl
   rw [e6, Option.bind_some, Option.bind_some, g1, Option.bind_some, g2, Option.bind_some, e7, Option.bind_some, Option.bind_some, e8, Option.bind_some, ix_inc hx1 hx, Option.bind_some]
   refine ⟨_, _, rfl, rfl, ?_⟩
   have K7 := cueP_of (M := Sl (fl cMove) 8) (x := x) (e := cCueH x vp vm) rfl (hs_eq (show _ = Sf cPoint 2 vp x.curve.points * (Sl (fl cMove) 8 vm x.moves * (F (cCueH x vp vm) * R)) by ac_rfl) (sf_own (hs_eq (show _ = Sl (fl cPoint) 2 vp x.curve.points * (F (cCueH x vp vm) * (Sl (fl cMove) 8 vm x.moves * R)) by ac_rfl) K6)))
   have K8 := back (y := (x, true)) (hs_eq (show _ = F (cCueH x vp vm) * (CueX (cCueH x vp vm) (x, true) * R) by rw [show CueX (cCueH x vp vm) (x, true) = CueP (Sl (fl cMove) 8) (cCueH x vp vm) x from rfl]; ac_rfl) K7)
   refine hs_eq ?_ K8
   rw [set_mix hx1]
  ·rintro w s ⟨rfl, K⟩
   simp only [List.getD_cons_zero]
   rw [ix_end, Option.bind_some, cnd_f]
   refine ⟨_, rfl, by simp, rfl, ?_⟩
   rw [List.take_length, List.drop_length, List.map_nil, List.append_nil, sl_map] at K
   exact K
  ·rw [List.take_zero, List.map_nil, List.nil_append, List.drop_zero, sl_map]
   exact K0
  ·rintro ⟨e, w, s⟩ ⟨h1, K⟩
   simp only at h1 K
   subst h1
   exact ⟨_, rfl, K⟩
 obtain ⟨⟨v, σ'⟩, h1, h2⟩ := run
 refine ⟨v, σ', wrap_eq rfl ?_ rfl, h2⟩
 rw [show A.nnL [Sh.e 11 [.k, .k, .k, .k, .k, .k, .k, .s 2, .k, .k, .s 8]] [sl 11 cCue l] = [sl 11 cCue l] from nn_t1 (nn_e (fun _ => rfl) _) rfl]
 exact h1
end
end Go.Proofs.Ytphgchakmkankaa

namespace Go.Proofs.Ytphgchakmkankaa
set_option linter.unusedSectionVars false
set_option linter.unusedVariables false
set_option linter.unusedSimpArgs false
open HP
def OkC (l : List CueD) : Prop := ∀ c ∈ l, okCue c
theorem okC_set {l : List CueD} (h : OkC l) (i : Nat) {g : List MoveD → List MoveD} (hg : ∀ c ∈ l, okL okMove (g c.moves)) : OkC (setMv l i g) := by
 intro c hc
 unfold setMv at hc
 split at hc
 ·rename_i x hx
  rcases List.mem_or_eq_of_mem_set hc with hc | hc
  ·exact h c hc
  ·subst hc
   have hx' := h x (List.mem_of_getElem? hx)
   obtain ⟨a1, a2, a3, a4, a5, a6, a7, a8, _⟩ := hx'
   exact ⟨a1, a2, a3, a4, a5, a6, a7, a8, hg x (List.mem_of_getElem? hx)⟩
 ·exact h c hc
theorem mem_put {l : List MoveD} {m x : MoveD} (h : x ∈ putM l m) : x ∈ l ∨ x = m := by
 unfold putM at h
 split at h
 ·exact List.mem_or_eq_of_mem_set h
 ·simp only [List.mem_append, List.mem_singleton] at h
  rcases h with (h | h) | h
  ·exact .inl (List.mem_of_mem_take h)
  ·exact .inr h
  ·exact .inl (List.mem_of_mem_drop h)
theorem ok_put {l : List MoveD} {m : MoveD} (h : ∀ x ∈ l, okMove x) (hm : okMove m) (hl : l.length < 2199023255552) : okL okMove (putM l m) :=
 ⟨by have := put_len l m; unfold mxl; omega, fun x hx => by rcases mem_put hx with hx | rfl; exact h x hx; exact hm⟩
theorem okC_put {l : List CueD} (h : OkC l) {k : Nat} (hI : Inv k l) (hk : k ≤ 100000) (i : Nat) {m : MoveD} (hm : okMove m) : OkC (setMv l i (putM · m)) :=
 okC_set h i fun c hc => ok_put (h c hc).2.2.2.2.2.2.2.2.2 hm (by have := (hI.2 c hc).2; omega)
theorem okL_of {l : List CueD} (h : OkC l) {k : Nat} (hI : Inv k l) : okL okCue l := ⟨by have := hI.1; unfold mxl; omega, h⟩
theorem okC_del {l : List CueD} (hl : OkC l) (hI : Inv 0 l) {a : Nat} {x : CueD} (hx : l[a]? = some x) (way : Int) : OkC (delF l a way) ∧ Inv 2000 (delF l a way) := by
 have hxo := hl x (List.mem_of_getElem? hx)
 have hxl := (hI.2 x (List.mem_of_getElem? hx)).2
 have ho : OkC (l.eraseIdx a) := fun c hc => hl c (List.mem_of_mem_eraseIdx hc)
 have hIo := hI.erase a
 unfold delF
 simp only [hx, Option.map_some, Option.getD_some]
 split
 ·rename_i nx _
  split
  ·have key : ∀ (ms : List MoveD) (k : Nat) (o : List CueD), (∀ m ∈ ms, okMove m) → k + ms.length ≤ 2000 → OkC o → Inv k o → OkC (ms.foldl (delStep a nx) o) ∧ Inv 2000 (ms.foldl (delStep a nx) o) := by
    intro ms
    induction ms with
    | nil => intro k o _ hk h1 h2; exact ⟨h1, h2.mono (by simpa using hk)⟩
    | cons m ms ih =>
     intro k o hms hk h1 h2
     simp only [List.length_cons] at hk
     refine ih (k + 1) _ (fun y hy => hms y (by simp [hy])) (by omega) ?_ (delStep_inv h2 m)
     unfold delStep
     split
     ·exact h1
     ·exact okC_put h1 h2 (by omega) nx (hms m (by simp))
   exact key x.moves 0 _ hxo.2.2.2.2.2.2.2.2.2 (by omega) ho hIo
  ·exact ⟨ho, hIo.mono (by omega)⟩
 ·exact ⟨ho, hIo.mono (by omega)⟩
def doneF (o : List CueD) : List CueD × Int := if formF o = 0 then (o, 0) else ([], formF o)
def delRes (l : List CueD) (n way : Int) : List CueD × Int :=
 if ¬ (formF l = 0) then ([], formF l) else if hasC l n = false then ([], 8) else if ¬ (way = 1 ∨ way = 2) then ([], 4) else doneF (delF l (posC l n) way)
theorem hasC_at {l : List CueD} {n : Int} (hg : Good l) (h : hasC l n = true) : ∃ x, l[posC l n]? = some x ∧ x.number = n := by
 rw [← posC_has hg.srt] at h
 cases hx : l[posC l n]? with
 | none => rw [hx] at h; cases h
 | some x => rw [hx] at h; exact ⟨x, rfl, by simpa using h⟩
theorem ext0 (a b : AV) : A.ext 0 (.tup [a, b]) = some a := rfl
theorem ext1 (a b : AV) : A.ext 1 (.tup [a, b]) = some b := rfl
theorem nn_ret {v : AV} {o : List CueD} {e : Int} (h : A.nn (.e 11 shCue) v = sl 11 cCue o) : A.nn (.t [(.e 11 shCue), .k]) (.tup [v, .int .i64 e]) = .tup [sl 11 cCue o, .int .i64 e] := by
 show AV.tup (A.nnL [.e 11 shCue, .k] [v, .int .i64 e]) = _
 rw [nn_t1 h (nn_t1 (nn_k _) nn_t0)]
theorem nn_nil {e : Int} : A.nn (.t [(.e 11 shCue), .k]) (.tup [.nsl, .int .i64 e]) = .tup [sl 11 cCue [], .int .i64 e] := nn_ret rfl
theorem nn_arg1 (l : List CueD) (aas : List AV) : A.nnL [Sh.e 11 shCue] (sl 11 cCue l :: aas) = sl 11 cCue l :: aas := nn_t1 (nn_idem_cues l) rfl
theorem When_8 (b : Bool) (σ : Heap) : m_word_When [.bool (!b), .int .i64 8] σ = some (.int .i64 (if b = false then 8 else 0), σ) := by
 rw [When_eq]; cases b <;> rfl
theorem aNeI (a : Int) : A.neq .i (.int .i64 a) (.int .i64 0) = some (.bool (decide (¬ (a = 0)))) := by rw [aNe]
theorem Delete_s {l : List CueD} (hl : okL okCue l) {n : Int} (hn : inI n) (way : Int) (σ : Heap) : m_cue_Delete [sl 11 cCue l, .int .i64 n, .int .i64 way] σ = some (.tup [sl 11 cCue (delRes l n way).1, .int .i64 (delRes l n way).2], σ) := by
 have run : ∃ b, r_cue_Delete (sl 11 cCue l) (.int .i64 n) (.int .i64 way) σ = some (b, σ) ∧ A.nn (.t [(.e 11 shCue), .k]) b = .tup [sl 11 cCue (delRes l n way).1, .int .i64 (delRes l n way).2] := by
  unfold r_cue_Delete delRes
  rw [h_cue_form (form_t l hl), Option.bind_some, aNeI, Option.bind_some]
  by_cases hf : formF l = 0
  case neg =>
   rw [decide_eq_true hf, cnd_t, if_pos hf]
   exact ⟨_, fin_same _ _, nn_nil⟩
  have hg := good_of hf
  rw [decide_eq_false (by simp [hf]), cnd_f, if_neg (by simp [hf])]
  obtain ⟨p, e1, e2, e3⟩ := place_t hg hn σ
  rw [e1, Option.bind_some]
  rw [ext0, Option.bind_some, ext1, Option.bind_some]
  rw [show A.not (.bool (hasC l n)) = some (.bool (!hasC l n)) from rfl, Option.bind_some, When_8, Option.bind_some]
  rw [h_cue_wayFault (a0 := way) (σ := σ) (r := (if ((decide (¬ (way = 1))) && (decide (¬ (way = 2)))) = true then 4 else 0)) rfl, Option.bind_some]
  obtain ⟨w1, hw1⟩ : ∃ w1 : Int, w1 = if hasC l n = false then 8 else 0 := ⟨_, rfl⟩
  obtain ⟨w2, hw2⟩ : ∃ w2 : Int, w2 = if ((decide (¬ (way = 1))) && (decide (¬ (way = 2)))) = true then 4 else 0 := ⟨_, rfl⟩
  rw [← hw1, ← hw2]
  have hrow : (((A.cell (.int .i64 w1)).bind fun v => some [v]).bind fun c9 => (A.splice 0 c9 [(AV.int .i64 0), (AV.int .i64 0)]).bind fun c10 => ((A.cell (.int .i64 w2)).bind fun v => some [v]).bind fun c11 => (A.splice 1 c11 c10).bind fun c12 => some c12) = some [.int .i64 w1, .int .i64 w2] := rfl
  simp only
  rw [hrow, Option.bind_some, Option.bind_some, show AV.sl 1 (chunks 1 2 [.int .i64 w1, .int .i64 w2]) = sl 1 cInt [w1, w2] from rfl, First_eq _ (by simp [mxl]), Option.bind_some, find2, aNeI, Option.bind_some]
  cases hh : hasC l n
  ·have : w1 = 8 := by rw [hw1, hh]; rfl
   subst this
   simp only [show ¬ ((8 : Int) = 0) by decide, not_false_eq_true, if_true, decide_true, cnd_t]
   exact ⟨_, fin_same _ _, nn_nil⟩
  ·have : w1 = 0 := by rw [hw1, hh]; rfl
   subst this
   simp only [not_true_eq_false, if_false, Bool.true_eq_false]
   by_cases hw : way = 1 ∨ way = 2
   case neg =>
    have : w2 = 4 := by rw [hw2]; simp only [not_or] at hw; simp [hw.1, hw.2]
    subst this
    rw [if_pos hw, decide_eq_true (by decide), cnd_t]
    exact ⟨_, fin_same _ _, nn_nil⟩
   have : w2 = 0 := by rw [hw2]; rcases hw with h | h <;> simp [h]
   subst this
   rw [if_neg (fun h => h hw), decide_eq_false (by decide), cnd_f, e3 (.inr hh)]
   obtain ⟨x, hx, _⟩ := hasC_at hg hh
   rw [deleted_s hg hx, Option.bind_some]
   obtain ⟨k1, k2⟩ := okC_del hl.2 (inv_good hg) hx way
   have hd : m_cue_done [sl 11 cCue (delF l (posC l n) way)] σ = some (.tup [if formF (delF l (posC l n) way) = 0 then sl 11 cCue (delF l (posC l n) way) else .nsl, .int .i64 (formF (delF l (posC l n) way))], σ) := by
    unfold m_cue_done A.wrap
    rw [Bool.false_and, cond_false, show A.nnL [] [sl 11 cCue (delF l (posC l n) way)] = [sl 11 cCue (delF l (posC l n) way)] by simp [A.nnL]]
    show (r_cue_done (sl 11 cCue (delF l (posC l n) way)) σ).map _ = _
    unfold r_cue_done
    rw [h_cue_form (form_t _ (okL_of k1 k2)), Option.bind_some, aNeI, Option.bind_some]
    by_cases hq : formF (delF l (posC l n) way) = 0
    ·rw [decide_eq_false (by simp [hq]), cnd_f, if_pos hq, hq]; simp [nn_k]
    ·rw [decide_eq_true hq, cnd_t, if_neg hq]; simp [nn_k]
   rw [hd, Option.bind_some]
   rw [ext0, Option.bind_some, ext1, Option.bind_some]
   refine ⟨_, fin_same _ _, ?_⟩
   unfold doneF
   split
   ·rename_i hq; rw [hq]; exact nn_ret (nn_idem_cues _)
   ·exact nn_nil
 obtain ⟨b, h1, h2⟩ := run
 refine wrap_eq rfl ?_ h2
 rw [show A.nnL [Sh.e 11 [.k, .k, .k, .k, .k, .k, .k, .s 2, .k, .k, .s 8]] [sl 11 cCue l, .int .i64 n, .int .i64 way] = [sl 11 cCue l, .int .i64 n, .int .i64 way] from nn_arg1 l _]
 exact h1
end Go.Proofs.Ytphgchakmkankaa

namespace Go.Proofs.Ytphgchakmkankaa
set_option linter.unusedSectionVars false
set_option linter.unusedVariables false
set_option linter.unusedSimpArgs false
open HP
def k5F (out : List CueD) (a : Nat) (way : Int) (m : MoveD) : Int := if way = 1 then (blkK out (a + 1) m.key).getD (-1) else ((a + 1 : Nat) : Int)
def delStep5 (a : Nat) (way : Int) (out : List CueD) (m : MoveD) : List CueD :=
 if k5F out a way m < 0 ∨ (out.length : Int) ≤ k5F out a way m then out
 else if ((out[(k5F out a way m).toNat]?).any fun c => hasM c.moves m.key) = true then out else setMv out (k5F out a way m).toNat (putM · m)
def delF5 (l : List CueD) (a : Nat) (way : Int) : List CueD := (((l[a]?.map (·.moves)).getD []).foldl (delStep5 a way) l).eraseIdx a
theorem k5_gt (out : List CueD) (a : Nat) (way : Int) (m : MoveD) : k5F out a way m = -1 ∨ ((a + 1 : Nat) : Int) ≤ k5F out a way m := by
 unfold k5F
 split
 ·have key : ∀ (l : List CueD) (i : Nat), (scanL (fun j c => if hasM c.moves m.key = true then some (-1) else if c.block = true then some (j : Int) else none) l i).getD (-1) = -1 ∨ (i : Int) ≤ (scanL (fun j c => if hasM c.moves m.key = true then some (-1) else if c.block = true then some (j : Int) else none) l i).getD (-1) := by
   intro l
   induction l with
   | nil => intro i; exact .inl rfl
   | cons x l ih =>
    intro i
    rw [scanL]
    cases hasM x.moves m.key
    ·cases x.block
     ·simp only [Bool.false_eq_true, if_false]
      rcases ih (i + 1) with h | h
      ·exact .inl h
      ·exact .inr (by omega)
     ·simp
    ·simp
  exact key _ _
 ·exact .inr (by omega)
theorem step5_len (a : Nat) (way : Int) (out : List CueD) (m : MoveD) : (delStep5 a way out m).length = out.length := by
 unfold delStep5
 split
 ·rfl
 split
 ·rfl
 ·exact setMv_len _ _ _
theorem step5_inv {k a : Nat} {way : Int} {out : List CueD} (h : Inv k out) (m : MoveD) : Inv (k + 1) (delStep5 a way out m) := by
 unfold delStep5
 split
 ·exact h.mono (Nat.le_succ k)
 split
 ·exact h.mono (Nat.le_succ k)
 ·exact h.setMv _ m
theorem setMv_ne {l : List CueD} {i j : Nat} (h : i ≠ j) (g : List MoveD → List MoveD) : (setMv l i g)[j]? = l[j]? := by
 unfold setMv
 split
 ·rw [List.getElem?_set_ne h]
 ·rfl
theorem step5_at (a : Nat) (way : Int) (out : List CueD) (m : MoveD) : (delStep5 a way out m)[a]? = out[a]? := by
 unfold delStep5
 split
 ·rfl
 split
 ·rfl
 ·rename_i h _
  rcases k5_gt out a way m with e | e
  ·exact absurd (.inl (by omega)) h
  ·exact setMv_ne (by omega) _
theorem fold5 {a : Nat} {way : Int} : ∀ (l : List MoveD) (k : Nat) (o : List CueD), Inv k o → Inv (k + l.length) (l.foldl (delStep5 a way) o) ∧ (l.foldl (delStep5 a way) o).length = o.length ∧ (l.foldl (delStep5 a way) o)[a]? = o[a]?
 | [], k, o, h => ⟨h, rfl, rfl⟩
 | m :: l, k, o, h => by
  obtain ⟨h1, h2, h3⟩ := fold5 l (k + 1) (delStep5 a way o m) (step5_inv h m)
  exact ⟨h1.mono (by simp; omega), by rw [List.foldl_cons, h2, step5_len], by rw [List.foldl_cons, h3, step5_at]⟩
section
variable {σ0 σ : Heap} {R : HP}
theorem shaped_own {v : AV} {o : List CueD} (H : Hs anyB σ0 σ (Sl CueE 11 v o * R)) (ho : okL okCue o) : m_R5_shaped [v] σ = some (.tup [if formF o = 0 then v else .nsl, .int .i64 (formF o)], σ) := by
 have hf : m_R5_CheckForm [v] σ = some (.int .i64 (formF o), σ) := lent (ain := [.e 11 shCue]) (ts := [sl 11 cCue o]) ⟨lt_cues H, trivial⟩ (fun σ => h_R5_CheckForm (CheckForm5_t o ho)) rfl
 unfold m_R5_shaped A.wrap
 rw [Bool.false_and, cond_false, show A.nnL [] [v] = [v] by simp [A.nnL]]
 show (r_R5_shaped v σ).map _ = _
 unfold r_R5_shaped
 rw [hf, Option.bind_some, aNeI, Option.bind_some]
 by_cases hq : formF o = 0
 ·rw [decide_eq_false (by simp [hq]), cnd_f, if_pos hq, hq]; simp [nn_k]
 ·rw [decide_eq_true hq, cnd_t, if_neg hq]; simp [nn_k]
theorem fin_ret {v : AV} {l : List CueD} {e : Int} (H : Hs anyB σ0 σ (Sl CueF 11 v l * R)) : ∃ v', A.fin σ0 (.tup [v, .int .i64 e]) σ = some (.tup [v', .int .i64 e], σ0) ∧ A.nn (.e 11 shCue) v' = sl 11 cCue l := by
 obtain ⟨v', h1, h2, h3⟩ := cuesF_fz H (Nat.le_refl _) 6
 refine ⟨v', fin_hs H (by simp [A.frz, A.frzL, h1]) (fun e => ?_), h3⟩
 rcases sl_cases H with ⟨rfl, rfl | rfl, _⟩ | ⟨id, g, seg, rfl, hl, K⟩
 ·simp [A.frz] at h1; rw [h1]
 ·simp [A.frz] at h1; rw [h1]
 ·obtain ⟨k1, k2⟩ := hs_get K
  have := (List.getElem?_eq_some_iff.1 k2).1
  subst e; omega
theorem fin_nil {e : Int} (H : Hs anyB σ0 σ R) : A.fin σ0 (.tup [.nsl, .int .i64 e]) σ = some (.tup [.nsl, .int .i64 e], σ0) := fin_hs H (by simp [A.frz, A.frzL]) (fun _ => rfl)
theorem blocked5_own {v : AV} {l : List CueD} (H : Hs anyB σ0 σ (Sl CueE 11 v l * R)) (hl : l.length < 4611686018427387904) (hm : ∀ c ∈ l, srtM c.moves ∧ c.moves.length < 4611686018427387904) (i : Nat) (k : KeyD) : m_R5_blocked [v, .int .i64 (i : Int), .agg (cKey k)] σ = some (.int .i64 ((blkK l i k).getD (-1)), σ) :=
 lent (ain := [.e 11 shCue]) (ts := [sl 11 cCue l, .int .i64 (i : Int), .agg (cKey k)]) ⟨lt_cues H, lt_int _, lt_fz (fz_agg (fz_cKey k)) rfl, trivial⟩ (fun σ => h_R5_blocked (blocked5_t hl hm i k)) rfl
theorem pin_fst {o : List CueD} {a : Nat} {x : CueD} {c : Option (List AV)} (hx : o[a]? = some x) : ((o.map fun y => (y, (none : Option (List AV)))).set a (x, c)).map (·.1) = o := by
 rw [List.map_set, List.map_map]
 simp only [Function.comp_def, List.map_id']
 apply List.ext_getElem?
 intro j
 rw [List.getElem?_set]
 split
 ·rename_i e; subst e; rw [hx, if_pos (List.getElem?_eq_some_iff.1 hx).1]
 ·rfl
theorem pin_set {o : List CueD} {a k : Nat} (h : a ≠ k) {x y : CueD} {c : Option (List AV)} : ((o.map fun y => (y, (none : Option (List AV)))).set a (x, c)).set k (y, none) = ((o.set k y).map fun y => (y, (none : Option (List AV)))).set a (x, c) := by
 rw [List.set_comm _ _ h, List.map_set]
theorem Delete5_s {l : List CueD} (hl : okL okCue l) {a : Nat} {x : CueD} (hx : l[a]? = some x) (hg : Good l) (way : Int) {n : Int} (hok : okL okCue (delF5 l a way)) (σ : Heap) :
  ∃ b, ((m_R5_cloned [sl 11 cCue l] σ).bind fun r7 =>
    (A.iaddr 11 r7.1 (.int .i64 (a : Int))).bind fun x8 =>
    (A.faddr 10 x8).bind fun x9 =>
    ((A.deref x9 r7.2).bind fun c10 => A.part1 0 c10).bind fun x11 =>
    (A.lenS x11).bind fun x12 =>
    (A.loop (fun v13 s14 =>
      (A.lss (v13.getD 0 AV.undef) x12).bind fun x16 =>
      A.cond x16 (
       (A.iaddr 8 x11 (v13.getD 0 AV.undef)).bind fun x17 =>
       ((A.deref x17 s14).bind fun c18 => A.partA 0 8 c18).bind fun x19 =>
       (A.cells 8 x19).bind fun c20 =>
       (A.splice 0 c20 [(AV.int .i64 0), (AV.str ⟨#[]⟩), (AV.int .i64 0), (AV.int .i64 0), (AV.bool false), (AV.bool false), (AV.int .i64 0), (AV.int .i64 0)]).bind fun c21 =>
       (A.add (.int .i64 (a : Int)) (AV.int .i64 1)).bind fun x22 =>
       (A.eql .i (.int .i64 way) (AV.int .i64 1)).bind fun x23 =>
       (A.cond x23 (
        (A.add (.int .i64 (a : Int)) (AV.int .i64 1)).bind fun x25 =>
        (A.partA 0 2 c21).bind fun x26 =>
        (m_R5_blocked [r7.1, x25, x26] s14).bind fun r27 =>
        some ([(AV.lbx c21), r27.1], r27.2)) (
        some ([(AV.lbx c21), x22], s14))).bind fun r24 =>
       (A.lss (r24.1.getD 1 AV.undef) (AV.int .i64 0)).bind fun x28 =>
       (A.guard x28 false (some (r24.1.getD 1 AV.undef)) (some (AV.tup []))).bind fun x29 =>
       (A.guard x28 false (some r7.1) (some (AV.tup []))).bind fun x30 =>
       (A.guard x28 false (A.lenS x30) (some (AV.tup []))).bind fun x31 =>
       (A.guard x28 false (A.geq x29 x31) (some (AV.tup []))).bind fun x32 =>
       (A.pick x28 (AV.bool true) x32).bind fun x33 =>
       A.cond x33 (
        (A.add (v13.getD 0 AV.undef) (AV.int .i64 1)).bind fun x34 =>
        some (AX.normal, [x34], r24.2)) (
        (A.iaddr 11 r7.1 (r24.1.getD 1 AV.undef)).bind fun x35 =>
        (A.faddr 10 x35).bind fun x36 =>
        ((A.deref x36 r24.2).bind fun c37 => A.part1 0 c37).bind fun x38 =>
        ((A.lb (r24.1.getD 0 AV.undef)).bind fun _ => some (0)).bind fun p39 =>
        ((A.lb (r24.1.getD 0 AV.undef)).bind fun c40 => A.partA p39 2 c40).bind fun x41 =>
        (A.quiet (m_R5_moveOf [x38, x41] r24.2) r24.2).bind fun x42 =>
        (A.ext 0 x42).bind fun x43 =>
        (A.ext 1 x42).bind fun x44 =>
        (A.not x44).bind fun x45 =>
        (A.cond x45 (
         (A.iaddr 11 r7.1 (r24.1.getD 1 AV.undef)).bind fun x47 =>
         (A.faddr 10 x47).bind fun x48 =>
         ((A.deref x48 r24.2).bind fun c49 => A.part1 0 c49).bind fun x50 =>
         ((A.lb (r24.1.getD 0 AV.undef)).bind fun c51 => A.partA 0 8 c51).bind fun x52 =>
         (m_R5_put [x50, x52] r24.2).bind fun r53 =>
         (A.iaddr 11 r7.1 (r24.1.getD 1 AV.undef)).bind fun x54 =>
         (A.faddr 10 x54).bind fun x55 =>
         ((A.cell r53.1).bind fun v => some [v]).bind fun c56 =>
         (A.storeAt x55 c56 r53.2).bind fun c57 =>
         some (([] : List AV), c57)) (
         some (([] : List AV), r24.2))).bind fun r46 =>
        (A.add (v13.getD 0 AV.undef) (AV.int .i64 1)).bind fun x58 =>
        some (AX.normal, [x58], r46.2))) (
       some (AX.exit 0, [(v13.getD 0 AV.undef)], s14))) [(AV.int .i64 0)] r7.2).bind fun r59 =>
    bif r59.1 == AX.exit 0 then (
     (A.add (.int .i64 (a : Int)) (AV.int .i64 1)).bind fun x60 =>
     (m_slices_Delete_api_Cue [r7.1, (.int .i64 (a : Int)), x60] r59.2.2).bind fun r61 =>
     (m_R5_shaped [r61.1] r61.2).bind fun r62 =>
     (A.ext 0 r62.1).bind fun x63 =>
     (A.ext 1 r62.1).bind fun x64 =>
     A.fin σ (AV.tup [x63, x64]) r62.2) else
    none) = some b ∧ b.2 = σ ∧ A.nn (.t [(.e 11 shCue), .k]) b.1 = .tup [sl 11 cCue (doneF (delF5 l a way)).1, .int .i64 (doneF (delF5 l a way)).2] := by
 have hal := (List.getElem?_eq_some_iff.1 hx).1
 have hlen := hg.len
 have hI0 := inv_good hg
 have hmv : x.moves.length ≤ 2000 := (hg.mv x (List.mem_of_getElem? hx)).1
 obtain ⟨v, s1, e1, K1⟩ := cloned_s (small_of hg) (by unfold mxl; omega) (hs_nil (B := anyB) σ)
 obtain ⟨p0, vp, vm, f1, ⟨q0, f2, f3⟩, f4, K2⟩ := pin hx K1
 rw [e1, Option.bind_some, f1, Option.bind_some, f2, Option.bind_some, f3, Option.bind_some, f4, Option.bind_some]
 refine loop_k (Q := fun q => q.1 = .exit 0 ∧ Hs anyB σ q.2.2 (Sl CueE 11 v (x.moves.foldl (delStep5 a way) l) * emp)) (loop_hs x.moves (fun i w s => w = [.int .i64 (i : Int)] ∧ Hs anyB σ s (Sl CueI 11 v ((((x.moves.take i).foldl (delStep5 a way) l).map fun y => (y, none)).set a (x, some (cCueH x vp vm))) * emp)) ?_ ?_ ⟨rfl, K2⟩) ?_
 ·rintro i m w s hm ⟨rfl, K⟩
  have hi := (List.getElem?_eq_some_iff.1 hm).1
  obtain ⟨hI, hL, hA⟩ := fold5 (a := a) (way := way) (x.moves.take i) 0 l hI0
  rw [foldl_take _ _ _ hm]
  obtain ⟨o, ho⟩ : ∃ o, o = (x.moves.take i).foldl (delStep5 a way) l := ⟨_, rfl⟩
  rw [← ho] at hI hL hA K ⊢
  rw [hx] at hA
  have hil : 0 + (x.moves.take i).length ≤ 2000 := by simp; omega
  have hKE := unpin K
  rw [pin_fst hA] at hKE
  obtain ⟨R', hR⟩ := pin_read (i := a) (x := x) (vp := vp) (vm := vm) (by rw [List.getElem?_set_self (by simp; omega)]) K
  obtain ⟨pm, g1, g2⟩ := slf_at hR hm
  simp only [List.getD_cons_zero]
  rw [ix_lt hm, Option.bind_some, cnd_t, g1, Option.bind_some, g2, Option.bind_some, pA_cMove, Option.bind_some, ce_cMove, Option.bind_some, sp_cMove m _ rfl, Option.bind_some, tadd1 (by omega), Option.bind_some, aEq, Option.bind_some]
  -- the place
  have sel : ∃ r, (A.cond (.bool (decide (way = 1))) (
        (some (AV.int .i64 ((a + 1 : Nat) : Int))).bind fun x25 =>
        (A.partA 0 2 (cMove m)).bind fun x26 =>
        (m_R5_blocked [v, x25, x26] s).bind fun r27 =>
        some ([(AV.lbx (cMove m)), r27.1], r27.2)) (
        some ([(AV.lbx (cMove m)), AV.int .i64 ((a + 1 : Nat) : Int)], s))) = some r ∧ r = ([.lbx (cMove m), .int .i64 (k5F o a way m)], s) := by
   unfold k5F
   by_cases hw : way = 1
   ·rw [decide_eq_true hw, cnd_t, if_pos hw, Option.bind_some, pA_cMove_key, Option.bind_some, blocked5_own hKE (by omega) (hI.small (by omega)), Option.bind_some]
    exact ⟨_, rfl, rfl⟩
   ·rw [decide_eq_false hw, cnd_f, if_neg hw]
    exact ⟨_, rfl, rfl⟩
  obtain ⟨r, hr1, hr2⟩ := sel
  subst hr2
  rw [hr1, Option.bind_some]
  simp only [List.getD_cons_zero, List.getD_cons_succ]
  have hlv : A.lenS v = some (.int .i64 (o.length : Int)) := by have := sl_len hKE; exact this
  rw [tlss0, Option.bind_some]
  unfold delStep5
  rcases k5_gt o a way m with hk | hk
  ·rw [hk]
   simp only [show decide ((-1 : Int) < 0) = true from rfl, A.guard, show (true == false) = false from rfl, cond_false, Option.bind_some, A.pick, cond_true, cnd_t]
   rw [tadd1 (by omega), Option.bind_some, if_pos (.inl (by decide))]
   exact ⟨_, _, rfl, rfl, K⟩
  ·obtain ⟨k, hkk⟩ : ∃ k : Nat, k5F o a way m = (k : Int) := ⟨(k5F o a way m).toNat, by omega⟩
   rw [hkk] at hk ⊢
   have hak : a ≠ k := by omega
   rw [decide_eq_false (by omega)]
   simp only [A.guard, beq_self_eq_true, cond_true, Option.bind_some, hlv, A.pick, cond_false]
   rw [aGeq]
   try simp only [Option.bind_some]
   by_cases hko : k < o.length
   case neg =>
    rw [decide_eq_true (by omega), cnd_t, tadd1 (by omega), Option.bind_some, if_pos (.inr (by omega))]
    exact ⟨_, _, rfl, rfl, K⟩
   rw [decide_eq_false (by omega), cnd_f, if_neg (by omega), Int.toNat_natCast]
   have hok1 : o[k]? = some o[k] := List.getElem?_eq_getElem hko
   have hsr := hI.2 o[k] (List.mem_of_getElem? hok1)
   obtain ⟨p, F, e, h1, hC, K3, back⟩ := sl_cell K (i := k) (x := (o[k], none)) (by rw [List.getElem?_set_ne hak, List.getElem?_map, hok1]; rfl)
   obtain ⟨K4, _⟩ := cueI_E (hs_eq (show _ = CueI e (o[k], none) * (F e * emp) by ac_rfl) K3)
   obtain ⟨q, vk, b1, b2, b3, b4⟩ := put5_cell hC (hs_eq (show _ = F e * (CueE e o[k] * emp) by ac_rfl) K4) hsr.1 (by omega)
   rw [h1, Option.bind_some, b1, Option.bind_some, b2, Option.bind_some]
   rw [show ((A.lb (.lbx (cMove m))).bind fun _ => some (0)) = some 0 from rfl, Option.bind_some, show ((A.lb (.lbx (cMove m))).bind fun c40 => A.partA 0 2 c40) = some (.agg (cKey m.key)) from rfl, Option.bind_some, quiet_of (b3 m.key), Option.bind_some, ext0, Option.bind_some, ext1, Option.bind_some]
   rw [show A.not (.bool (hasM o[k].moves m.key)) = some (.bool (!hasM o[k].moves m.key)) from rfl, Option.bind_some]
   rw [hok1, Option.any_some]
   cases hh : hasM o[k].moves m.key
   ·rw [show (!false) = true from rfl, cnd_t, if_neg (by decide)]
    obtain ⟨v', s2, s3, c1, c2, c3, e', K5⟩ := b4 m
    rw [Option.bind_some, b1, Option.bind_some, b2, Option.bind_some, show ((A.lb (.lbx (cMove m))).bind fun c51 => A.partA 0 8 c51) = some (.agg (cMove m)) from rfl, Option.bind_some, c1, Option.bind_some, Option.bind_some, b1, Option.bind_some, c2, Option.bind_some, Option.bind_some, c3, Option.bind_some, Option.bind_some, tadd1 (by omega), Option.bind_some]
    refine ⟨_, _, rfl, rfl, ?_⟩
    have K6 := back (e := e') (y := ({ o[k] with moves := putM o[k].moves m }, none)) (by
     have K7 := cueI_of (y := ({ o[k] with moves := putM o[k].moves m }, none)) (hs_eq (show _ = CueE e' { o[k] with moves := putM o[k].moves m } * (F e' * emp) by ac_rfl) K5) (fun e0 h => by cases h)
     exact hs_eq (by ac_rfl) K7)
    rw [pin_set hak] at K6
    rw [setMv, hok1]
    exact K6
   ·rw [show (!true) = false from rfl, cnd_f, if_pos rfl, Option.bind_some, tadd1 (by omega), Option.bind_some]
    exact ⟨_, _, rfl, rfl, K⟩
 ·rintro w s ⟨rfl, K⟩
  obtain ⟨hI, hL, hA⟩ := fold5 (a := a) (way := way) x.moves 0 l hI0
  simp only [List.getD_cons_zero]
  rw [ix_end, Option.bind_some, cnd_f]
  rw [List.take_length] at K
  have hKE := unpin K
  rw [pin_fst (hA.trans hx)] at hKE
  exact ⟨_, rfl, by simp, rfl, hKE⟩
 ·rintro ⟨e, w, s⟩ ⟨h1, K⟩
  simp only at h1 K
  subst h1
  obtain ⟨hI, hL, hA⟩ := fold5 (a := a) (way := way) x.moves 0 l hI0
  have hdel : delF5 l a way = (x.moves.foldl (delStep5 a way) l).eraseIdx a := by unfold delF5; rw [hx]; rfl
  obtain ⟨v2, s2, xe, _, e4, K2⟩ := delC (hA.trans hx) (by omega) K
  rw [← hdel] at K2
  simp only [exb]
  rw [tadd1 (by omega), Option.bind_some, e4, Option.bind_some]
  simp only
  rw [shaped_own K2 hok, Option.bind_some]
  simp only
  rw [ext0, Option.bind_some, ext1, Option.bind_some]
  unfold doneF
  by_cases hq : formF (delF5 l a way) = 0
  ·rw [if_pos hq, if_pos hq, hq]
   obtain ⟨v', j1, j2⟩ := fin_ret (e := 0) (cues_weak K2)
   exact ⟨_, j1, rfl, nn_ret j2⟩
  ·rw [if_neg hq, if_neg hq]
   exact ⟨_, fin_nil K2, rfl, nn_nil⟩
end
end Go.Proofs.Ytphgchakmkankaa

namespace Go.Proofs.Ytphgchakmkankaa
set_option linter.unusedSectionVars false
set_option linter.unusedVariables false
set_option linter.unusedSimpArgs false
open HP
theorem blk_at {l : List CueD} : ∀ (i j : Nat), scanL (fun j c => if c.block = true then some j else none) l i = some j → i ≤ j ∧ j < i + l.length := by
 induction l with
 | nil => intro i j h; cases h
 | cons x l ih =>
  intro i j h
  rw [scanL] at h
  cases hb : x.block
  ·rw [hb] at h; simp only [Bool.false_eq_true, if_false] at h
   have := ih (i + 1) j h
   simp only [List.length_cons]; omega
  ·rw [hb] at h; simp only [if_true, Option.some.injEq] at h
   simp only [List.length_cons]; omega
theorem scan_none {l : List CueD} (k : KeyD) : ∀ (i i' : Nat), scanL (fun j c => if c.block = true then some j else none) l i = none → (scanL (fun j c => if hasM c.moves k = true then some (-1) else if c.block = true then some (j : Int) else none) l i').getD (-1) = -1 := by
 induction l with
 | nil => intro i i' _; rfl
 | cons x l ih =>
  intro i i' h
  rw [scanL] at h ⊢
  cases hb : x.block
  ·rw [hb] at h; simp only [Bool.false_eq_true, if_false] at h
   cases hasM x.moves k
   ·simp only [Bool.false_eq_true, if_false]; exact ih (i + 1) (i' + 1) h
   ·rfl
  ·rw [hb] at h; simp at h
theorem scan_some {l : List CueD} (k : KeyD) : ∀ (i j : Nat), scanL (fun j c => if c.block = true then some j else none) l i = some j →
  (scanL (fun j c => if hasM c.moves k = true then some (-1) else if c.block = true then some (j : Int) else none) l (i + 1)).getD (-1) = if ((l.take (j + 1 - i)).any fun c => hasM c.moves k) = true then -1 else ((j + 1 : Nat) : Int) := by
 induction l with
 | nil => intro i j h; cases h
 | cons x l ih =>
  intro i j h
  rw [scanL] at h ⊢
  cases hb : x.block
  ·rw [hb] at h; simp only [Bool.false_eq_true, if_false] at h
   have hj := (blk_at (i + 1) j h).1
   rw [show j + 1 - i = (j + 1 - (i + 1)) + 1 by omega, List.take_succ_cons, List.any_cons]
   cases hasM x.moves k
   ·simp only [Bool.false_eq_true, if_false, Bool.false_or]
    exact ih (i + 1) j h
   ·simp
  ·rw [hb] at h; simp only [if_true, Option.some.injEq] at h
   subst h
   rw [show i + 1 - i = 0 + 1 by omega, List.take_succ_cons, List.take_zero]
   cases hm : hasM x.moves k <;> simp [hm]
theorem drop_erase {α : Type} (l : List α) (a : Nat) (h : a ≤ l.length) : (l.eraseIdx a).drop a = l.drop (a + 1) := by
 rw [List.eraseIdx_eq_take_drop_succ, List.drop_append_of_le_length (by simp; omega), List.drop_of_length_le (by simp; omega), List.nil_append]
theorem setMv_erase {l : List CueD} {a k : Nat} (ha : a < l.length) (h : a ≤ k) (g : List MoveD → List MoveD) : (setMv l (k + 1) g).eraseIdx a = setMv (l.eraseIdx a) k g := by
 have e : (l.eraseIdx a)[k]? = l[k + 1]? := by rw [List.getElem?_eraseIdx, if_neg (by omega)]
 unfold setMv
 rw [e]
 split
 ·apply List.ext_getElem?
  intro j
  rw [List.getElem?_eraseIdx, List.getElem?_set, List.getElem?_set, List.getElem?_set, List.getElem?_eraseIdx]
  have hl : (l.eraseIdx a).length = l.length - 1 := by rw [List.length_eraseIdx, if_pos ha]
  by_cases hj : j < a
  ·rw [if_pos hj, if_pos hj, if_neg (by omega), if_neg (by omega)]
  ·rw [if_neg hj, if_neg hj]
   by_cases hk : k = j
   ·subst hk
    rw [if_pos rfl, if_pos rfl, hl]
    by_cases hkl : k + 1 < l.length
    ·rw [if_pos hkl, if_pos (by omega)]
    ·rw [if_neg hkl, if_neg (by omega)]
   ·rw [if_neg (by omega), if_neg hk]
 ·rfl
theorem blk_setMv (g : List MoveD → List MoveD) : ∀ (l : List CueD) (k i : Nat), scanL (fun j c => if c.block = true then some j else none) (setMv l k g) i = scanL (fun j c => if c.block = true then some j else none) l i
 | [], k, i => by simp [setMv]
 | x :: l, 0, i => by simp only [setMv, List.getElem?_cons_zero, List.set_cons_zero, scanL]
 | x :: l, k + 1, i => by
  have e : setMv (x :: l) (k + 1) g = x :: setMv l k g := by
   unfold setMv
   rw [List.getElem?_cons_succ]
   split <;> rfl
  rw [e, scanL, scanL, blk_setMv g l k (i + 1)]
theorem drop_setMv (g : List MoveD → List MoveD) : ∀ (l : List CueD) (k a : Nat), a ≤ k → (setMv l k g).drop a = setMv (l.drop a) (k - a) g := by
 intro l k a h
 unfold setMv
 rw [List.getElem?_drop, show a + (k - a) = k by omega]
 split
 ·rw [List.drop_set, if_neg (by omega)]
 ·rfl
def selF (way : Int) (a : Nat) (o : List CueD) : Option Nat := if way = 1 then blkF o a else some a
theorem sel_step {way : Int} {a nx : Nat} {o : List CueD} (h : a ≤ nx) (m : MoveD) : selF way a (delStep a nx o m) = selF way a o := by
 unfold selF delStep
 split
 ·split
  ·rfl
  ·unfold blkF
   rw [drop_setMv _ _ _ _ h, blk_setMv]
 ·rfl
theorem step_eq {out : List CueD} {a nx : Nat} {way : Int} {m : MoveD} (ha : a < out.length) (hlt : nx < (out.eraseIdx a).length) (hsel : selF way a (out.eraseIdx a) = some nx) : (delStep5 a way out m).eraseIdx a = delStep a nx (out.eraseIdx a) m := by
 have hl : (out.eraseIdx a).length = out.length - 1 := by rw [List.length_eraseIdx, if_pos ha]
 unfold delStep5 delStep
 rw [drop_erase _ _ (by omega)]
 unfold selF at hsel
 by_cases hw : way = 1
 ·rw [if_pos hw] at hsel
  unfold blkF at hsel
  rw [drop_erase _ _ (by omega)] at hsel
  have han := (blk_at _ _ hsel).1
  have hk : k5F out a way m = if (((out.drop (a + 1)).take (nx + 1 - a)).any fun c => hasM c.moves m.key) = true then -1 else ((nx + 1 : Nat) : Int) := by
   unfold k5F blkK
   rw [if_pos hw]
   exact scan_some m.key a nx hsel
  cases hc : ((out.drop (a + 1)).take (nx + 1 - a)).any fun c => hasM c.moves m.key
  ·rw [hc] at hk
   simp only [Bool.false_eq_true, if_false] at hk
   rw [hk, if_neg (by omega), Int.toNat_natCast]
   have hno : ((out[nx + 1]?).any fun c => hasM c.moves m.key) = false := by
    have hx : out[nx + 1]? = some out[nx + 1] := List.getElem?_eq_getElem (by omega)
    rw [hx, Option.any_some, Bool.eq_false_iff]
    intro hq
    rw [Bool.eq_false_iff] at hc
    refine hc (List.any_eq_true.2 ⟨out[nx + 1], List.mem_of_getElem? (i := nx - a) ?_, hq⟩)
    rw [List.getElem?_take_of_lt (by omega), List.getElem?_drop, show a + 1 + (nx - a) = nx + 1 by omega, hx]
   rw [hno]
   simp only [Bool.false_eq_true, if_false]
   exact setMv_erase ha han _
  ·rw [hc] at hk
   simp only [if_true] at hk
   rw [hk, if_pos (.inl (by decide)), if_pos rfl]
 ·rw [if_neg hw] at hsel
  injection hsel with hsel
  subst hsel
  have hk : k5F out a way m = ((a + 1 : Nat) : Int) := by unfold k5F; rw [if_neg hw]
  rw [hk, if_neg (by omega), Int.toNat_natCast]
  have hx : out[a + 1]? = some out[a + 1] := List.getElem?_eq_getElem (by omega)
  have hd : (out.drop (a + 1)).take (a + 1 - a) = [out[a + 1]] := by
   rw [show a + 1 - a = 1 by omega, List.drop_eq_getElem_cons (by omega)]; rfl
  rw [hd, hx, Option.any_some, List.any_cons, List.any_nil, Bool.or_false]
  cases hasM out[a + 1].moves m.key
  ·simp only [Bool.false_eq_true, if_false]
   exact setMv_erase ha (Nat.le_refl a) _
  ·rfl
theorem step_no {out : List CueD} {a : Nat} {way : Int} {m : MoveD} (ha : a < out.length) (hsel : ∀ nx, selF way a (out.eraseIdx a) = some nx → ¬ nx < (out.eraseIdx a).length) : delStep5 a way out m = out := by
 have hl : (out.eraseIdx a).length = out.length - 1 := by rw [List.length_eraseIdx, if_pos ha]
 unfold delStep5
 unfold selF at hsel
 by_cases hw : way = 1
 ·have hb : blkF (out.eraseIdx a) a = none := by
   cases hb : blkF (out.eraseIdx a) a with
   | none => rfl
   | some nx =>
    have h1 := hsel nx (by rw [if_pos hw, hb])
    have h2 := (blk_at _ _ hb).2
    rw [List.length_drop] at h2
    omega
  unfold blkF at hb
  rw [drop_erase _ _ (by omega)] at hb
  have hk : k5F out a way m = -1 := by
   unfold k5F blkK
   rw [if_pos hw]
   exact scan_none m.key a (a + 1) hb
  rw [hk, if_pos (.inl (by decide))]
 ·have h1 := hsel a (by rw [if_neg hw])
  have hk : k5F out a way m = ((a + 1 : Nat) : Int) := by unfold k5F; rw [if_neg hw]
  rw [hk, if_pos (.inr (by omega))]
theorem del_eq {l : List CueD} {a : Nat} (ha : a < l.length) (way : Int) : delF5 l a way = delF l a way := by
 have yes : ∀ (ms : List MoveD) (out : List CueD) (nx : Nat), a < out.length → nx < (out.eraseIdx a).length → selF way a (out.eraseIdx a) = some nx → (ms.foldl (delStep5 a way) out).eraseIdx a = ms.foldl (delStep a nx) (out.eraseIdx a) := by
  intro ms
  induction ms with
  | nil => intro out nx _ _ _; rfl
  | cons m ms ih =>
   intro out nx h1 h2 h3
   have hs := step_eq (m := m) h1 h2 h3
   have han : a ≤ nx := by
    unfold selF at h3
    split at h3
    ·exact (blk_at _ _ h3).1
    ·injection h3 with h3; omega
   rw [List.foldl_cons, List.foldl_cons, ← hs]
   refine ih _ nx (by rw [step5_len]; exact h1) ?_ ?_
   ·rw [hs, delStep_len]; exact h2
   ·rw [hs, sel_step han]; exact h3
 have no : ∀ (ms : List MoveD) (out : List CueD), a < out.length → (∀ nx, selF way a (out.eraseIdx a) = some nx → ¬ nx < (out.eraseIdx a).length) → ms.foldl (delStep5 a way) out = out := by
  intro ms
  induction ms with
  | nil => intro out _ _; rfl
  | cons m ms ih =>
   intro out h1 h2
   rw [List.foldl_cons, step_no h1 h2]
   exact ih out h1 h2
 unfold delF5 delF
 simp only
 cases hs : selF way a (l.eraseIdx a) with
 | none =>
  rw [no _ l ha (fun nx h => by rw [hs] at h; cases h)]
  unfold selF at hs
  rw [hs]
 | some nx =>
  by_cases hn : nx < (l.eraseIdx a).length
  ·rw [yes _ l nx ha hn hs]
   unfold selF at hs
   rw [hs]
   simp only [if_pos hn]
  ·rw [no _ l ha (fun nx' h => by rw [hs] at h; injection h with h; subst h; exact hn)]
   unfold selF at hs
   rw [hs]
   simp only [if_neg hn]
theorem At5_pos {l : List CueD} (hg : Good l) (n : Int) : idxI (fun c => decide (c.number = n)) l = if hasC l n = true then (posC l n : Int) else -1 := by
 rcases idxI_cases (fun c : CueD => decide (c.number = n)) l with ⟨h1, h2, _⟩ | ⟨k, x, h1, h2, h3, _, _⟩
 ·have : hasC l n = false := by
   rw [Bool.eq_false_iff]; intro e
   obtain ⟨x, hx, hp⟩ := List.any_eq_true.1 e
   rw [h2 x hx] at hp; cases hp
  rw [this, h1]; rfl
 ·have : hasC l n = true := List.any_eq_true.2 ⟨x, List.mem_of_getElem? h1, h2⟩
  rw [this, if_pos rfl, h3, posC_at hg.srt h1 (of_decide_eq_true h2)]
theorem RDelete_s {l : List CueD} (hl : okL okCue l) (n way : Int) (σ : Heap) : m_R5_Delete [sl 11 cCue l, .int .i64 n, .int .i64 way] σ = some (.tup [sl 11 cCue (delRes l n way).1, .int .i64 (delRes l n way).2], σ) := by
 have run : ∃ b, r_R5_Delete (sl 11 cCue l) (.int .i64 n) (.int .i64 way) σ = some b ∧ b.2 = σ ∧ A.nn (.t [(.e 11 shCue), .k]) b.1 = .tup [sl 11 cCue (delRes l n way).1, .int .i64 (delRes l n way).2] := by
  unfold r_R5_Delete delRes
  rw [h_R5_CheckForm (CheckForm5_t l hl), Option.bind_some, aNeI, Option.bind_some]
  by_cases hf : formF l = 0
  case neg =>
   rw [decide_eq_true hf, cnd_t, if_pos hf]
   exact ⟨_, fin_same _ _, rfl, nn_nil⟩
  have hg := good_of hf
  rw [decide_eq_false (by simp [hf]), cnd_f, if_neg (by simp [hf])]
  rw [h_R5_At (At_t l hl.1 n), Option.bind_some, At5_pos hg, tlss0, Option.bind_some]
  cases hh : hasC l n
  ·simp only [Bool.false_eq_true, if_false, show decide ((-1 : Int) < 0) = true from rfl, cnd_t, if_true]
   exact ⟨_, fin_same _ _, rfl, nn_nil⟩
  ·simp only [if_true, Bool.true_eq_false, if_false]
   rw [decide_eq_false (by omega), cnd_f, Within1_eq, Option.bind_some, show A.not (.bool (withinB way 1 2)) = some (.bool (!withinB way 1 2)) from rfl, Option.bind_some]
   by_cases hw : way = 1 ∨ way = 2
   case neg =>
    have : withinB way 1 2 = false := by unfold withinB; rw [decide_eq_false]; omega
    rw [this, if_pos hw, show (!false) = true from rfl, cnd_t]
    exact ⟨_, fin_same _ _, rfl, nn_nil⟩
   have : withinB way 1 2 = true := by unfold withinB; rw [decide_eq_true]; omega
   rw [this, if_neg (fun h => h hw), show (!true) = false from rfl, cnd_f]
   obtain ⟨x, hx, _⟩ := hasC_at hg hh
   have hal := (List.getElem?_eq_some_iff.1 hx).1
   obtain ⟨k1, k2⟩ := okC_del hl.2 (inv_good hg) hx way
   have := Delete5_s hl hx hg way (n := n) (by rw [del_eq hal]; exact okL_of k1 k2) σ
   rw [del_eq hal] at this
   exact this
 obtain ⟨⟨b, s⟩, h1, h2, h3⟩ := run
 simp only at h2 h3
 subst h2
 refine wrap_eq rfl ?_ h3
 rw [show A.nnL [Sh.e 11 [.k, .k, .k, .k, .k, .k, .k, .s 2, .k, .k, .s 8]] [sl 11 cCue l, .int .i64 n, .int .i64 way] = [sl 11 cCue l, .int .i64 n, .int .i64 way] from nn_arg1 l _]
 exact h1
end Go.Proofs.Ytphgchakmkankaa

namespace Go.Proofs.Ytphgchakmkankaa
set_option linter.unusedSectionVars false
set_option linter.unusedVariables false
set_option linter.unusedSimpArgs false
theorem eqSelf {α : Type} {l : List α} {body : Nat → α → Unit → Option (Lr Unit Unit Unit)} {K : Unit → Option Bool} (hl : l.length ≤ mxl) (hb : ∀ i x, l[i]? = some x → body i x () = some (.go ())) : forE l body (fun s => some ()) () (fun _ => some true) K = some true := by
 rw [forE_find (p := fun _ => false) (r := fun _ => ()) hl (fun i x hx => by rw [hb i x hx]; rfl)]
 have : l.find? (fun _ => false) = none := by simp
 rw [this]
theorem EqualP_t (l : List PointD) (hl : l.length ≤ mxl) : t_slices_Equal_api_Point l l = some true := by
 unfold t_slices_Equal_api_Point
 simp only [not_true_eq_false, if_false]
 refine eqSelf hl fun i x hx => ?_
 rw [tIx_get (x := x) (by omega) (by simpa using hx)]
 simp
theorem EqualM_t (l : List MoveD) (hl : l.length ≤ mxl) : t_slices_Equal_api_Move l l = some true := by
 unfold t_slices_Equal_api_Move
 simp only [not_true_eq_false, if_false]
 refine eqSelf hl fun i x hx => ?_
 rw [tIx_get (x := x) (by omega) (by simpa using hx)]
 simp
theorem sameCue_t (c : CueD) (h : okCue c) : t_W5_sameCue c c = some true := by
 unfold t_W5_sameCue
 have h1 : c.curve.points.length ≤ mxl := h.2.2.2.2.2.2.1.2.1
 have h2 : c.moves.length ≤ mxl := h.2.2.2.2.2.2.2.2.1
 simp only [decide_true, Bool.and_self, if_true, EqualP_t _ h1, EqualM_t _ h2, Option.bind_some]
theorem sameList_t (l : List CueD) (hl : okL okCue l) (σ : Heap) : m_W5_sameList [sl 11 cCue l, sl 11 cCue l] σ = some (.bool true, σ) := by
 have hd : ∀ x ∈ l, A.tab (fun _ _ => none) [(201, m_W5_sameCue)] 201 [.agg (cCue x), .agg (cCue x)] σ = some (.bool true, σ) := fun x hx => h_W5_sameCue (sameCue_t x (hl.2 x hx))
 have key : m_slices_EqualFunc_api_Cue (A.tab (fun _ _ => none) [(201, m_W5_sameCue)]) [sl 11 cCue l, sl 11 cCue l, .fn 201 []] σ = some (.bool true, σ) := by
  refine wrap_eq rfl ?_ rfl
  show r_slices_EqualFunc_api_Cue _ (sl 11 cCue l) (sl 11 cCue l) (.fn 201 []) σ = _
  unfold r_slices_EqualFunc_api_Cue
  rw [lenS_sl, Option.bind_some, Option.bind_some, aNe, Option.bind_some, decide_eq_false (by simp)]
  show ((A.loop _ _ _).bind _) = _
  have hloop : ∀ (pre rest : List CueD), l = pre ++ rest → ∃ n, A.iter (fun v5 s6 =>
    (A.lss (v5.getD 1 AV.undef) (.int .i64 (l.length : Int))).bind fun x8 =>
    A.cond x8 (
     (A.iaddr 11 (sl 11 cCue l) (v5.getD 1 AV.undef)).bind fun x9 =>
     ((A.deref x9 s6).bind fun c10 => A.partA 0 11 c10).bind fun x11 =>
     (A.cells 11 x11).bind fun c12 =>
     (A.splice 0 c12 [(AV.int .i64 0), (AV.str ⟨#[]⟩), (AV.int .i64 0), (AV.int .i64 0), (AV.int .i64 0), (AV.int .i64 0), (AV.int .i64 0), AV.nsl, (AV.bool false), (AV.int .i64 0), AV.nsl]).bind fun c13 =>
     (A.iaddr 11 (sl 11 cCue l) (v5.getD 1 AV.undef)).bind fun x14 =>
     ((A.deref x14 s6).bind fun c15 => A.partA 0 11 c15).bind fun x16 =>
     (A.cells 11 x16).bind fun c17 =>
     (A.splice 0 c17 [(AV.int .i64 0), (AV.str ⟨#[]⟩), (AV.int .i64 0), (AV.int .i64 0), (AV.int .i64 0), (AV.int .i64 0), (AV.int .i64 0), AV.nsl, (AV.bool false), (AV.int .i64 0), AV.nsl]).bind fun c18 =>
     (A.partA 0 11 c13).bind fun x19 =>
     (A.partA 0 11 c18).bind fun x20 =>
     (A.callv (A.tab (fun _ _ => none) [(201, m_W5_sameCue)]) (.fn 201 []) [x19, x20] s6).bind fun r21 =>
     (A.not r21.1).bind fun x22 =>
     A.cond x22 (
      some (AX.ret, [(AV.bool false), (v5.getD 1 AV.undef)], r21.2)) (
      (A.add (v5.getD 1 AV.undef) (AV.int .i64 1)).bind fun x23 =>
      some (AX.normal, [(v5.getD 0 AV.undef), x23], r21.2))) (
     some (AX.exit 0, [(v5.getD 0 AV.undef), (v5.getD 1 AV.undef)], s6))) n [.bool false, .int .i64 (pre.length : Int)] σ = some (.exit 0, [.bool false, .int .i64 (l.length : Int)], σ) := by
   intro pre rest
   induction rest generalizing pre with
   | nil =>
    intro h
    rw [List.append_nil] at h
    subst h
    refine loop_done ?_ (by simp)
    simp only [List.getD_cons_zero, List.getD_cons_succ]
    rw [ix_end]; rfl
   | cons x rest ih =>
    intro h
    have hx : l[pre.length]? = some x := by rw [h]; simp
    have hdx := hd x (List.mem_of_getElem? hx)
    refine loop_step (σ' := σ) (v' := [.bool false, .int .i64 ((pre.length + 1 : Nat) : Int)]) ?_ ?_
    ·simp only [List.getD_cons_zero, List.getD_cons_succ]
     rw [ix_lt hx, Option.bind_some]
     show ((A.iaddr 11 (sl 11 cCue l) (.int .i64 (pre.length : Int))).bind _) = _
     rw [ix_for hx, Option.bind_some]
     have hsp : A.splice 0 (cCue x) [(AV.int .i64 0), (AV.str ⟨#[]⟩), (AV.int .i64 0), (AV.int .i64 0), (AV.int .i64 0), (AV.int .i64 0), (AV.int .i64 0), AV.nsl, (AV.bool false), (AV.int .i64 0), AV.nsl] = some (cCue x) := sp_cCue _ _ rfl
     simp only [A.deref, Option.bind_some, pA_cCue, ce_cCue, hsp, ix_for hx, A.callv, List.append_nil]
     rw [hdx, Option.bind_some, show A.not (.bool true) = some (.bool false) from rfl, Option.bind_some]
     simp only [A.cond, cond_false]
     rw [ix_inc hx hl.1]; rfl
    ·have := ih (pre ++ [x]) (by rw [h]; simp)
     rwa [List.length_append, List.length_singleton] at this
  obtain ⟨n, hn⟩ := hloop [] l rfl
  rw [List.length_nil] at hn
  erw [loop_of_iter hn]
  exact fin_same _ _
 refine wrap_eq rfl ?_ rfl
 rw [show A.nnL [Sh.e 11 [.k, .k, .k, .k, .k, .k, .k, .s 2, .k, .k, .s 8], Sh.e 11 [.k, .k, .k, .k, .k, .k, .k, .s 2, .k, .k, .s 8]] [sl 11 cCue l, sl 11 cCue l] = [sl 11 cCue l, sl 11 cCue l] from nn_t1 (nn_e (fun _ => rfl) _) (nn_t1 (nn_e (fun _ => rfl) _) nn_t0)]
 show r_W5_sameList (sl 11 cCue l) (sl 11 cCue l) σ = _
 unfold r_W5_sameList
 rw [key, Option.bind_some]
 exact fin_same _ _
end Go.Proofs.Ytphgchakmkankaa

namespace Go.Proofs.Ytphgchakmkankaa
set_option linter.unusedSectionVars false
set_option linter.unusedSimpArgs false
set_option linter.unusedVariables false
theorem okL_nil : okL okCue [] := ⟨Nat.zero_le _, by simp⟩
theorem delRes_ok {l : List CueD} (hl : okL okCue l) (n way : Int) : okL okCue (delRes l n way).1 := by
 unfold delRes
 split
 ·exact okL_nil
 rename_i hf
 split
 ·exact okL_nil
 rename_i hh
 split
 ·exact okL_nil
 have hg := good_of (Decidable.not_not.1 hf)
 obtain ⟨x, hx, _⟩ := hasC_at hg (by simpa using hh)
 obtain ⟨k1, k2⟩ := okC_del hl.2 (inv_good hg) hx way
 unfold doneF
 split
 ·exact okL_of k1 k2
 ·exact okL_nil
theorem h_W5_CueDeletesMatchSpec {l : List CueD} {n way : Int} {σ : Heap} (h : okL okCue l ∧ inI n ∧ inI way) : m_W5_CueDeletesMatchSpec [sl 11 cCue l, .int .i64 n, .int .i64 way] σ = some (.bool true, σ) := by
 obtain ⟨hl, hn, hw⟩ := h
 have run : r_W5_CueDeletesMatchSpec (sl 11 cCue l) (.int .i64 n) (.int .i64 way) σ = some (.bool true, σ) := by
  unfold r_W5_CueDeletesMatchSpec
  rw [Delete_s hl hn way σ, Option.bind_some, ext0, Option.bind_some, ext1, Option.bind_some, RDelete_s hl n way σ, Option.bind_some, ext0, Option.bind_some, ext1, Option.bind_some, sameList_t _ (delRes_ok hl n way) σ, Option.bind_some]
  simp only [A.guard, beq_self_eq_true, cond_true, Option.bind_some, A.pick]
  rw [aEq]
  simp only [decide_true, Option.bind_some]
  exact fin_same _ _
 refine wrap_eq rfl ?_ rfl
 rw [show A.nnL [Sh.e 11 [.k, .k, .k, .k, .k, .k, .k, .s 2, .k, .k, .s 8]] [sl 11 cCue l, .int .i64 n, .int .i64 way] = [sl 11 cCue l, .int .i64 n, .int .i64 way] from nn_arg1 l _]
 exact run
theorem cueDeletesMatchSpec_true (l : List CueD) (n way : Int) (hl : okL okCue l) (hn : inI n) (hw : inI way) : okL okCue l ∧ inI n ∧ inI way := ⟨hl, hn, hw⟩
end Go.Proofs.Ytphgchakmkankaa

namespace Go.Proofs.Ytphgchakmkankaa
set_option linter.unusedSectionVars false
set_option linter.unusedSimpArgs false
set_option linter.unusedVariables false
open Go.ChangeShapes Go.WideShapes Go.ChangeAt Go.RowKit

theorem own : ownKnob Try.prog.godebug = none := by kernel_rfl
theorem laidOut : laidOutB Try.prog = true := by kernel_rfl

theorem trodAll_below {H : Type} {enc : TypeId × Value → H} {P : Program} (hl : laidOutB P = true) {W W' : World} (hb : Below W.heap.size W W') :
  ∀ {ts : List TypeId} {vs : List Value} {ds : List (DataW H)} {ps : List MemPlace}, (ts.all fun t => P.readableRec t && decide (t < P.types.size)) = true →
   DataW.TrodAll enc P W 0 (fun _ => true) true ts vs ds ps → (∀ x ∈ ps, x.block < W.heap.size) → DataW.TrodAll enc P W' 0 (fun b => decide (b < W.heap.size)) true ts vs ds ps
 | [], [], [], _, _, h, _ => h
 | t :: ts, v :: vs, d :: ds, ps, hts, h, hlt => by
  obtain ⟨p, q, h1, h2, rfl⟩ := h
  simp only [List.all_cons, Bool.and_eq_true, decide_eq_true_eq] at hts
  exact ⟨p, q, Below.trod hl hts.1.1 hts.1.2 h1 hb (fun x hx => hlt x (List.mem_append_left _ hx)),
   trodAll_below hl hb (by simpa using hts.2) h2 (fun x hx => hlt x (List.mem_append_right _ hx)), rfl⟩
 | [], _ :: _, _, _, _, h, _ => h.elim
 | [], [], _ :: _, _, _, h, _ => h.elim
 | _ :: _, [], _, _, _, h, _ => h.elim
 | _ :: _, _ :: _, [], _, _, h, _ => h.elim

theorem law_post {H : Type} {enc : TypeId × Value → H} {f : Func} {s : ChangeSpec} {W W' : World} {args : Array Value} {ds gs : List (DataW H)} {before : List MemPlace} {t : TypeId}
  (hts : (f.params.toList.all fun t => Try.prog.readableRec t && decide (t < Try.prog.types.size)) = true) (hrt : f.resultTypes = #[t]) (ht : Try.prog.underlying t = some .bool) (hvs : s.vars = [])
  (hW : DataW.Whole enc Try.prog f.params.toList s.vars false W args.toList ds gs before) (hb : Below W.heap.size W W')
  (hspec : s.fn H (ds ++ gs) = { results := [.lit (.bool true)], args := ds }) :
  s.post enc Try.prog f false true false false W args (.bool true) W' := by
 have hW' := hW
 obtain ⟨p, q, hA, hV, rfl, hfz, hnd⟩ := hW
 have hlt : ∀ x ∈ p ++ q, x.block < W.heap.size := fun x hx => hW'.lt x hx
 refine ⟨ds, gs, p ++ q, [], p, [], hW', ?_, ?_, ?_, hb.frame _, fun h => by cases h⟩
 ·rw [hspec, hrt]
  exact trodAll_cons_mk (shut_bool ht _) trodAll_mk0
 ·rw [hspec]
  exact trodAll_below laidOut hb hts hA (fun x hx => hlt x (List.mem_append_left _ hx))
 ·rw [hspec, hvs]
  exact rfl
end Go.Proofs.Ytphgchakmkankaa

namespace Go.Proofs.Ytphgchakmkankaa
set_option linter.unusedSectionVars false
open Go.RowKit
set_option linter.unusedVariables false
set_option linter.unusedSimpArgs false

def Gr (w w' : World) : Prop := Below w.heap.size w w'
theorem Gr.refl (w : World) : Gr w w := Below.refl _ _
theorem Gr.below {w w' : World} (h : Gr w w') : Below w.heap.size w w' := h
theorem Gr.of {w w' : World} (h : Below w.heap.size w w') : Gr w w' := h
theorem Gr.trans {a b c : World} (h : Gr a b) (k : Gr b c) : Gr a c := Below.trans h (Below.mono k (Below.size h))
theorem Gr.alloc {a b : World} (h : Gr a b) (o : Obj) : Gr a (b.alloc o) := Below.alloc h (Below.size h) o
theorem Gr.drew {a b : World} (h : Gr a b) : Gr a b.drew := Below.drew h
theorem Gr.set {a b : World} (h : Gr a b) {k o : Nat} (hp : a.heap.size ≤ k) (u : Value) : Gr a (b.setCell ⟨k, o, none⟩ u) := Below.setCell h hp u
theorem Gr.put {a b : World} {k o : Nat} (hp : a.heap.size ≤ k) (h : Gr a b) (u : Value) : Gr a (b.setCell ⟨k, o, none⟩ u) := Below.setCell h hp u
theorem Gr.after {a b c : World} (k : Gr b c) (h : Gr a b) : Gr a c := h.trans k
theorem Gr.size {a b : World} (h : Gr a b) : a.heap.size ≤ b.heap.size := Below.size h
theorem Gr.cell {a b : World} (h : Gr a b) {p : Addr} {v : Value} (hc : a.cell? p = some v) : b.cell? p = some v := by
 by_cases hp : p.block < a.heap.size
 ·rw [Below.cell h hp]; exact hc
 ·have : a.heap[p.block]? = none := Array.getElem?_eq_none (by omega)
  simp [World.cell?, this] at hc
theorem Gr.free {a b : World} (h : Gr a b) {p : Addr} (hp : p.block < a.heap.size) {x : Bool} (hc : a.frozen? p = x) : b.frozen? p = x := by
 rw [Below.frozen h hp]; exact hc
theorem Gr.lt {w w1 : World} {o : Obj} (h : Gr (w.alloc o) w1) : w.heap.size < w1.heap.size := by have := h.size; simp at this; omega
abbrev Box1 (w : World) (b : Nat) (v0 : Value) : Prop := (w.cell? ⟨b, 0, none⟩ = some v0) ∧ (w.frozen? ⟨b, 0, none⟩ = false) ∧ b < w.heap.size
theorem Box1.mono {w w1 : World} {b : Nat} {v0 : Value} (k : Box1 w b v0) (h : Gr w w1) : Box1 w1 b v0 := by
 obtain ⟨k0, f0, hlt⟩ := k
 exact ⟨h.cell k0, h.free (by exact hlt) f0, Nat.lt_of_lt_of_le hlt h.size⟩
theorem Box1.of {w : World} {b : Nat} {v0 : Value} {t : TypeId} (h : w.heap[b]? = some (.cells #[v0] t (0, 0))) : Box1 w b v0 := by
 have hlt : b < w.heap.size := (Array.getElem?_eq_some_iff.1 h).1
 refine ⟨?_, ?_, hlt⟩ <;> simp [World.cell?, World.frozen?, h]
theorem Box1.at {w w1 : World} {b : Nat} {v0 : Value} {t : TypeId} (g : Gr w w1) (h : w.heap[b]? = some (.cells #[v0] t (0, 0))) : Box1 w1 b v0 := (Box1.of h).mono g
abbrev Box2 (w : World) (b : Nat) (v0 v1 : Value) : Prop := (w.cell? ⟨b, 0, none⟩ = some v0 ∧ w.cell? ⟨b, 1, none⟩ = some v1) ∧ (w.frozen? ⟨b, 0, none⟩ = false ∧ w.frozen? ⟨b, 1, none⟩ = false) ∧ b < w.heap.size
theorem Box2.mono {w w1 : World} {b : Nat} {v0 v1 : Value} (k : Box2 w b v0 v1) (h : Gr w w1) : Box2 w1 b v0 v1 := by
 obtain ⟨⟨k0, k1⟩, ⟨f0, f1⟩, hlt⟩ := k
 exact ⟨⟨h.cell k0, h.cell k1⟩, ⟨h.free (by exact hlt) f0, h.free (by exact hlt) f1⟩, Nat.lt_of_lt_of_le hlt h.size⟩
theorem Box2.of {w : World} {b : Nat} {v0 v1 : Value} {t : TypeId} (h : w.heap[b]? = some (.cells #[v0, v1] t (0, 0))) : Box2 w b v0 v1 := by
 have hlt : b < w.heap.size := (Array.getElem?_eq_some_iff.1 h).1
 refine ⟨⟨?_, ?_⟩, ⟨?_, ?_⟩, hlt⟩ <;> simp [World.cell?, World.frozen?, h]
theorem Box2.at {w w1 : World} {b : Nat} {v0 v1 : Value} {t : TypeId} (g : Gr w w1) (h : w.heap[b]? = some (.cells #[v0, v1] t (0, 0))) : Box2 w1 b v0 v1 := (Box2.of h).mono g
abbrev Box3 (w : World) (b : Nat) (v0 v1 v2 : Value) : Prop := (w.cell? ⟨b, 0, none⟩ = some v0 ∧ w.cell? ⟨b, 1, none⟩ = some v1 ∧ w.cell? ⟨b, 2, none⟩ = some v2) ∧ (w.frozen? ⟨b, 0, none⟩ = false ∧ w.frozen? ⟨b, 1, none⟩ = false ∧ w.frozen? ⟨b, 2, none⟩ = false) ∧ b < w.heap.size
theorem Box3.mono {w w1 : World} {b : Nat} {v0 v1 v2 : Value} (k : Box3 w b v0 v1 v2) (h : Gr w w1) : Box3 w1 b v0 v1 v2 := by
 obtain ⟨⟨k0, k1, k2⟩, ⟨f0, f1, f2⟩, hlt⟩ := k
 exact ⟨⟨h.cell k0, h.cell k1, h.cell k2⟩, ⟨h.free (by exact hlt) f0, h.free (by exact hlt) f1, h.free (by exact hlt) f2⟩, Nat.lt_of_lt_of_le hlt h.size⟩
theorem Box3.of {w : World} {b : Nat} {v0 v1 v2 : Value} {t : TypeId} (h : w.heap[b]? = some (.cells #[v0, v1, v2] t (0, 0))) : Box3 w b v0 v1 v2 := by
 have hlt : b < w.heap.size := (Array.getElem?_eq_some_iff.1 h).1
 refine ⟨⟨?_, ?_, ?_⟩, ⟨?_, ?_, ?_⟩, hlt⟩ <;> simp [World.cell?, World.frozen?, h]
theorem Box3.at {w w1 : World} {b : Nat} {v0 v1 v2 : Value} {t : TypeId} (g : Gr w w1) (h : w.heap[b]? = some (.cells #[v0, v1, v2] t (0, 0))) : Box3 w1 b v0 v1 v2 := (Box3.of h).mono g
abbrev Box4 (w : World) (b : Nat) (v0 v1 v2 v3 : Value) : Prop := (w.cell? ⟨b, 0, none⟩ = some v0 ∧ w.cell? ⟨b, 1, none⟩ = some v1 ∧ w.cell? ⟨b, 2, none⟩ = some v2 ∧ w.cell? ⟨b, 3, none⟩ = some v3) ∧ (w.frozen? ⟨b, 0, none⟩ = false ∧ w.frozen? ⟨b, 1, none⟩ = false ∧ w.frozen? ⟨b, 2, none⟩ = false ∧ w.frozen? ⟨b, 3, none⟩ = false) ∧ b < w.heap.size
theorem Box4.mono {w w1 : World} {b : Nat} {v0 v1 v2 v3 : Value} (k : Box4 w b v0 v1 v2 v3) (h : Gr w w1) : Box4 w1 b v0 v1 v2 v3 := by
 obtain ⟨⟨k0, k1, k2, k3⟩, ⟨f0, f1, f2, f3⟩, hlt⟩ := k
 exact ⟨⟨h.cell k0, h.cell k1, h.cell k2, h.cell k3⟩, ⟨h.free (by exact hlt) f0, h.free (by exact hlt) f1, h.free (by exact hlt) f2, h.free (by exact hlt) f3⟩, Nat.lt_of_lt_of_le hlt h.size⟩
theorem Box4.of {w : World} {b : Nat} {v0 v1 v2 v3 : Value} {t : TypeId} (h : w.heap[b]? = some (.cells #[v0, v1, v2, v3] t (0, 0))) : Box4 w b v0 v1 v2 v3 := by
 have hlt : b < w.heap.size := (Array.getElem?_eq_some_iff.1 h).1
 refine ⟨⟨?_, ?_, ?_, ?_⟩, ⟨?_, ?_, ?_, ?_⟩, hlt⟩ <;> simp [World.cell?, World.frozen?, h]
theorem Box4.at {w w1 : World} {b : Nat} {v0 v1 v2 v3 : Value} {t : TypeId} (g : Gr w w1) (h : w.heap[b]? = some (.cells #[v0, v1, v2, v3] t (0, 0))) : Box4 w1 b v0 v1 v2 v3 := (Box4.of h).mono g
abbrev Box5 (w : World) (b : Nat) (v0 v1 v2 v3 v4 : Value) : Prop := (w.cell? ⟨b, 0, none⟩ = some v0 ∧ w.cell? ⟨b, 1, none⟩ = some v1 ∧ w.cell? ⟨b, 2, none⟩ = some v2 ∧ w.cell? ⟨b, 3, none⟩ = some v3 ∧ w.cell? ⟨b, 4, none⟩ = some v4) ∧ (w.frozen? ⟨b, 0, none⟩ = false ∧ w.frozen? ⟨b, 1, none⟩ = false ∧ w.frozen? ⟨b, 2, none⟩ = false ∧ w.frozen? ⟨b, 3, none⟩ = false ∧ w.frozen? ⟨b, 4, none⟩ = false) ∧ b < w.heap.size
theorem Box5.mono {w w1 : World} {b : Nat} {v0 v1 v2 v3 v4 : Value} (k : Box5 w b v0 v1 v2 v3 v4) (h : Gr w w1) : Box5 w1 b v0 v1 v2 v3 v4 := by
 obtain ⟨⟨k0, k1, k2, k3, k4⟩, ⟨f0, f1, f2, f3, f4⟩, hlt⟩ := k
 exact ⟨⟨h.cell k0, h.cell k1, h.cell k2, h.cell k3, h.cell k4⟩, ⟨h.free (by exact hlt) f0, h.free (by exact hlt) f1, h.free (by exact hlt) f2, h.free (by exact hlt) f3, h.free (by exact hlt) f4⟩, Nat.lt_of_lt_of_le hlt h.size⟩
theorem Box5.of {w : World} {b : Nat} {v0 v1 v2 v3 v4 : Value} {t : TypeId} (h : w.heap[b]? = some (.cells #[v0, v1, v2, v3, v4] t (0, 0))) : Box5 w b v0 v1 v2 v3 v4 := by
 have hlt : b < w.heap.size := (Array.getElem?_eq_some_iff.1 h).1
 refine ⟨⟨?_, ?_, ?_, ?_, ?_⟩, ⟨?_, ?_, ?_, ?_, ?_⟩, hlt⟩ <;> simp [World.cell?, World.frozen?, h]
theorem Box5.at {w w1 : World} {b : Nat} {v0 v1 v2 v3 v4 : Value} {t : TypeId} (g : Gr w w1) (h : w.heap[b]? = some (.cells #[v0, v1, v2, v3, v4] t (0, 0))) : Box5 w1 b v0 v1 v2 v3 v4 := (Box5.of h).mono g
abbrev Box6 (w : World) (b : Nat) (v0 v1 v2 v3 v4 v5 : Value) : Prop := (w.cell? ⟨b, 0, none⟩ = some v0 ∧ w.cell? ⟨b, 1, none⟩ = some v1 ∧ w.cell? ⟨b, 2, none⟩ = some v2 ∧ w.cell? ⟨b, 3, none⟩ = some v3 ∧ w.cell? ⟨b, 4, none⟩ = some v4 ∧ w.cell? ⟨b, 5, none⟩ = some v5) ∧ (w.frozen? ⟨b, 0, none⟩ = false ∧ w.frozen? ⟨b, 1, none⟩ = false ∧ w.frozen? ⟨b, 2, none⟩ = false ∧ w.frozen? ⟨b, 3, none⟩ = false ∧ w.frozen? ⟨b, 4, none⟩ = false ∧ w.frozen? ⟨b, 5, none⟩ = false) ∧ b < w.heap.size
theorem Box6.mono {w w1 : World} {b : Nat} {v0 v1 v2 v3 v4 v5 : Value} (k : Box6 w b v0 v1 v2 v3 v4 v5) (h : Gr w w1) : Box6 w1 b v0 v1 v2 v3 v4 v5 := by
 obtain ⟨⟨k0, k1, k2, k3, k4, k5⟩, ⟨f0, f1, f2, f3, f4, f5⟩, hlt⟩ := k
 exact ⟨⟨h.cell k0, h.cell k1, h.cell k2, h.cell k3, h.cell k4, h.cell k5⟩, ⟨h.free (by exact hlt) f0, h.free (by exact hlt) f1, h.free (by exact hlt) f2, h.free (by exact hlt) f3, h.free (by exact hlt) f4, h.free (by exact hlt) f5⟩, Nat.lt_of_lt_of_le hlt h.size⟩
theorem Box6.of {w : World} {b : Nat} {v0 v1 v2 v3 v4 v5 : Value} {t : TypeId} (h : w.heap[b]? = some (.cells #[v0, v1, v2, v3, v4, v5] t (0, 0))) : Box6 w b v0 v1 v2 v3 v4 v5 := by
 have hlt : b < w.heap.size := (Array.getElem?_eq_some_iff.1 h).1
 refine ⟨⟨?_, ?_, ?_, ?_, ?_, ?_⟩, ⟨?_, ?_, ?_, ?_, ?_, ?_⟩, hlt⟩ <;> simp [World.cell?, World.frozen?, h]
theorem Box6.at {w w1 : World} {b : Nat} {v0 v1 v2 v3 v4 v5 : Value} {t : TypeId} (g : Gr w w1) (h : w.heap[b]? = some (.cells #[v0, v1, v2, v3, v4, v5] t (0, 0))) : Box6 w1 b v0 v1 v2 v3 v4 v5 := (Box6.of h).mono g
abbrev Box7 (w : World) (b : Nat) (v0 v1 v2 v3 v4 v5 v6 : Value) : Prop := (w.cell? ⟨b, 0, none⟩ = some v0 ∧ w.cell? ⟨b, 1, none⟩ = some v1 ∧ w.cell? ⟨b, 2, none⟩ = some v2 ∧ w.cell? ⟨b, 3, none⟩ = some v3 ∧ w.cell? ⟨b, 4, none⟩ = some v4 ∧ w.cell? ⟨b, 5, none⟩ = some v5 ∧ w.cell? ⟨b, 6, none⟩ = some v6) ∧ (w.frozen? ⟨b, 0, none⟩ = false ∧ w.frozen? ⟨b, 1, none⟩ = false ∧ w.frozen? ⟨b, 2, none⟩ = false ∧ w.frozen? ⟨b, 3, none⟩ = false ∧ w.frozen? ⟨b, 4, none⟩ = false ∧ w.frozen? ⟨b, 5, none⟩ = false ∧ w.frozen? ⟨b, 6, none⟩ = false) ∧ b < w.heap.size
theorem Box7.mono {w w1 : World} {b : Nat} {v0 v1 v2 v3 v4 v5 v6 : Value} (k : Box7 w b v0 v1 v2 v3 v4 v5 v6) (h : Gr w w1) : Box7 w1 b v0 v1 v2 v3 v4 v5 v6 := by
 obtain ⟨⟨k0, k1, k2, k3, k4, k5, k6⟩, ⟨f0, f1, f2, f3, f4, f5, f6⟩, hlt⟩ := k
 exact ⟨⟨h.cell k0, h.cell k1, h.cell k2, h.cell k3, h.cell k4, h.cell k5, h.cell k6⟩, ⟨h.free (by exact hlt) f0, h.free (by exact hlt) f1, h.free (by exact hlt) f2, h.free (by exact hlt) f3, h.free (by exact hlt) f4, h.free (by exact hlt) f5, h.free (by exact hlt) f6⟩, Nat.lt_of_lt_of_le hlt h.size⟩
theorem Box7.of {w : World} {b : Nat} {v0 v1 v2 v3 v4 v5 v6 : Value} {t : TypeId} (h : w.heap[b]? = some (.cells #[v0, v1, v2, v3, v4, v5, v6] t (0, 0))) : Box7 w b v0 v1 v2 v3 v4 v5 v6 := by
 have hlt : b < w.heap.size := (Array.getElem?_eq_some_iff.1 h).1
 refine ⟨⟨?_, ?_, ?_, ?_, ?_, ?_, ?_⟩, ⟨?_, ?_, ?_, ?_, ?_, ?_, ?_⟩, hlt⟩ <;> simp [World.cell?, World.frozen?, h]
theorem Box7.at {w w1 : World} {b : Nat} {v0 v1 v2 v3 v4 v5 v6 : Value} {t : TypeId} (g : Gr w w1) (h : w.heap[b]? = some (.cells #[v0, v1, v2, v3, v4, v5, v6] t (0, 0))) : Box7 w1 b v0 v1 v2 v3 v4 v5 v6 := (Box7.of h).mono g
abbrev Box8 (w : World) (b : Nat) (v0 v1 v2 v3 v4 v5 v6 v7 : Value) : Prop := (w.cell? ⟨b, 0, none⟩ = some v0 ∧ w.cell? ⟨b, 1, none⟩ = some v1 ∧ w.cell? ⟨b, 2, none⟩ = some v2 ∧ w.cell? ⟨b, 3, none⟩ = some v3 ∧ w.cell? ⟨b, 4, none⟩ = some v4 ∧ w.cell? ⟨b, 5, none⟩ = some v5 ∧ w.cell? ⟨b, 6, none⟩ = some v6 ∧ w.cell? ⟨b, 7, none⟩ = some v7) ∧ (w.frozen? ⟨b, 0, none⟩ = false ∧ w.frozen? ⟨b, 1, none⟩ = false ∧ w.frozen? ⟨b, 2, none⟩ = false ∧ w.frozen? ⟨b, 3, none⟩ = false ∧ w.frozen? ⟨b, 4, none⟩ = false ∧ w.frozen? ⟨b, 5, none⟩ = false ∧ w.frozen? ⟨b, 6, none⟩ = false ∧ w.frozen? ⟨b, 7, none⟩ = false) ∧ b < w.heap.size
theorem Box8.mono {w w1 : World} {b : Nat} {v0 v1 v2 v3 v4 v5 v6 v7 : Value} (k : Box8 w b v0 v1 v2 v3 v4 v5 v6 v7) (h : Gr w w1) : Box8 w1 b v0 v1 v2 v3 v4 v5 v6 v7 := by
 obtain ⟨⟨k0, k1, k2, k3, k4, k5, k6, k7⟩, ⟨f0, f1, f2, f3, f4, f5, f6, f7⟩, hlt⟩ := k
 exact ⟨⟨h.cell k0, h.cell k1, h.cell k2, h.cell k3, h.cell k4, h.cell k5, h.cell k6, h.cell k7⟩, ⟨h.free (by exact hlt) f0, h.free (by exact hlt) f1, h.free (by exact hlt) f2, h.free (by exact hlt) f3, h.free (by exact hlt) f4, h.free (by exact hlt) f5, h.free (by exact hlt) f6, h.free (by exact hlt) f7⟩, Nat.lt_of_lt_of_le hlt h.size⟩
theorem Box8.of {w : World} {b : Nat} {v0 v1 v2 v3 v4 v5 v6 v7 : Value} {t : TypeId} (h : w.heap[b]? = some (.cells #[v0, v1, v2, v3, v4, v5, v6, v7] t (0, 0))) : Box8 w b v0 v1 v2 v3 v4 v5 v6 v7 := by
 have hlt : b < w.heap.size := (Array.getElem?_eq_some_iff.1 h).1
 refine ⟨⟨?_, ?_, ?_, ?_, ?_, ?_, ?_, ?_⟩, ⟨?_, ?_, ?_, ?_, ?_, ?_, ?_, ?_⟩, hlt⟩ <;> simp [World.cell?, World.frozen?, h]
theorem Box8.at {w w1 : World} {b : Nat} {v0 v1 v2 v3 v4 v5 v6 v7 : Value} {t : TypeId} (g : Gr w w1) (h : w.heap[b]? = some (.cells #[v0, v1, v2, v3, v4, v5, v6, v7] t (0, 0))) : Box8 w1 b v0 v1 v2 v3 v4 v5 v6 v7 := (Box8.of h).mono g
abbrev Box9 (w : World) (b : Nat) (v0 v1 v2 v3 v4 v5 v6 v7 v8 : Value) : Prop := (w.cell? ⟨b, 0, none⟩ = some v0 ∧ w.cell? ⟨b, 1, none⟩ = some v1 ∧ w.cell? ⟨b, 2, none⟩ = some v2 ∧ w.cell? ⟨b, 3, none⟩ = some v3 ∧ w.cell? ⟨b, 4, none⟩ = some v4 ∧ w.cell? ⟨b, 5, none⟩ = some v5 ∧ w.cell? ⟨b, 6, none⟩ = some v6 ∧ w.cell? ⟨b, 7, none⟩ = some v7 ∧ w.cell? ⟨b, 8, none⟩ = some v8) ∧ (w.frozen? ⟨b, 0, none⟩ = false ∧ w.frozen? ⟨b, 1, none⟩ = false ∧ w.frozen? ⟨b, 2, none⟩ = false ∧ w.frozen? ⟨b, 3, none⟩ = false ∧ w.frozen? ⟨b, 4, none⟩ = false ∧ w.frozen? ⟨b, 5, none⟩ = false ∧ w.frozen? ⟨b, 6, none⟩ = false ∧ w.frozen? ⟨b, 7, none⟩ = false ∧ w.frozen? ⟨b, 8, none⟩ = false) ∧ b < w.heap.size
theorem Box9.mono {w w1 : World} {b : Nat} {v0 v1 v2 v3 v4 v5 v6 v7 v8 : Value} (k : Box9 w b v0 v1 v2 v3 v4 v5 v6 v7 v8) (h : Gr w w1) : Box9 w1 b v0 v1 v2 v3 v4 v5 v6 v7 v8 := by
 obtain ⟨⟨k0, k1, k2, k3, k4, k5, k6, k7, k8⟩, ⟨f0, f1, f2, f3, f4, f5, f6, f7, f8⟩, hlt⟩ := k
 exact ⟨⟨h.cell k0, h.cell k1, h.cell k2, h.cell k3, h.cell k4, h.cell k5, h.cell k6, h.cell k7, h.cell k8⟩, ⟨h.free (by exact hlt) f0, h.free (by exact hlt) f1, h.free (by exact hlt) f2, h.free (by exact hlt) f3, h.free (by exact hlt) f4, h.free (by exact hlt) f5, h.free (by exact hlt) f6, h.free (by exact hlt) f7, h.free (by exact hlt) f8⟩, Nat.lt_of_lt_of_le hlt h.size⟩
theorem Box9.of {w : World} {b : Nat} {v0 v1 v2 v3 v4 v5 v6 v7 v8 : Value} {t : TypeId} (h : w.heap[b]? = some (.cells #[v0, v1, v2, v3, v4, v5, v6, v7, v8] t (0, 0))) : Box9 w b v0 v1 v2 v3 v4 v5 v6 v7 v8 := by
 have hlt : b < w.heap.size := (Array.getElem?_eq_some_iff.1 h).1
 refine ⟨⟨?_, ?_, ?_, ?_, ?_, ?_, ?_, ?_, ?_⟩, ⟨?_, ?_, ?_, ?_, ?_, ?_, ?_, ?_, ?_⟩, hlt⟩ <;> simp [World.cell?, World.frozen?, h]
theorem Box9.at {w w1 : World} {b : Nat} {v0 v1 v2 v3 v4 v5 v6 v7 v8 : Value} {t : TypeId} (g : Gr w w1) (h : w.heap[b]? = some (.cells #[v0, v1, v2, v3, v4, v5, v6, v7, v8] t (0, 0))) : Box9 w1 b v0 v1 v2 v3 v4 v5 v6 v7 v8 := (Box9.of h).mono g
abbrev Box10 (w : World) (b : Nat) (v0 v1 v2 v3 v4 v5 v6 v7 v8 v9 : Value) : Prop := (w.cell? ⟨b, 0, none⟩ = some v0 ∧ w.cell? ⟨b, 1, none⟩ = some v1 ∧ w.cell? ⟨b, 2, none⟩ = some v2 ∧ w.cell? ⟨b, 3, none⟩ = some v3 ∧ w.cell? ⟨b, 4, none⟩ = some v4 ∧ w.cell? ⟨b, 5, none⟩ = some v5 ∧ w.cell? ⟨b, 6, none⟩ = some v6 ∧ w.cell? ⟨b, 7, none⟩ = some v7 ∧ w.cell? ⟨b, 8, none⟩ = some v8 ∧ w.cell? ⟨b, 9, none⟩ = some v9) ∧ (w.frozen? ⟨b, 0, none⟩ = false ∧ w.frozen? ⟨b, 1, none⟩ = false ∧ w.frozen? ⟨b, 2, none⟩ = false ∧ w.frozen? ⟨b, 3, none⟩ = false ∧ w.frozen? ⟨b, 4, none⟩ = false ∧ w.frozen? ⟨b, 5, none⟩ = false ∧ w.frozen? ⟨b, 6, none⟩ = false ∧ w.frozen? ⟨b, 7, none⟩ = false ∧ w.frozen? ⟨b, 8, none⟩ = false ∧ w.frozen? ⟨b, 9, none⟩ = false) ∧ b < w.heap.size
theorem Box10.mono {w w1 : World} {b : Nat} {v0 v1 v2 v3 v4 v5 v6 v7 v8 v9 : Value} (k : Box10 w b v0 v1 v2 v3 v4 v5 v6 v7 v8 v9) (h : Gr w w1) : Box10 w1 b v0 v1 v2 v3 v4 v5 v6 v7 v8 v9 := by
 obtain ⟨⟨k0, k1, k2, k3, k4, k5, k6, k7, k8, k9⟩, ⟨f0, f1, f2, f3, f4, f5, f6, f7, f8, f9⟩, hlt⟩ := k
 exact ⟨⟨h.cell k0, h.cell k1, h.cell k2, h.cell k3, h.cell k4, h.cell k5, h.cell k6, h.cell k7, h.cell k8, h.cell k9⟩, ⟨h.free (by exact hlt) f0, h.free (by exact hlt) f1, h.free (by exact hlt) f2, h.free (by exact hlt) f3, h.free (by exact hlt) f4, h.free (by exact hlt) f5, h.free (by exact hlt) f6, h.free (by exact hlt) f7, h.free (by exact hlt) f8, h.free (by exact hlt) f9⟩, Nat.lt_of_lt_of_le hlt h.size⟩
theorem Box10.of {w : World} {b : Nat} {v0 v1 v2 v3 v4 v5 v6 v7 v8 v9 : Value} {t : TypeId} (h : w.heap[b]? = some (.cells #[v0, v1, v2, v3, v4, v5, v6, v7, v8, v9] t (0, 0))) : Box10 w b v0 v1 v2 v3 v4 v5 v6 v7 v8 v9 := by
 have hlt : b < w.heap.size := (Array.getElem?_eq_some_iff.1 h).1
 refine ⟨⟨?_, ?_, ?_, ?_, ?_, ?_, ?_, ?_, ?_, ?_⟩, ⟨?_, ?_, ?_, ?_, ?_, ?_, ?_, ?_, ?_, ?_⟩, hlt⟩ <;> simp [World.cell?, World.frozen?, h]
theorem Box10.at {w w1 : World} {b : Nat} {v0 v1 v2 v3 v4 v5 v6 v7 v8 v9 : Value} {t : TypeId} (g : Gr w w1) (h : w.heap[b]? = some (.cells #[v0, v1, v2, v3, v4, v5, v6, v7, v8, v9] t (0, 0))) : Box10 w1 b v0 v1 v2 v3 v4 v5 v6 v7 v8 v9 := (Box10.of h).mono g
abbrev Box11 (w : World) (b : Nat) (v0 v1 v2 v3 v4 v5 v6 v7 v8 v9 v10 : Value) : Prop := (w.cell? ⟨b, 0, none⟩ = some v0 ∧ w.cell? ⟨b, 1, none⟩ = some v1 ∧ w.cell? ⟨b, 2, none⟩ = some v2 ∧ w.cell? ⟨b, 3, none⟩ = some v3 ∧ w.cell? ⟨b, 4, none⟩ = some v4 ∧ w.cell? ⟨b, 5, none⟩ = some v5 ∧ w.cell? ⟨b, 6, none⟩ = some v6 ∧ w.cell? ⟨b, 7, none⟩ = some v7 ∧ w.cell? ⟨b, 8, none⟩ = some v8 ∧ w.cell? ⟨b, 9, none⟩ = some v9 ∧ w.cell? ⟨b, 10, none⟩ = some v10) ∧ (w.frozen? ⟨b, 0, none⟩ = false ∧ w.frozen? ⟨b, 1, none⟩ = false ∧ w.frozen? ⟨b, 2, none⟩ = false ∧ w.frozen? ⟨b, 3, none⟩ = false ∧ w.frozen? ⟨b, 4, none⟩ = false ∧ w.frozen? ⟨b, 5, none⟩ = false ∧ w.frozen? ⟨b, 6, none⟩ = false ∧ w.frozen? ⟨b, 7, none⟩ = false ∧ w.frozen? ⟨b, 8, none⟩ = false ∧ w.frozen? ⟨b, 9, none⟩ = false ∧ w.frozen? ⟨b, 10, none⟩ = false) ∧ b < w.heap.size
theorem Box11.mono {w w1 : World} {b : Nat} {v0 v1 v2 v3 v4 v5 v6 v7 v8 v9 v10 : Value} (k : Box11 w b v0 v1 v2 v3 v4 v5 v6 v7 v8 v9 v10) (h : Gr w w1) : Box11 w1 b v0 v1 v2 v3 v4 v5 v6 v7 v8 v9 v10 := by
 obtain ⟨⟨k0, k1, k2, k3, k4, k5, k6, k7, k8, k9, k10⟩, ⟨f0, f1, f2, f3, f4, f5, f6, f7, f8, f9, f10⟩, hlt⟩ := k
 exact ⟨⟨h.cell k0, h.cell k1, h.cell k2, h.cell k3, h.cell k4, h.cell k5, h.cell k6, h.cell k7, h.cell k8, h.cell k9, h.cell k10⟩, ⟨h.free (by exact hlt) f0, h.free (by exact hlt) f1, h.free (by exact hlt) f2, h.free (by exact hlt) f3, h.free (by exact hlt) f4, h.free (by exact hlt) f5, h.free (by exact hlt) f6, h.free (by exact hlt) f7, h.free (by exact hlt) f8, h.free (by exact hlt) f9, h.free (by exact hlt) f10⟩, Nat.lt_of_lt_of_le hlt h.size⟩
theorem Box11.of {w : World} {b : Nat} {v0 v1 v2 v3 v4 v5 v6 v7 v8 v9 v10 : Value} {t : TypeId} (h : w.heap[b]? = some (.cells #[v0, v1, v2, v3, v4, v5, v6, v7, v8, v9, v10] t (0, 0))) : Box11 w b v0 v1 v2 v3 v4 v5 v6 v7 v8 v9 v10 := by
 have hlt : b < w.heap.size := (Array.getElem?_eq_some_iff.1 h).1
 refine ⟨⟨?_, ?_, ?_, ?_, ?_, ?_, ?_, ?_, ?_, ?_, ?_⟩, ⟨?_, ?_, ?_, ?_, ?_, ?_, ?_, ?_, ?_, ?_, ?_⟩, hlt⟩ <;> simp [World.cell?, World.frozen?, h]
theorem Box11.at {w w1 : World} {b : Nat} {v0 v1 v2 v3 v4 v5 v6 v7 v8 v9 v10 : Value} {t : TypeId} (g : Gr w w1) (h : w.heap[b]? = some (.cells #[v0, v1, v2, v3, v4, v5, v6, v7, v8, v9, v10] t (0, 0))) : Box11 w1 b v0 v1 v2 v3 v4 v5 v6 v7 v8 v9 v10 := (Box11.of h).mono g
abbrev Box12 (w : World) (b : Nat) (v0 v1 v2 v3 v4 v5 v6 v7 v8 v9 v10 v11 : Value) : Prop := (w.cell? ⟨b, 0, none⟩ = some v0 ∧ w.cell? ⟨b, 1, none⟩ = some v1 ∧ w.cell? ⟨b, 2, none⟩ = some v2 ∧ w.cell? ⟨b, 3, none⟩ = some v3 ∧ w.cell? ⟨b, 4, none⟩ = some v4 ∧ w.cell? ⟨b, 5, none⟩ = some v5 ∧ w.cell? ⟨b, 6, none⟩ = some v6 ∧ w.cell? ⟨b, 7, none⟩ = some v7 ∧ w.cell? ⟨b, 8, none⟩ = some v8 ∧ w.cell? ⟨b, 9, none⟩ = some v9 ∧ w.cell? ⟨b, 10, none⟩ = some v10 ∧ w.cell? ⟨b, 11, none⟩ = some v11) ∧ (w.frozen? ⟨b, 0, none⟩ = false ∧ w.frozen? ⟨b, 1, none⟩ = false ∧ w.frozen? ⟨b, 2, none⟩ = false ∧ w.frozen? ⟨b, 3, none⟩ = false ∧ w.frozen? ⟨b, 4, none⟩ = false ∧ w.frozen? ⟨b, 5, none⟩ = false ∧ w.frozen? ⟨b, 6, none⟩ = false ∧ w.frozen? ⟨b, 7, none⟩ = false ∧ w.frozen? ⟨b, 8, none⟩ = false ∧ w.frozen? ⟨b, 9, none⟩ = false ∧ w.frozen? ⟨b, 10, none⟩ = false ∧ w.frozen? ⟨b, 11, none⟩ = false) ∧ b < w.heap.size
theorem Box12.mono {w w1 : World} {b : Nat} {v0 v1 v2 v3 v4 v5 v6 v7 v8 v9 v10 v11 : Value} (k : Box12 w b v0 v1 v2 v3 v4 v5 v6 v7 v8 v9 v10 v11) (h : Gr w w1) : Box12 w1 b v0 v1 v2 v3 v4 v5 v6 v7 v8 v9 v10 v11 := by
 obtain ⟨⟨k0, k1, k2, k3, k4, k5, k6, k7, k8, k9, k10, k11⟩, ⟨f0, f1, f2, f3, f4, f5, f6, f7, f8, f9, f10, f11⟩, hlt⟩ := k
 exact ⟨⟨h.cell k0, h.cell k1, h.cell k2, h.cell k3, h.cell k4, h.cell k5, h.cell k6, h.cell k7, h.cell k8, h.cell k9, h.cell k10, h.cell k11⟩, ⟨h.free (by exact hlt) f0, h.free (by exact hlt) f1, h.free (by exact hlt) f2, h.free (by exact hlt) f3, h.free (by exact hlt) f4, h.free (by exact hlt) f5, h.free (by exact hlt) f6, h.free (by exact hlt) f7, h.free (by exact hlt) f8, h.free (by exact hlt) f9, h.free (by exact hlt) f10, h.free (by exact hlt) f11⟩, Nat.lt_of_lt_of_le hlt h.size⟩
theorem Box12.of {w : World} {b : Nat} {v0 v1 v2 v3 v4 v5 v6 v7 v8 v9 v10 v11 : Value} {t : TypeId} (h : w.heap[b]? = some (.cells #[v0, v1, v2, v3, v4, v5, v6, v7, v8, v9, v10, v11] t (0, 0))) : Box12 w b v0 v1 v2 v3 v4 v5 v6 v7 v8 v9 v10 v11 := by
 have hlt : b < w.heap.size := (Array.getElem?_eq_some_iff.1 h).1
 refine ⟨⟨?_, ?_, ?_, ?_, ?_, ?_, ?_, ?_, ?_, ?_, ?_, ?_⟩, ⟨?_, ?_, ?_, ?_, ?_, ?_, ?_, ?_, ?_, ?_, ?_, ?_⟩, hlt⟩ <;> simp [World.cell?, World.frozen?, h]
theorem Box12.at {w w1 : World} {b : Nat} {v0 v1 v2 v3 v4 v5 v6 v7 v8 v9 v10 v11 : Value} {t : TypeId} (g : Gr w w1) (h : w.heap[b]? = some (.cells #[v0, v1, v2, v3, v4, v5, v6, v7, v8, v9, v10, v11] t (0, 0))) : Box12 w1 b v0 v1 v2 v3 v4 v5 v6 v7 v8 v9 v10 v11 := (Box12.of h).mono g
abbrev Box13 (w : World) (b : Nat) (v0 v1 v2 v3 v4 v5 v6 v7 v8 v9 v10 v11 v12 : Value) : Prop := (w.cell? ⟨b, 0, none⟩ = some v0 ∧ w.cell? ⟨b, 1, none⟩ = some v1 ∧ w.cell? ⟨b, 2, none⟩ = some v2 ∧ w.cell? ⟨b, 3, none⟩ = some v3 ∧ w.cell? ⟨b, 4, none⟩ = some v4 ∧ w.cell? ⟨b, 5, none⟩ = some v5 ∧ w.cell? ⟨b, 6, none⟩ = some v6 ∧ w.cell? ⟨b, 7, none⟩ = some v7 ∧ w.cell? ⟨b, 8, none⟩ = some v8 ∧ w.cell? ⟨b, 9, none⟩ = some v9 ∧ w.cell? ⟨b, 10, none⟩ = some v10 ∧ w.cell? ⟨b, 11, none⟩ = some v11 ∧ w.cell? ⟨b, 12, none⟩ = some v12) ∧ (w.frozen? ⟨b, 0, none⟩ = false ∧ w.frozen? ⟨b, 1, none⟩ = false ∧ w.frozen? ⟨b, 2, none⟩ = false ∧ w.frozen? ⟨b, 3, none⟩ = false ∧ w.frozen? ⟨b, 4, none⟩ = false ∧ w.frozen? ⟨b, 5, none⟩ = false ∧ w.frozen? ⟨b, 6, none⟩ = false ∧ w.frozen? ⟨b, 7, none⟩ = false ∧ w.frozen? ⟨b, 8, none⟩ = false ∧ w.frozen? ⟨b, 9, none⟩ = false ∧ w.frozen? ⟨b, 10, none⟩ = false ∧ w.frozen? ⟨b, 11, none⟩ = false ∧ w.frozen? ⟨b, 12, none⟩ = false) ∧ b < w.heap.size
theorem Box13.mono {w w1 : World} {b : Nat} {v0 v1 v2 v3 v4 v5 v6 v7 v8 v9 v10 v11 v12 : Value} (k : Box13 w b v0 v1 v2 v3 v4 v5 v6 v7 v8 v9 v10 v11 v12) (h : Gr w w1) : Box13 w1 b v0 v1 v2 v3 v4 v5 v6 v7 v8 v9 v10 v11 v12 := by
 obtain ⟨⟨k0, k1, k2, k3, k4, k5, k6, k7, k8, k9, k10, k11, k12⟩, ⟨f0, f1, f2, f3, f4, f5, f6, f7, f8, f9, f10, f11, f12⟩, hlt⟩ := k
 exact ⟨⟨h.cell k0, h.cell k1, h.cell k2, h.cell k3, h.cell k4, h.cell k5, h.cell k6, h.cell k7, h.cell k8, h.cell k9, h.cell k10, h.cell k11, h.cell k12⟩, ⟨h.free (by exact hlt) f0, h.free (by exact hlt) f1, h.free (by exact hlt) f2, h.free (by exact hlt) f3, h.free (by exact hlt) f4, h.free (by exact hlt) f5, h.free (by exact hlt) f6, h.free (by exact hlt) f7, h.free (by exact hlt) f8, h.free (by exact hlt) f9, h.free (by exact hlt) f10, h.free (by exact hlt) f11, h.free (by exact hlt) f12⟩, Nat.lt_of_lt_of_le hlt h.size⟩
theorem Box13.of {w : World} {b : Nat} {v0 v1 v2 v3 v4 v5 v6 v7 v8 v9 v10 v11 v12 : Value} {t : TypeId} (h : w.heap[b]? = some (.cells #[v0, v1, v2, v3, v4, v5, v6, v7, v8, v9, v10, v11, v12] t (0, 0))) : Box13 w b v0 v1 v2 v3 v4 v5 v6 v7 v8 v9 v10 v11 v12 := by
 have hlt : b < w.heap.size := (Array.getElem?_eq_some_iff.1 h).1
 refine ⟨⟨?_, ?_, ?_, ?_, ?_, ?_, ?_, ?_, ?_, ?_, ?_, ?_, ?_⟩, ⟨?_, ?_, ?_, ?_, ?_, ?_, ?_, ?_, ?_, ?_, ?_, ?_, ?_⟩, hlt⟩ <;> simp [World.cell?, World.frozen?, h]
theorem Box13.at {w w1 : World} {b : Nat} {v0 v1 v2 v3 v4 v5 v6 v7 v8 v9 v10 v11 v12 : Value} {t : TypeId} (g : Gr w w1) (h : w.heap[b]? = some (.cells #[v0, v1, v2, v3, v4, v5, v6, v7, v8, v9, v10, v11, v12] t (0, 0))) : Box13 w1 b v0 v1 v2 v3 v4 v5 v6 v7 v8 v9 v10 v11 v12 := (Box13.of h).mono g
abbrev Box14 (w : World) (b : Nat) (v0 v1 v2 v3 v4 v5 v6 v7 v8 v9 v10 v11 v12 v13 : Value) : Prop := (w.cell? ⟨b, 0, none⟩ = some v0 ∧ w.cell? ⟨b, 1, none⟩ = some v1 ∧ w.cell? ⟨b, 2, none⟩ = some v2 ∧ w.cell? ⟨b, 3, none⟩ = some v3 ∧ w.cell? ⟨b, 4, none⟩ = some v4 ∧ w.cell? ⟨b, 5, none⟩ = some v5 ∧ w.cell? ⟨b, 6, none⟩ = some v6 ∧ w.cell? ⟨b, 7, none⟩ = some v7 ∧ w.cell? ⟨b, 8, none⟩ = some v8 ∧ w.cell? ⟨b, 9, none⟩ = some v9 ∧ w.cell? ⟨b, 10, none⟩ = some v10 ∧ w.cell? ⟨b, 11, none⟩ = some v11 ∧ w.cell? ⟨b, 12, none⟩ = some v12 ∧ w.cell? ⟨b, 13, none⟩ = some v13) ∧ (w.frozen? ⟨b, 0, none⟩ = false ∧ w.frozen? ⟨b, 1, none⟩ = false ∧ w.frozen? ⟨b, 2, none⟩ = false ∧ w.frozen? ⟨b, 3, none⟩ = false ∧ w.frozen? ⟨b, 4, none⟩ = false ∧ w.frozen? ⟨b, 5, none⟩ = false ∧ w.frozen? ⟨b, 6, none⟩ = false ∧ w.frozen? ⟨b, 7, none⟩ = false ∧ w.frozen? ⟨b, 8, none⟩ = false ∧ w.frozen? ⟨b, 9, none⟩ = false ∧ w.frozen? ⟨b, 10, none⟩ = false ∧ w.frozen? ⟨b, 11, none⟩ = false ∧ w.frozen? ⟨b, 12, none⟩ = false ∧ w.frozen? ⟨b, 13, none⟩ = false) ∧ b < w.heap.size
theorem Box14.mono {w w1 : World} {b : Nat} {v0 v1 v2 v3 v4 v5 v6 v7 v8 v9 v10 v11 v12 v13 : Value} (k : Box14 w b v0 v1 v2 v3 v4 v5 v6 v7 v8 v9 v10 v11 v12 v13) (h : Gr w w1) : Box14 w1 b v0 v1 v2 v3 v4 v5 v6 v7 v8 v9 v10 v11 v12 v13 := by
 obtain ⟨⟨k0, k1, k2, k3, k4, k5, k6, k7, k8, k9, k10, k11, k12, k13⟩, ⟨f0, f1, f2, f3, f4, f5, f6, f7, f8, f9, f10, f11, f12, f13⟩, hlt⟩ := k
 exact ⟨⟨h.cell k0, h.cell k1, h.cell k2, h.cell k3, h.cell k4, h.cell k5, h.cell k6, h.cell k7, h.cell k8, h.cell k9, h.cell k10, h.cell k11, h.cell k12, h.cell k13⟩, ⟨h.free (by exact hlt) f0, h.free (by exact hlt) f1, h.free (by exact hlt) f2, h.free (by exact hlt) f3, h.free (by exact hlt) f4, h.free (by exact hlt) f5, h.free (by exact hlt) f6, h.free (by exact hlt) f7, h.free (by exact hlt) f8, h.free (by exact hlt) f9, h.free (by exact hlt) f10, h.free (by exact hlt) f11, h.free (by exact hlt) f12, h.free (by exact hlt) f13⟩, Nat.lt_of_lt_of_le hlt h.size⟩
theorem Box14.of {w : World} {b : Nat} {v0 v1 v2 v3 v4 v5 v6 v7 v8 v9 v10 v11 v12 v13 : Value} {t : TypeId} (h : w.heap[b]? = some (.cells #[v0, v1, v2, v3, v4, v5, v6, v7, v8, v9, v10, v11, v12, v13] t (0, 0))) : Box14 w b v0 v1 v2 v3 v4 v5 v6 v7 v8 v9 v10 v11 v12 v13 := by
 have hlt : b < w.heap.size := (Array.getElem?_eq_some_iff.1 h).1
 refine ⟨⟨?_, ?_, ?_, ?_, ?_, ?_, ?_, ?_, ?_, ?_, ?_, ?_, ?_, ?_⟩, ⟨?_, ?_, ?_, ?_, ?_, ?_, ?_, ?_, ?_, ?_, ?_, ?_, ?_, ?_⟩, hlt⟩ <;> simp [World.cell?, World.frozen?, h]
theorem Box14.at {w w1 : World} {b : Nat} {v0 v1 v2 v3 v4 v5 v6 v7 v8 v9 v10 v11 v12 v13 : Value} {t : TypeId} (g : Gr w w1) (h : w.heap[b]? = some (.cells #[v0, v1, v2, v3, v4, v5, v6, v7, v8, v9, v10, v11, v12, v13] t (0, 0))) : Box14 w1 b v0 v1 v2 v3 v4 v5 v6 v7 v8 v9 v10 v11 v12 v13 := (Box14.of h).mono g
end Go.Proofs.Ytphgchakmkankaa

namespace Go.Proofs.Ytphgchakmkankaa
set_option linter.unusedSectionVars false
open Go.RowKit Go.Deep
set_option linter.unusedVariables false
set_option linter.unusedSimpArgs false

theorem Gr.cells {w w' : World} (g : Gr w w') {a : Addr} {n : Nat} {cs : List Value} (h : ∀ i, i < n → w.cell? (a.add i) = cs[i]?) (hl : cs.length = n) : ∀ i, i < n → w'.cell? (a.add i) = cs[i]? := by
 intro i hi
 have h1 := h i hi
 rw [List.getElem?_eq_getElem (by omega)] at h1 ⊢
 exact g.cell h1

structure Cod (α : Type) where
 size : Nat
 is : World → List Value → α → Prop
 len : ∀ {w cs a}, is w cs a → cs.length = size
 mono : ∀ {w w' cs a}, is w cs a → Gr w w' → is w' cs a
 bulk : α → Nat

def intC : Cod Int where
 size := 1
 is := fun _ cs n => cs = [.int .i64 n] ∧ -9223372036854775808 ≤ n ∧ n ≤ 9223372036854775807
 len := fun h => by rw [h.1]; rfl
 mono := fun h _ => h
 bulk := fun _ => 1
def boolC : Cod Bool where
 size := 1
 is := fun _ cs b => cs = [.bool b]
 len := fun h => by rw [h]; rfl
 mono := fun h _ => h
 bulk := fun _ => 1
def strC : Cod ByteArray where
 size := 1
 is := fun _ cs s => cs = [.string s] ∧ s.size ≤ maxLen
 len := fun h => by rw [h.1]; rfl
 mono := fun h _ => h
 bulk := fun s => s.size + 1
def Cod.pair {α β : Type} (c : Cod α) (d : Cod β) : Cod (α × β) where
 size := c.size + d.size
 is := fun w cs x => c.is w (cs.take c.size) x.1 ∧ d.is w (cs.drop c.size) x.2
 len := fun {w cs a} h => by
  have h1 := c.len h.1
  have h2 := d.len h.2
  simp at h1 h2
  omega
 mono := fun h g => ⟨c.mono h.1 g, d.mono h.2 g⟩
 bulk := fun x => c.bulk x.1 + d.bulk x.2
def sliceC {α : Type} (c : Cod α) : Cod (List α) where
 size := 1
 is := fun w cs l => (cs = [.slice none 0 0] ∧ l = []) ∨ ∃ (b off : Nat) (sp : Option Nat) (cap : Nat), cs = [.slice (some ⟨b, off, sp⟩) l.length cap] ∧ l.length ≤ cap ∧ cap ≤ maxLen ∧
  ∀ i (h : i < l.length), sp = none ∧ ∃ cs', (∀ j, j < c.size → w.cell? ⟨b, off + (i * c.size + j), none⟩ = cs'[j]?) ∧ c.is w cs' l[i]
 len := fun h => by
  rcases h with ⟨rfl, _⟩ | ⟨b, off, sp, cap, rfl, _⟩ <;> rfl
 mono := fun {w w' cs l} h g => by
  rcases h with h | ⟨b, off, sp, cap, h1, h2, h3, h4⟩
  ·exact .inl h
  ·refine .inr ⟨b, off, sp, cap, h1, h2, h3, fun i hi => ?_⟩
   obtain ⟨e, cs', h5, h6⟩ := h4 i hi
   refine ⟨e, cs', fun j hj => ?_, c.mono h6 g⟩
   have h7 := h5 j hj
   have hl := c.len h6
   rw [List.getElem?_eq_getElem (by omega)] at h7 ⊢
   exact g.cell h7
 bulk := fun l => (l.map c.bulk).sum + 1

def ReadsF {α : Type} (F : Nat → Prop) (P : Program) (c : Cod α) (t : TypeId) : Prop :=
 ∀ ⦃H : Type⦄ ⦃enc : TypeId × Value → H⦄ ⦃w : World⦄ ⦃base : Nat⦄ ⦃spare : Nat → Bool⦄ ⦃held : Bool⦄ ⦃fuel : Nat⦄ ⦃cs : List Value⦄ ⦃x : DataW H × List MemPlace⦄, F fuel →
  DataW.trod enc P w base spare held fuel t cs = some x → ∃ a, c.is w cs a ∧ c.bulk a ≤ Rows.uptoBulk x.1
abbrev Reads {α : Type} (P : Program) (c : Cod α) (t : TypeId) : Prop := ReadsF (fun _ => True) P c t
theorem bulkAll_sum {H : Type} (l : List (DataW H)) : Rows.uptoBulkAll l = (l.map Rows.uptoBulk).sum := by
 induction l with
 | nil => rfl
 | cons x r ih => simp only [Rows.uptoBulkAll, List.map_cons, List.sum_cons, ih]
theorem sum_le_range {α : Type} (f : α → Nat) (D : Nat → Nat) : ∀ (l : List α) (o : Nat), (∀ i (h : i < l.length), f l[i] ≤ D (o + i)) → (l.map f).sum ≤ ((List.range' o l.length).map D).sum
 | [], _, _ => by simp
 | x :: r, o, h => by
  simp only [List.length_cons, List.range'_succ, List.map_cons, List.sum_cons]
  have h0 := h 0 (by simp)
  have := sum_le_range f D r (o + 1) (fun i hi => by have := h (i + 1) (by simp; omega); simp only [List.getElem_cons_succ] at this; rw [show o + 1 + i = o + (i + 1) by omega]; exact this)
  simp at h0
  omega

theorem wf_i64 {n : Int} (h : (Lit.int .i64 n).wf = true) : -9223372036854775808 ≤ n ∧ n ≤ 9223372036854775807 := by
 simpa [Lit.wf, IntKind.min, IntKind.max, IntKind.signed, IntKind.bits] using h
theorem bulk_pos {H : Type} (d : DataW H) : 1 ≤ Rows.uptoBulk d := by
 cases d with
 | lit l => cases l <;> simp [Rows.uptoBulk]
 | _ => simp [Rows.uptoBulk]
theorem reads_int {F : Nat → Prop} {P : Program} {t : TypeId} (ht : P.underlying t = some (.int .i64)) : ReadsF F P intC t := by
 intro H enc w base spare held fuel cs x _ h
 obtain ⟨n, rfl, _, hw⟩ := DataW.trod_int ht h
 exact ⟨n, ⟨rfl, wf_i64 hw⟩, bulk_pos _⟩
theorem reads_bool {F : Nat → Prop} {P : Program} {t : TypeId} (ht : P.underlying t = some .bool) : ReadsF F P boolC t := by
 intro H enc w base spare held fuel cs x _ h
 obtain ⟨n, rfl, _⟩ := DataW.trod_bool ht h
 exact ⟨n, rfl, bulk_pos _⟩
theorem reads_str {F : Nat → Prop} {P : Program} {t : TypeId} (ht : P.underlying t = some .string) : ReadsF F P strC t := by
 intro H enc w base spare held fuel cs x _ h
 obtain ⟨n, rfl, hx, hw⟩ := DataW.trod_string ht h
 refine ⟨n, ⟨rfl, hw⟩, ?_⟩
 subst hx
 simp only [Rows.uptoBulk, strC]
 first | (simp; done) | omega
theorem reads_slice {F : Nat → Prop} {P : Program} {α : Type} {c : Cod α} {t e : TypeId} (ht : P.underlying t = some (.slice e)) (hz : P.cellsOf e = c.size) (hp : 0 < c.size) (hr : ReadsF (fun m => F (m + 1)) P c e) : ReadsF F P (sliceC c) t := by
 intro H enc w base spare held fuel cs x hF h
 rcases DataW.trod_slice ht h with ⟨rfl, rfl⟩ | ⟨a, len, cap, elems, rest, n, hfu, rfl, hxe, hb, hl, hm, hlen, hel, h8, h9⟩
 ·exact ⟨[], .inl ⟨rfl, rfl⟩, by simp [sliceC, Rows.uptoBulk]⟩
 ·obtain ⟨D, hD⟩ : ∃ D : Nat → DataW H, D = fun i => (elems.getD i (.nil, [])).1 := ⟨_, rfl⟩
  have key : ∀ i, i < len → ∃ (y : α) (cs' : List Value), (∀ j, j < c.size → w.cell? (a.add (i * c.size + j)) = cs'[j]?) ∧ c.is w cs' y ∧ c.bulk y ≤ Rows.uptoBulk (D i) := by
   intro i hi
   have hk := hel i hi
   rw [List.getElem?_eq_getElem (by omega)] at hk
   obtain ⟨cs', h1, h2⟩ := Option.bind_eq_some_iff.1 hk
   obtain ⟨y, hy, hyb⟩ := hr (by subst hfu; exact hF) h2
   have hyb : c.bulk y ≤ Rows.uptoBulk (D i) := by
    rw [hD]
    simpa [List.getD, List.getElem?_eq_getElem (show i < elems.length by omega)] using hyb
   obtain ⟨_, h3, h4⟩ := World.cells?_some h1
   refine ⟨y, cs', fun j hj => ?_, hy, hyb⟩
   have := h4 j (by rw [hz]; exact hj)
   rw [hz] at this
   rw [← this, add_add]
  obtain ⟨ys, hys⟩ : ∃ ys : List α, ys.length = len ∧ ∀ i (h : i < ys.length), c.bulk ys[i] ≤ Rows.uptoBulk (D i) ∧ ∃ cs', (∀ j, j < c.size → w.cell? (a.add (i * c.size + j)) = cs'[j]?) ∧ c.is w cs' ys[i] := by
   clear hel hlen h hl hxe h8 h9
   induction len with
   | zero => exact ⟨[], rfl, fun i h => by simp at h⟩
   | succ k ih =>
    obtain ⟨ys, h1, h2⟩ := ih (fun i hi => key i (by omega))
    obtain ⟨y, cs', h3, h4, h4b⟩ := key k (by omega)
    refine ⟨ys ++ [y], by simp [h1], fun i hi => ?_⟩
    by_cases hk : i < ys.length
    ·rw [List.getElem_append_left hk]; exact h2 i hk
    ·have : i = k := by simp at hi; omega
     subst this
     rw [List.getElem_append_right (by omega)]
     simp only [h1, Nat.sub_self, List.getElem_cons_zero]
     exact ⟨h4b, cs', h3, h4⟩
  obtain ⟨h1, h2⟩ := hys
  obtain ⟨b, off, sp⟩ := a
  refine ⟨ys, .inr ⟨b, off, sp, cap, by rw [h1], by omega, hm, fun i hi => ?_⟩, ?_⟩
  ·have hs : sp = none := by
    cases sp with
    | none => rfl
    | some q =>
     exfalso
     obtain ⟨_, cs', h3, h4⟩ := h2 0 (by omega)
     have h5 := h3 0 hp
     have hl := c.len h4
     rw [List.getElem?_eq_getElem (by omega)] at h5
     simp only [Nat.zero_mul, Nat.zero_add, World.cell?, Addr.add] at h5
     split at h5 <;> simp at h5
   obtain ⟨_, cs', h3, h4⟩ := h2 i hi
   subst hs
   refine ⟨rfl, cs', fun j hj => ?_, h4⟩
   have h6 := h3 j hj
   rw [← h6]
   congr 1
   simp only [Addr.add]
   split
   ·rename_i h7; simp only [h7, Nat.add_zero]
   ·rfl
  ·subst hxe
   simp only [sliceC, Rows.uptoBulk, bulkAll_sum, List.map_map]
   have := sum_le_range c.bulk (fun i => Rows.uptoBulk (D i)) ys 0 (fun i hi => by simpa using (h2 i hi).1)
   rw [h1, ← List.range_eq_range'] at this
   have e : List.map (Rows.uptoBulk ∘ fun x => x.1) elems = List.map (fun i => Rows.uptoBulk (D i)) (List.range len) := by
    rw [← hlen, hD]
    apply List.ext_getElem (by simp)
    intro i h3 h4
    simp at h3
    simp [List.getD, List.getElem?_eq_getElem h3]
   rw [e]
   omega
theorem take_drop_all {α : Type} (l : List α) (o n : Nat) (h : l.length = o + n) : (l.drop o).take n = l.drop o := List.take_of_length_le (by simp; omega)

theorem list_of_len2 {α : Type} (l : List α) (h : l.length = 2) : ∃ x0 x1, l = [x0, x1] := by
 match l, h with
 | [x0, x1], _ => exact ⟨x0, x1, rfl⟩
theorem reads_struct2 {F : Nat → Prop} {P : Program} {α0 α1 : Type} {t : TypeId} {f0 f1 : Field} {c0 : Cod α0} {c1 : Cod α1} (ht : P.underlying t = some (.struct #[f0, f1])) (hz : P.cellsOf t = c0.size + c1.size) (o0 : f0.offset = 0) (o1 : f1.offset = c0.size) (z0 : P.cellsOf f0.type = c0.size) (z1 : P.cellsOf f1.type = c1.size) (r0 : ReadsF (fun m => F (m + 1)) P c0 f0.type) (r1 : ReadsF (fun m => F (m + 1)) P c1 f1.type) : ReadsF F P (c0.pair c1) t := by
 intro H enc w base spare held fuel cs x hF h
 obtain ⟨xs, m, hfu, hxx, hlen, hxl, hf⟩ := DataW.trod_struct ht h
 rw [hz] at hlen
 have hxl : xs.length = 2 := hxl
 have h0 := hf 0 f0 rfl
 rw [o0, z0, List.getElem?_eq_getElem (show 0 < xs.length by omega)] at h0
 obtain ⟨a0, k0, b0⟩ := r0 (by subst hfu; exact hF) h0
 have h1 := hf 1 f1 rfl
 rw [o1, z1, List.getElem?_eq_getElem (show 1 < xs.length by omega)] at h1
 obtain ⟨a1, k1, b1⟩ := r1 (by subst hfu; exact hF) h1
 rw [take_drop_all cs (c0.size) c1.size (by omega)] at k1
 refine ⟨(a0, a1), ?_, ?_⟩
 ·exact ⟨by simpa using k0, (by simpa [List.drop_drop, Nat.add_assoc] using k1)⟩
 ·subst hxx
  simp only [Rows.uptoBulk, bulkAll_sum, Cod.pair]
  have hs : (List.map Rows.uptoBulk (xs.map (·.1))).sum = Rows.uptoBulk xs[0].1 + (Rows.uptoBulk xs[1].1) := by
   obtain ⟨x0, x1, rfl⟩ := list_of_len2 xs hxl
   simp
  rw [hs]
  exact Nat.le_succ_of_le (Nat.add_le_add b0 b1)
theorem list_of_len6 {α : Type} (l : List α) (h : l.length = 6) : ∃ x0 x1 x2 x3 x4 x5, l = [x0, x1, x2, x3, x4, x5] := by
 match l, h with
 | [x0, x1, x2, x3, x4, x5], _ => exact ⟨x0, x1, x2, x3, x4, x5, rfl⟩
theorem reads_struct6 {F : Nat → Prop} {P : Program} {α0 α1 α2 α3 α4 α5 : Type} {t : TypeId} {f0 f1 f2 f3 f4 f5 : Field} {c0 : Cod α0} {c1 : Cod α1} {c2 : Cod α2} {c3 : Cod α3} {c4 : Cod α4} {c5 : Cod α5} (ht : P.underlying t = some (.struct #[f0, f1, f2, f3, f4, f5])) (hz : P.cellsOf t = c0.size + c1.size + c2.size + c3.size + c4.size + c5.size) (o0 : f0.offset = 0) (o1 : f1.offset = c0.size) (o2 : f2.offset = c0.size + c1.size) (o3 : f3.offset = c0.size + c1.size + c2.size) (o4 : f4.offset = c0.size + c1.size + c2.size + c3.size) (o5 : f5.offset = c0.size + c1.size + c2.size + c3.size + c4.size) (z0 : P.cellsOf f0.type = c0.size) (z1 : P.cellsOf f1.type = c1.size) (z2 : P.cellsOf f2.type = c2.size) (z3 : P.cellsOf f3.type = c3.size) (z4 : P.cellsOf f4.type = c4.size) (z5 : P.cellsOf f5.type = c5.size) (r0 : ReadsF (fun m => F (m + 1)) P c0 f0.type) (r1 : ReadsF (fun m => F (m + 1)) P c1 f1.type) (r2 : ReadsF (fun m => F (m + 1)) P c2 f2.type) (r3 : ReadsF (fun m => F (m + 1)) P c3 f3.type) (r4 : ReadsF (fun m => F (m + 1)) P c4 f4.type) (r5 : ReadsF (fun m => F (m + 1)) P c5 f5.type) : ReadsF F P (c0.pair (c1.pair (c2.pair (c3.pair (c4.pair c5))))) t := by
 intro H enc w base spare held fuel cs x hF h
 obtain ⟨xs, m, hfu, hxx, hlen, hxl, hf⟩ := DataW.trod_struct ht h
 rw [hz] at hlen
 have hxl : xs.length = 6 := hxl
 have h0 := hf 0 f0 rfl
 rw [o0, z0, List.getElem?_eq_getElem (show 0 < xs.length by omega)] at h0
 obtain ⟨a0, k0, b0⟩ := r0 (by subst hfu; exact hF) h0
 have h1 := hf 1 f1 rfl
 rw [o1, z1, List.getElem?_eq_getElem (show 1 < xs.length by omega)] at h1
 obtain ⟨a1, k1, b1⟩ := r1 (by subst hfu; exact hF) h1
 have h2 := hf 2 f2 rfl
 rw [o2, z2, List.getElem?_eq_getElem (show 2 < xs.length by omega)] at h2
 obtain ⟨a2, k2, b2⟩ := r2 (by subst hfu; exact hF) h2
 have h3 := hf 3 f3 rfl
 rw [o3, z3, List.getElem?_eq_getElem (show 3 < xs.length by omega)] at h3
 obtain ⟨a3, k3, b3⟩ := r3 (by subst hfu; exact hF) h3
 have h4 := hf 4 f4 rfl
 rw [o4, z4, List.getElem?_eq_getElem (show 4 < xs.length by omega)] at h4
 obtain ⟨a4, k4, b4⟩ := r4 (by subst hfu; exact hF) h4
 have h5 := hf 5 f5 rfl
 rw [o5, z5, List.getElem?_eq_getElem (show 5 < xs.length by omega)] at h5
 obtain ⟨a5, k5, b5⟩ := r5 (by subst hfu; exact hF) h5
 rw [take_drop_all cs (c0.size + c1.size + c2.size + c3.size + c4.size) c5.size (by omega)] at k5
 refine ⟨(a0, (a1, (a2, (a3, (a4, a5))))), ?_, ?_⟩
 ·exact ⟨by simpa using k0, ⟨by simpa [List.drop_drop, Nat.add_assoc] using k1, ⟨by simpa [List.drop_drop, Nat.add_assoc] using k2, ⟨by simpa [List.drop_drop, Nat.add_assoc] using k3, ⟨by simpa [List.drop_drop, Nat.add_assoc] using k4, (by simpa [List.drop_drop, Nat.add_assoc] using k5)⟩⟩⟩⟩⟩
 ·subst hxx
  simp only [Rows.uptoBulk, bulkAll_sum, Cod.pair]
  have hs : (List.map Rows.uptoBulk (xs.map (·.1))).sum = Rows.uptoBulk xs[0].1 + (Rows.uptoBulk xs[1].1 + (Rows.uptoBulk xs[2].1 + (Rows.uptoBulk xs[3].1 + (Rows.uptoBulk xs[4].1 + (Rows.uptoBulk xs[5].1))))) := by
   obtain ⟨x0, x1, x2, x3, x4, x5, rfl⟩ := list_of_len6 xs hxl
   simp
  rw [hs]
  exact Nat.le_succ_of_le (Nat.add_le_add b0 (Nat.add_le_add b1 (Nat.add_le_add b2 (Nat.add_le_add b3 (Nat.add_le_add b4 b5)))))
theorem list_of_len10 {α : Type} (l : List α) (h : l.length = 10) : ∃ x0 x1 x2 x3 x4 x5 x6 x7 x8 x9, l = [x0, x1, x2, x3, x4, x5, x6, x7, x8, x9] := by
 match l, h with
 | [x0, x1, x2, x3, x4, x5, x6, x7, x8, x9], _ => exact ⟨x0, x1, x2, x3, x4, x5, x6, x7, x8, x9, rfl⟩
theorem reads_struct10 {F : Nat → Prop} {P : Program} {α0 α1 α2 α3 α4 α5 α6 α7 α8 α9 : Type} {t : TypeId} {f0 f1 f2 f3 f4 f5 f6 f7 f8 f9 : Field} {c0 : Cod α0} {c1 : Cod α1} {c2 : Cod α2} {c3 : Cod α3} {c4 : Cod α4} {c5 : Cod α5} {c6 : Cod α6} {c7 : Cod α7} {c8 : Cod α8} {c9 : Cod α9} (ht : P.underlying t = some (.struct #[f0, f1, f2, f3, f4, f5, f6, f7, f8, f9])) (hz : P.cellsOf t = c0.size + c1.size + c2.size + c3.size + c4.size + c5.size + c6.size + c7.size + c8.size + c9.size) (o0 : f0.offset = 0) (o1 : f1.offset = c0.size) (o2 : f2.offset = c0.size + c1.size) (o3 : f3.offset = c0.size + c1.size + c2.size) (o4 : f4.offset = c0.size + c1.size + c2.size + c3.size) (o5 : f5.offset = c0.size + c1.size + c2.size + c3.size + c4.size) (o6 : f6.offset = c0.size + c1.size + c2.size + c3.size + c4.size + c5.size) (o7 : f7.offset = c0.size + c1.size + c2.size + c3.size + c4.size + c5.size + c6.size) (o8 : f8.offset = c0.size + c1.size + c2.size + c3.size + c4.size + c5.size + c6.size + c7.size) (o9 : f9.offset = c0.size + c1.size + c2.size + c3.size + c4.size + c5.size + c6.size + c7.size + c8.size) (z0 : P.cellsOf f0.type = c0.size) (z1 : P.cellsOf f1.type = c1.size) (z2 : P.cellsOf f2.type = c2.size) (z3 : P.cellsOf f3.type = c3.size) (z4 : P.cellsOf f4.type = c4.size) (z5 : P.cellsOf f5.type = c5.size) (z6 : P.cellsOf f6.type = c6.size) (z7 : P.cellsOf f7.type = c7.size) (z8 : P.cellsOf f8.type = c8.size) (z9 : P.cellsOf f9.type = c9.size) (r0 : ReadsF (fun m => F (m + 1)) P c0 f0.type) (r1 : ReadsF (fun m => F (m + 1)) P c1 f1.type) (r2 : ReadsF (fun m => F (m + 1)) P c2 f2.type) (r3 : ReadsF (fun m => F (m + 1)) P c3 f3.type) (r4 : ReadsF (fun m => F (m + 1)) P c4 f4.type) (r5 : ReadsF (fun m => F (m + 1)) P c5 f5.type) (r6 : ReadsF (fun m => F (m + 1)) P c6 f6.type) (r7 : ReadsF (fun m => F (m + 1)) P c7 f7.type) (r8 : ReadsF (fun m => F (m + 1)) P c8 f8.type) (r9 : ReadsF (fun m => F (m + 1)) P c9 f9.type) : ReadsF F P (c0.pair (c1.pair (c2.pair (c3.pair (c4.pair (c5.pair (c6.pair (c7.pair (c8.pair c9))))))))) t := by
 intro H enc w base spare held fuel cs x hF h
 obtain ⟨xs, m, hfu, hxx, hlen, hxl, hf⟩ := DataW.trod_struct ht h
 rw [hz] at hlen
 have hxl : xs.length = 10 := hxl
 have h0 := hf 0 f0 rfl
 rw [o0, z0, List.getElem?_eq_getElem (show 0 < xs.length by omega)] at h0
 obtain ⟨a0, k0, b0⟩ := r0 (by subst hfu; exact hF) h0
 have h1 := hf 1 f1 rfl
 rw [o1, z1, List.getElem?_eq_getElem (show 1 < xs.length by omega)] at h1
 obtain ⟨a1, k1, b1⟩ := r1 (by subst hfu; exact hF) h1
 have h2 := hf 2 f2 rfl
 rw [o2, z2, List.getElem?_eq_getElem (show 2 < xs.length by omega)] at h2
 obtain ⟨a2, k2, b2⟩ := r2 (by subst hfu; exact hF) h2
 have h3 := hf 3 f3 rfl
 rw [o3, z3, List.getElem?_eq_getElem (show 3 < xs.length by omega)] at h3
 obtain ⟨a3, k3, b3⟩ := r3 (by subst hfu; exact hF) h3
 have h4 := hf 4 f4 rfl
 rw [o4, z4, List.getElem?_eq_getElem (show 4 < xs.length by omega)] at h4
 obtain ⟨a4, k4, b4⟩ := r4 (by subst hfu; exact hF) h4
 have h5 := hf 5 f5 rfl
 rw [o5, z5, List.getElem?_eq_getElem (show 5 < xs.length by omega)] at h5
 obtain ⟨a5, k5, b5⟩ := r5 (by subst hfu; exact hF) h5
 have h6 := hf 6 f6 rfl
 rw [o6, z6, List.getElem?_eq_getElem (show 6 < xs.length by omega)] at h6
 obtain ⟨a6, k6, b6⟩ := r6 (by subst hfu; exact hF) h6
 have h7 := hf 7 f7 rfl
 rw [o7, z7, List.getElem?_eq_getElem (show 7 < xs.length by omega)] at h7
 obtain ⟨a7, k7, b7⟩ := r7 (by subst hfu; exact hF) h7
 have h8 := hf 8 f8 rfl
 rw [o8, z8, List.getElem?_eq_getElem (show 8 < xs.length by omega)] at h8
 obtain ⟨a8, k8, b8⟩ := r8 (by subst hfu; exact hF) h8
 have h9 := hf 9 f9 rfl
 rw [o9, z9, List.getElem?_eq_getElem (show 9 < xs.length by omega)] at h9
 obtain ⟨a9, k9, b9⟩ := r9 (by subst hfu; exact hF) h9
 rw [take_drop_all cs (c0.size + c1.size + c2.size + c3.size + c4.size + c5.size + c6.size + c7.size + c8.size) c9.size (by omega)] at k9
 refine ⟨(a0, (a1, (a2, (a3, (a4, (a5, (a6, (a7, (a8, a9))))))))), ?_, ?_⟩
 ·exact ⟨by simpa using k0, ⟨by simpa [List.drop_drop, Nat.add_assoc] using k1, ⟨by simpa [List.drop_drop, Nat.add_assoc] using k2, ⟨by simpa [List.drop_drop, Nat.add_assoc] using k3, ⟨by simpa [List.drop_drop, Nat.add_assoc] using k4, ⟨by simpa [List.drop_drop, Nat.add_assoc] using k5, ⟨by simpa [List.drop_drop, Nat.add_assoc] using k6, ⟨by simpa [List.drop_drop, Nat.add_assoc] using k7, ⟨by simpa [List.drop_drop, Nat.add_assoc] using k8, (by simpa [List.drop_drop, Nat.add_assoc] using k9)⟩⟩⟩⟩⟩⟩⟩⟩⟩
 ·subst hxx
  simp only [Rows.uptoBulk, bulkAll_sum, Cod.pair]
  have hs : (List.map Rows.uptoBulk (xs.map (·.1))).sum = Rows.uptoBulk xs[0].1 + (Rows.uptoBulk xs[1].1 + (Rows.uptoBulk xs[2].1 + (Rows.uptoBulk xs[3].1 + (Rows.uptoBulk xs[4].1 + (Rows.uptoBulk xs[5].1 + (Rows.uptoBulk xs[6].1 + (Rows.uptoBulk xs[7].1 + (Rows.uptoBulk xs[8].1 + (Rows.uptoBulk xs[9].1))))))))) := by
   obtain ⟨x0, x1, x2, x3, x4, x5, x6, x7, x8, x9, rfl⟩ := list_of_len10 xs hxl
   simp
  rw [hs]
  exact Nat.le_succ_of_le (Nat.add_le_add b0 (Nat.add_le_add b1 (Nat.add_le_add b2 (Nat.add_le_add b3 (Nat.add_le_add b4 (Nat.add_le_add b5 (Nat.add_le_add b6 (Nat.add_le_add b7 (Nat.add_le_add b8 b9)))))))))
end Go.Proofs.Ytphgchakmkankaa

namespace Go.Proofs.Ytphgchakmkankaa
set_option linter.unusedSectionVars false
open Go.RowKit Go.Deep
set_option linter.unusedVariables false
set_option linter.unusedSimpArgs false

theorem ReadsF.imp {F : Nat → Prop} {P : Program} {α β : Type} {c : Cod α} {d : Cod β} {t : TypeId} (h : ReadsF F P c t) (k : ∀ w cs a, c.is w cs a → ∃ b, d.is w cs b ∧ d.bulk b ≤ c.bulk a) : ReadsF F P d t := by
 intro H enc w base spare held fuel cs x hF h1
 obtain ⟨a, ha, hb⟩ := h hF h1
 obtain ⟨b, h2, h3⟩ := k _ _ _ ha
 exact ⟨b, h2, Nat.le_trans h3 hb⟩
theorem cells_split {α : Type} {cs a b : List α} {n : Nat} (h1 : cs.take n = a) (h2 : cs.drop n = b) : cs = a ++ b := by rw [← h1, ← h2, List.take_append_drop]
def pointC : Cod PointD where
 size := 2
 is := fun w cs x => cs = [.int .i64 x.time, .int .i64 x.way] ∧ inI x.time ∧ inI x.way
 len := fun h => by obtain ⟨rfl, _⟩ := h; rfl
 mono := fun h _ => h
 bulk := fun x => intC.bulk x.time + (intC.bulk x.way)
theorem reads_point : Reads Try.prog pointC 133 :=
 (reads_struct2 (F := fun _ => True) Try.underlying133 (c0 := intC) (c1 := intC) (by kernel_rfl) rfl rfl (by kernel_rfl) (by kernel_rfl) (reads_int Try.underlying3) (reads_int Try.underlying3)).imp fun w cs a h => by
  obtain ⟨a0, a1⟩ := a
  obtain ⟨h0, h1⟩ := h
  obtain ⟨e0, b0⟩ := h0
  obtain ⟨e1, b1⟩ := h1
  have e100 := cells_split e0 e1
  exact ⟨⟨a0, a1⟩, ⟨by rw [e100]; rfl, b0, b1⟩, Nat.le_refl _⟩
theorem reads_points : Reads Try.prog (sliceC pointC) 40 := reads_slice Try.underlying40 (c := pointC) (by kernel_rfl) (by decide) reads_point
def curveC : Cod CurveD where
 size := 2
 is := fun w cs x => ∃ v0 : Value, cs = [.int .i64 x.kind, v0] ∧ inI x.kind ∧ (sliceC pointC).is w [v0] x.points
 len := fun h => by obtain ⟨v0, rfl, _⟩ := h; rfl
 mono := fun {w w' cs x} h g => by obtain ⟨v0, e, h0, h1⟩ := h; exact ⟨v0, e, h0, ((sliceC pointC)).mono h1 g⟩
 bulk := fun x => intC.bulk x.kind + ((sliceC pointC).bulk x.points)
theorem reads_curve : Reads Try.prog curveC 42 :=
 (reads_struct2 (F := fun _ => True) Try.underlying42 (c0 := intC) (c1 := (sliceC pointC)) (by kernel_rfl) rfl rfl (by kernel_rfl) (by kernel_rfl) (reads_int Try.underlying3) reads_points).imp fun w cs a h => by
  obtain ⟨a0, a1⟩ := a
  obtain ⟨h0, h1⟩ := h
  obtain ⟨e0, b0⟩ := h0
  obtain ⟨s1, e1⟩ := List.length_eq_one_iff.1 (((sliceC pointC)).len h1); rw [e1] at h1
  have e100 := cells_split e0 e1
  exact ⟨⟨a0, a1⟩, ⟨s1, by rw [e100]; rfl, b0, h1⟩, Nat.le_refl _⟩
def keyC : Cod KeyD where
 size := 2
 is := fun w cs x => cs = [.int .i64 x.unit, .string x.param] ∧ inI x.unit ∧ x.param.size ≤ maxLen
 len := fun h => by obtain ⟨rfl, _⟩ := h; rfl
 mono := fun h _ => h
 bulk := fun x => intC.bulk x.unit + (strC.bulk x.param)
theorem reads_key : Reads Try.prog keyC 49 :=
 (reads_struct2 (F := fun _ => True) Try.underlying49 (c0 := intC) (c1 := strC) (by kernel_rfl) rfl rfl (by kernel_rfl) (by kernel_rfl) (reads_int Try.underlying3) (reads_str Try.underlying9)).imp fun w cs a h => by
  obtain ⟨a0, a1⟩ := a
  obtain ⟨h0, h1⟩ := h
  obtain ⟨e0, b0⟩ := h0
  obtain ⟨e1, b1⟩ := h1
  have e100 := cells_split e0 e1
  exact ⟨⟨a0, a1⟩, ⟨by rw [e100]; rfl, b0, b1⟩, Nat.le_refl _⟩
def valueC : Cod ValueD where
 size := 2
 is := fun w cs x => cs = [.int .i64 x.level, .int .i64 x.preset] ∧ inI x.level ∧ inI x.preset
 len := fun h => by obtain ⟨rfl, _⟩ := h; rfl
 mono := fun h _ => h
 bulk := fun x => intC.bulk x.level + (intC.bulk x.preset)
theorem reads_value : Reads Try.prog valueC 64 :=
 (reads_struct2 (F := fun _ => True) Try.underlying64 (c0 := intC) (c1 := intC) (by kernel_rfl) rfl rfl (by kernel_rfl) (by kernel_rfl) (reads_int Try.underlying3) (reads_int Try.underlying3)).imp fun w cs a h => by
  obtain ⟨a0, a1⟩ := a
  obtain ⟨h0, h1⟩ := h
  obtain ⟨e0, b0⟩ := h0
  obtain ⟨e1, b1⟩ := h1
  have e100 := cells_split e0 e1
  exact ⟨⟨a0, a1⟩, ⟨by rw [e100]; rfl, b0, b1⟩, Nat.le_refl _⟩
def moveC : Cod MoveD where
 size := 8
 is := fun w cs x => cs = [.int .i64 x.key.unit, .string x.key.param, .int .i64 x.value.level, .int .i64 x.value.preset, .bool x.release, .bool x.timed, .int .i64 x.delay, .int .i64 x.time] ∧ inI x.key.unit ∧ x.key.param.size ≤ maxLen ∧ inI x.value.level ∧ inI x.value.preset ∧ inI x.delay ∧ inI x.time
 len := fun h => by obtain ⟨rfl, _⟩ := h; rfl
 mono := fun h _ => h
 bulk := fun x => keyC.bulk x.key + (valueC.bulk x.value + (boolC.bulk x.release + (boolC.bulk x.timed + (intC.bulk x.delay + (intC.bulk x.time)))))
theorem reads_move : Reads Try.prog moveC 66 :=
 (reads_struct6 (F := fun _ => True) Try.underlying66 (c0 := keyC) (c1 := valueC) (c2 := boolC) (c3 := boolC) (c4 := intC) (c5 := intC) (by kernel_rfl) rfl rfl rfl rfl rfl rfl (by kernel_rfl) (by kernel_rfl) (by kernel_rfl) (by kernel_rfl) (by kernel_rfl) (by kernel_rfl) reads_key reads_value (reads_bool Try.underlying4) (reads_bool Try.underlying4) (reads_int Try.underlying3) (reads_int Try.underlying3)).imp fun w cs a h => by
  obtain ⟨a0, a1, a2, a3, a4, a5⟩ := a
  obtain ⟨h0, h1, h2, h3, h4, h5⟩ := h
  obtain ⟨e0, b0⟩ := h0
  obtain ⟨b0_0, b0_1⟩ := b0
  obtain ⟨e1, b1⟩ := h1
  obtain ⟨b1_0, b1_1⟩ := b1
  have e2 := h2; simp only [boolC] at e2
  have e3 := h3; simp only [boolC] at e3
  obtain ⟨e4, b4⟩ := h4
  obtain ⟨e5, b5⟩ := h5
  have e104 := cells_split e4 e5
  have e103 := cells_split e3 e104
  have e102 := cells_split e2 e103
  have e101 := cells_split e1 e102
  have e100 := cells_split e0 e101
  exact ⟨⟨a0, a1, a2, a3, a4, a5⟩, ⟨by rw [e100]; rfl, b0_0, b0_1, b1_0, b1_1, b4, b5⟩, Nat.le_refl _⟩
theorem reads_moves : Reads Try.prog (sliceC moveC) 31 := reads_slice Try.underlying31 (c := moveC) (by kernel_rfl) (by decide) reads_move
def cueC : Cod CueD where
 size := 11
 is := fun w cs x => ∃ v0 v1 : Value, cs = [.int .i64 x.number, .string x.title, .int .i64 x.delay, .int .i64 x.up, .int .i64 x.down, .int .i64 x.other, .int .i64 x.curve.kind, v0, .bool x.block, .int .i64 x.follow, v1] ∧ inI x.number ∧ x.title.size ≤ maxLen ∧ inI x.delay ∧ inI x.up ∧ inI x.down ∧ inI x.other ∧ inI x.curve.kind ∧ (sliceC pointC).is w [v0] x.curve.points ∧ inI x.follow ∧ (sliceC moveC).is w [v1] x.moves
 len := fun h => by obtain ⟨v0, v1, rfl, _⟩ := h; rfl
 mono := fun {w w' cs x} h g => by obtain ⟨v0, v1, e, h0, h1, h2, h3, h4, h5, h6, h7, h8, h9⟩ := h; exact ⟨v0, v1, e, h0, h1, h2, h3, h4, h5, h6, ((sliceC pointC)).mono h7 g, h8, ((sliceC moveC)).mono h9 g⟩
 bulk := fun x => intC.bulk x.number + (strC.bulk x.title + (intC.bulk x.delay + (intC.bulk x.up + (intC.bulk x.down + (intC.bulk x.other + (curveC.bulk x.curve + (boolC.bulk x.block + (intC.bulk x.follow + ((sliceC moveC).bulk x.moves)))))))))
theorem reads_cue : Reads Try.prog cueC 44 :=
 (reads_struct10 (F := fun _ => True) Try.underlying44 (c0 := intC) (c1 := strC) (c2 := intC) (c3 := intC) (c4 := intC) (c5 := intC) (c6 := curveC) (c7 := boolC) (c8 := intC) (c9 := (sliceC moveC)) (by kernel_rfl) rfl rfl rfl rfl rfl rfl rfl rfl rfl rfl (by kernel_rfl) (by kernel_rfl) (by kernel_rfl) (by kernel_rfl) (by kernel_rfl) (by kernel_rfl) (by kernel_rfl) (by kernel_rfl) (by kernel_rfl) (by kernel_rfl) (reads_int Try.underlying3) (reads_str Try.underlying9) (reads_int Try.underlying3) (reads_int Try.underlying3) (reads_int Try.underlying3) (reads_int Try.underlying3) reads_curve (reads_bool Try.underlying4) (reads_int Try.underlying3) reads_moves).imp fun w cs a h => by
  obtain ⟨a0, a1, a2, a3, a4, a5, a6, a7, a8, a9⟩ := a
  obtain ⟨h0, h1, h2, h3, h4, h5, h6, h7, h8, h9⟩ := h
  obtain ⟨e0, b0⟩ := h0
  obtain ⟨e1, b1⟩ := h1
  obtain ⟨e2, b2⟩ := h2
  obtain ⟨e3, b3⟩ := h3
  obtain ⟨e4, b4⟩ := h4
  obtain ⟨e5, b5⟩ := h5
  obtain ⟨s6_0, e6, b6⟩ := h6
  obtain ⟨b6_0, b6_1⟩ := b6
  have e7 := h7; simp only [boolC] at e7
  obtain ⟨e8, b8⟩ := h8
  obtain ⟨s9, e9⟩ := List.length_eq_one_iff.1 (((sliceC moveC)).len h9); rw [e9] at h9
  have e108 := cells_split e8 e9
  have e107 := cells_split e7 e108
  have e106 := cells_split e6 e107
  have e105 := cells_split e5 e106
  have e104 := cells_split e4 e105
  have e103 := cells_split e3 e104
  have e102 := cells_split e2 e103
  have e101 := cells_split e1 e102
  have e100 := cells_split e0 e101
  exact ⟨⟨a0, a1, a2, a3, a4, a5, a6, a7, a8, a9⟩, ⟨s6_0, s9, by rw [e100]; rfl, b0, b1, b2, b3, b4, b5, b6_0, b6_1, b8, h9⟩, Nat.le_refl _⟩
theorem reads_cues : Reads Try.prog (sliceC cueC) 22 := reads_slice Try.underlying22 (c := cueC) (by kernel_rfl) (by decide) reads_cue
end Go.Proofs.Ytphgchakmkankaa

namespace Go.Proofs.Ytphgchakmkankaa
set_option linter.unusedSectionVars false
open Go.RowKit Go.Deep
set_option linter.unusedVariables false
set_option linter.unusedSimpArgs false
section
variable {c : RC}
theorem repL_nil : RepL c [] [] := by simp [RepL]
theorem repL_cons {a : AV} {v : Value} {l : List AV} {vs : List Value} (h : Rep c a v) (k : RepL c l vs) : RepL c (a :: l) (v :: vs) := by
 simp only [RepL]; exact ⟨v, vs, rfl, h, k⟩
theorem rep_int (k : IntKind) (n : Int) : Rep c (.int k n) (.int k n) := by simp [Rep]
theorem rep_bool (b : Bool) : Rep c (.bool b) (.bool b) := by simp [Rep]
theorem rep_str (s : ByteArray) : Rep c (.str s) (.string s) := by simp [Rep]
def RP {α : Type} (c : RC) (d : Cod α) (e : α → List AV) (ok : α → Prop) : Prop := ∀ cs x, d.is c.w cs x → RepL c (e x) cs ∧ ok x ∧ (∀ v ∈ cs, one1 v = true)
theorem repL_len : ∀ {l : List AV} {vs : List Value}, RepL c l vs → l.length = vs.length
 | [], vs, h => by simp only [RepL] at h; subst h; rfl
 | a :: l, vs, h => by
  simp only [RepL] at h
  obtain ⟨v, vs', rfl, _, h⟩ := h
  simp [repL_len h]
theorem repCs_of {b : Nat} : ∀ {l : List AV} {vs : List Value} {off : Nat}, RepL c l vs → (∀ v ∈ vs, one1 v = true) → (∀ j, j < vs.length → c.w.cell? ⟨b, off + j, none⟩ = vs[j]?) → RepCs c b off l
 | [], vs, off, h, _, _ => by simp [RepCs]
 | a :: l, vs, off, h, ho, hc => by
  simp only [RepL] at h
  obtain ⟨v, vs', rfl, h1, h2⟩ := h
  simp only [RepCs]
  refine ⟨⟨v, by simpa using hc 0 (by simp), ho v (by simp), h1⟩, repCs_of h2 (fun v hv => ho v (by simp [hv])) fun j hj => ?_⟩
  have := hc (j + 1) (by simpa using hj)
  rw [show off + 1 + j = off + (j + 1) by omega]
  simpa using this
theorem repEs_of {α : Type} {d : Cod α} {e : α → List AV} {ok : α → Prop} (H : RP c d e ok) {b sz : Nat} (hsz : d.size = sz) : ∀ {l : List α} {off : Nat}, (∀ (i : Nat) (x : α), l[i]? = some x → ∃ cs', (∀ j, j < d.size → c.w.cell? ⟨b, off + (i * d.size + j), none⟩ = cs'[j]?) ∧ d.is c.w cs' x) → RepEs c sz b off (l.map e) ∧ ∀ x ∈ l, ok x
 | [], off, h => by simp [RepEs]
 | x :: l, off, h => by
  obtain ⟨cs, h1, h2⟩ := h 0 x rfl
  obtain ⟨k1, k2, k3⟩ := H cs x h2
  have hl : cs.length = d.size := d.len h2
  obtain ⟨r1, r2⟩ := repEs_of H hsz (l := l) (off := off + sz) (fun i y hy => by
   obtain ⟨cs', q1, q2⟩ := h (i + 1) y (by simpa using hy)
   refine ⟨cs', fun j hj => ?_, q2⟩
   have := q1 j hj
   rw [← hsz]
   rwa [show off + d.size + (i * d.size + j) = off + ((i + 1) * d.size + j) by rw [Nat.succ_mul]; omega])
  refine ⟨?_, fun y hy => ?_⟩
  ·simp only [List.map_cons, RepEs]
   refine ⟨by rw [repL_len k1, hl, hsz], repCs_of k1 k3 fun j hj => ?_, r1⟩
   have := h1 j (by rw [← hl]; exact hj)
   simpa using this
  ·rcases List.mem_cons.1 hy with rfl | hy
   ·exact k2
   ·exact r2 y hy
theorem cell_in {w : World} {b off : Nat} {v : Value} (h : w.cell? ⟨b, off, none⟩ = some v) : b < w.heap.size := by
 rcases Nat.lt_or_ge b w.heap.size with k | k
 ·exact k
 ·simp [World.cell?, Array.getElem?_eq_none k] at h
theorem rp_slice {α : Type} {d : Cod α} {e : α → List AV} {ok : α → Prop} (hX : ∀ b, ¬ c.X b) (H : RP c d e ok) {sz : Nat} (hsz : d.size = sz) (h0 : 0 < sz) {v : Value} {l : List α} (h : (sliceC d).is c.w [v] l) : Rep c (sl sz e l) v ∧ okL ok l ∧ one1 v = true := by
 rcases h with ⟨h1, rfl⟩ | ⟨b, off, sp, cap, h1, h2, h3, h4⟩
 ·simp only [List.cons.injEq, and_true] at h1
  subst h1
  exact ⟨by simp [sl, Rep, h0], ⟨by simp, by simp⟩, rfl⟩
 ·simp only [List.cons.injEq, and_true] at h1
  subst h1
  have hes : sp = none ∨ l = [] := by
   cases l with
   | nil => exact .inr rfl
   | cons x l => exact .inl (h4 0 (by simp)).1
  have hh : ∀ (i : Nat) (x : α), l[i]? = some x → ∃ cs', (∀ j, j < d.size → c.w.cell? ⟨b, off + (i * d.size + j), none⟩ = cs'[j]?) ∧ d.is c.w cs' x := by
   intro i x hx
   obtain ⟨hi, hx⟩ := List.getElem?_eq_some_iff.1 hx
   subst hx
   exact (h4 i hi).2
  obtain ⟨r1, r2⟩ := repEs_of H hsz hh
  refine ⟨?_, ⟨by unfold maxLen at h3; unfold mxl; omega, r2⟩, rfl⟩
  simp only [sl, Rep]
  refine ⟨some ⟨b, off, sp⟩, cap, by simp, by simpa using h2, h0, ?_⟩
  rcases hes with rfl | rfl
  ·cases l with
   | nil => exact .inl rfl
   | cons x l =>
    refine .inr ⟨b, off, rfl, ?_, hX b, r1⟩
    obtain ⟨cs, q1, q2⟩ := hh 0 x rfl
    have hl : cs.length = d.size := d.len q2
    have := q1 0 (by omega)
    obtain ⟨y, hy⟩ : ∃ y, cs[0]? = some y := ⟨cs[0], List.getElem?_eq_getElem (by omega)⟩
    rw [hy] at this
    exact cell_in this
  ·exact .inl rfl
theorem one_nil : ∀ v ∈ ([] : List Value), one1 v = true := by simp
theorem one_cons {v : Value} {vs : List Value} (h : one1 v = true) (k : ∀ x ∈ vs, one1 x = true) : ∀ x ∈ v :: vs, one1 x = true := by
 intro x hx
 rcases List.mem_cons.1 hx with rfl | hx
 ·exact h
 ·exact k x hx
theorem rp_Point : RP c pointC cPoint okPoint := by
 rintro cs x ⟨rfl, h0, h1⟩
 exact ⟨(repL_cons (rep_int _ _) (repL_cons (rep_int _ _) repL_nil)), ⟨h0, h1⟩, (one_cons rfl (one_cons rfl one_nil))⟩
theorem rp_Move : RP c moveC cMove okMove := by
 rintro cs x ⟨rfl, h0, h1, h2, h3, h6, h7⟩
 exact ⟨(repL_cons (rep_int _ _) (repL_cons (rep_str _) (repL_cons (rep_int _ _) (repL_cons (rep_int _ _) (repL_cons (rep_bool _) (repL_cons (rep_bool _) (repL_cons (rep_int _ _) (repL_cons (rep_int _ _) repL_nil)))))))), ⟨⟨h0, (show okS _ by unfold okS mxl; have := h1; unfold maxLen at this; omega)⟩, ⟨h2, h3⟩, h6, h7⟩, (one_cons rfl (one_cons rfl (one_cons rfl (one_cons rfl (one_cons rfl (one_cons rfl (one_cons rfl (one_cons rfl one_nil))))))))⟩
theorem rp_Cue (hX : ∀ b, ¬ c.X b) : RP c cueC cCue okCue := by
 rintro cs x ⟨v0, v1, rfl, h0, h1, h2, h3, h4, h5, h6, h7, h9, h10⟩
 obtain ⟨r7, o7, n7⟩ := rp_slice hX rp_Point (sz := 2) rfl (by decide) h7
 obtain ⟨r10, o10, n10⟩ := rp_slice hX rp_Move (sz := 8) rfl (by decide) h10
 exact ⟨(repL_cons (rep_int _ _) (repL_cons (rep_str _) (repL_cons (rep_int _ _) (repL_cons (rep_int _ _) (repL_cons (rep_int _ _) (repL_cons (rep_int _ _) (repL_cons (rep_int _ _) (repL_cons r7 (repL_cons (rep_bool _) (repL_cons (rep_int _ _) (repL_cons r10 repL_nil))))))))))), ⟨h0, (show okS _ by unfold okS mxl; have := h1; unfold maxLen at this; omega), h2, h3, h4, h5, ⟨h6, o7⟩, h9, o10⟩, (one_cons rfl (one_cons rfl (one_cons rfl (one_cons rfl (one_cons rfl (one_cons rfl (one_cons rfl (one_cons n7 (one_cons rfl (one_cons rfl (one_cons n10 one_nil)))))))))))⟩
end
end Go.Proofs.Ytphgchakmkankaa

namespace Go.Proofs.Ytphgchakmkankaa
set_option linter.unusedSectionVars false
set_option linter.unusedSimpArgs false
set_option linter.unusedVariables false
open Go.RowKit
noncomputable def base (W : World) : RC := ctx ⟨W, [], fun _ => False, nmT⟩ W [] nopb
theorem base_X (W : World) : ∀ b, ¬ (base W).X b := by
 rintro b (k | ⟨p, hp, _⟩ | ⟨i, k⟩)
 ·exact k
 ·cases hp
 ·cases k
theorem law_run {n : FuncId} {m : List AV → Heap → Option (AV × Heap)} {avs : List AV} (hs : Sound Try.prog nmT n m) (hc : ∀ us w, (callFunc n us).run Try.prog w = .ok (.enter n us) w) (W : World) (vs : Array Value) (hr : RepL (base W) avs vs.toList) (hm : m avs [] = some (.bool true, [])) :
  Calls Try.prog n vs W fun e W' => e = .returned (.bool true) ∧ Below W.heap.size W W' := by
 have hh0 : HeapRel (ctx ⟨W, [], fun _ => False, nmT⟩ W [] nopb) [] := by
  refine ⟨rfl, fun i j p q hp => ?_, fun i p x hp => ?_⟩
  ·simp [ctx] at hp
  ·simp [ctx] at hp
 rcases hs _ _ _ _ hm with ⟨g, h1, h2⟩ | hv
 case inr =>
  obtain ⟨v, w', E', k1, _⟩ := hv ⟨W, [], fun _ => False, nmT⟩ vs rfl (fun b k => k.elim) hh0 hr
  rw [hc] at k1
  injection k1 with k1
  cases k1
 have hg : g = n := by
  have e1 := h1 #[] W
  rw [hc #[] W] at e1
  injection e1 with e1
  injection e1 with e1
  exact e1.symm
 subst hg
 have hh : HeapRel (ctx ⟨W, [], fun _ => False, nmT⟩ W [] nopb) [] := by
  refine ⟨rfl, fun i j p q hp => ?_, fun i p x hp => ?_⟩
  ·simp [ctx] at hp
  ·simp [ctx] at hp
 refine (h2 ⟨W, [], fun _ => False, nmT⟩ vs rfl (fun b k => k.elim) hh hr).mono ?_
 rintro e w' ⟨v, E', rfl, ho, _, hv⟩
 simp only [Rep] at hv
 subst hv
 exact ⟨rfl, ho.os, ho.tape, ho.output, ho.size, fun k hk => ho.stay k hk (fun p hp => by cases hp)⟩
end Go.Proofs.Ytphgchakmkankaa

