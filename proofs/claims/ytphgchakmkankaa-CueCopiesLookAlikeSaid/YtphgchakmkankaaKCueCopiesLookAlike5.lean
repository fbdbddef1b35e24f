/- Parts of the proof of CueCopiesLookAlike, in order. -/
import Derived.Orders
import Derived.Below
import Derived.WalkKit
import Derived.Laws.StructEq
import Derived.Laws.Append
import Derived.Laws.AppendOwn
import Derived.Test.YtphgchakmkankaaRows
import Derived.KernelRfl
import Derived.Lib.Bytealg
import Derived.Sort.Defs
import Derived.Lib.BitFns
import Derived.Test.YtphgchakmkankaaShelf
import Derived.Lib.Overlaps
import Derived.IntWalk
import Derived.Sort.Statements
import Derived.Shelf.SlSortCmp.WholeK
import Derived.Shelf.SlSortCmp.NoneTotal
import Derived.Sort.AssemblyPlain
import Derived.Lib.Strings
import Derived.WalkSpells
import Derived.ProofKit
import Derived.OpenShut
import Derived.Lib.Hide
import Derived.Lib.SmallJoins
import Derived.Deep.QuietTactic
import Derived.BigQuiet
import Derived.Deep.RegionHeld3
import Derived.Deep.Slices
import Derived.Test.YtphgchakmkankaaKCueCopiesLookAlike4
namespace Go.Proofs.Ytphgchakmkankaa
set_option linter.unusedSectionVars false
set_option linter.unusedVariables false
set_option linter.unusedSimpArgs false
open HP
section
variable {B : Blk → Prop} {σ0 σ : Heap} {R : HP}
theorem fold_stepE {n : Int} (ms : List MoveD) : ∀ {st : List EntryD}, srtE st → srtE (ms.foldl (stepE n) st) ∧ (ms.foldl (stepE n) st).length ≤ st.length + ms.length := by
 induction ms with
 | nil => intro st h; exact ⟨h, Nat.le_refl _⟩
 | cons m ms ih =>
  intro st h
  obtain ⟨h1, _, h3⟩ := stepE_spec (n := n) h m
  obtain ⟨h4, h5⟩ := ih h1
  exact ⟨h4, by simp only [List.foldl_cons, List.length_cons]; omega⟩
theorem before_inv {l : List CueD} (hl : ∀ c ∈ l, c.moves.length ≤ 2000000) : ∀ (k : Nat) (st : List EntryD), srtE st → st.length ≤ k * 2000000 → srtE (l.foldl afterF st) ∧ (l.foldl afterF st).length ≤ (k + l.length) * 2000000 := by
 induction l with
 | nil => intro k st h1 h2; exact ⟨h1, h2⟩
 | cons c l ih =>
  intro k st h1 h2
  obtain ⟨h3, h4⟩ := fold_stepE (n := c.number) c.moves h1
  have hc := hl c (by simp)
  obtain ⟨h5, h6⟩ := ih (fun x hx => hl x (by simp [hx])) (k + 1) (afterF st c) h3 (by show (c.moves.foldl _ st).length ≤ _; omega)
  refine ⟨h5, ?_⟩
  rw [List.length_cons, show k + (l.length + 1) = k + 1 + l.length from by omega]
  exact h6
end
def stepM (n : Int) (s : List (KeyD × EntryD)) (m : MoveD) : List (KeyD × EntryD) := if m.release = true then tdel m.key s else tupd m.key ⟨m.key, m.value, n⟩ s
def stateF (l : List CueD) : List (KeyD × EntryD) := l.foldl (fun s c => c.moves.foldl (stepM c.number) s) []
def nodK (s : List (KeyD × EntryD)) : Prop := (s.map (·.1)).Nodup
theorem tfind_upd {ν : Type} (k k' : KeyD) (v : ν) : ∀ s : List (KeyD × ν), tfind k (tupd k' v s) = if k = k' then some v else tfind k s
 | [] => by by_cases h : k = k' <;> simp [tupd, tfind, h]
 | (a, b) :: s => by
  rw [tupd]
  by_cases h1 : k' = a
  ·subst h1
   simp only [if_true, tfind]
   by_cases h : k = k' <;> simp [h]
  ·rw [if_neg h1, tfind, tfind, tfind_upd k k' v s]
   by_cases h2 : k = a
   ·have : k ≠ k' := fun e => h1 (by rw [← e, h2])
    simp [h2, this]
    intro e; exact absurd (e.symm) h1
   ·simp [h2]
theorem mem_del {ν : Type} {k : KeyD} : ∀ {s : List (KeyD × ν)} {x : KeyD × ν}, x ∈ tdel k s → x ∈ s
 | [], x, h => h
 | (a, b) :: s, x, h => by
  rw [tdel] at h
  split at h
  ·exact List.mem_cons_of_mem _ h
  ·rcases List.mem_cons.1 h with rfl | h
   ·exact List.mem_cons_self
   ·exact List.mem_cons_of_mem _ (mem_del h)
theorem tfind_none {ν : Type} {k : KeyD} : ∀ {s : List (KeyD × ν)}, (∀ p ∈ s, p.1 ≠ k) → tfind k s = none
 | [], _ => rfl
 | (a, b) :: s, h => by
  rw [tfind, if_neg (fun e => h (a, b) (by simp) e.symm)]
  exact tfind_none (fun p hp => h p (by simp [hp]))
theorem tfind_del (k k' : KeyD) : ∀ {s : List (KeyD × EntryD)}, nodK s → tfind k (tdel k' s) = if k = k' then none else tfind k s
 | [], _ => by simp [tdel, tfind]
 | (a, b) :: s, h => by
  unfold nodK at h
  rw [List.map_cons, List.nodup_cons] at h
  rw [tdel]
  by_cases h1 : k' = a
  ·subst h1
   rw [if_pos rfl]
   by_cases h2 : k = k'
   ·subst h2
    rw [if_pos rfl]
    exact tfind_none fun p hp e => h.1 (List.mem_map.2 ⟨p, hp, e⟩)
   ·rw [if_neg h2, tfind, if_neg h2]
  ·rw [if_neg h1, tfind, tfind, tfind_del k k' (s := s) h.2]
   by_cases h2 : k = a
   ·have : k ≠ k' := fun e => h1 (by rw [← e, h2])
    rw [if_pos h2, if_pos h2, if_neg this]
   ·rw [if_neg h2, if_neg h2]
theorem nod_upd {k : KeyD} {v : EntryD} : ∀ {s : List (KeyD × EntryD)}, nodK s → nodK (tupd k v s) ∧ ∀ x ∈ (tupd k v s).map (·.1), x ∈ s.map (·.1) ∨ x = k
 | [], _ => ⟨by simp [nodK, tupd], by simp [tupd]⟩
 | (a, b) :: s, h => by
  unfold nodK at h
  rw [List.map_cons, List.nodup_cons] at h
  rw [tupd]
  split
  ·rename_i e
   subst e
   exact ⟨by unfold nodK; rw [List.map_cons, List.nodup_cons]; exact h, fun x hx => .inl hx⟩
  ·rename_i e
   obtain ⟨h1, h2⟩ := nod_upd (k := k) (v := v) h.2
   refine ⟨?_, fun x hx => ?_⟩
   ·unfold nodK
    rw [List.map_cons, List.nodup_cons]
    refine ⟨fun hm => ?_, h1⟩
    rcases h2 _ hm with h3 | h3
    ·exact h.1 h3
    ·exact e h3.symm
   ·rw [List.map_cons] at hx ⊢
    rcases List.mem_cons.1 hx with rfl | hx
    ·exact .inl List.mem_cons_self
    ·rcases h2 x hx with h3 | h3
     ·exact .inl (List.mem_cons_of_mem _ h3)
     ·exact .inr h3
theorem nod_del {k : KeyD} : ∀ {s : List (KeyD × EntryD)}, nodK s → nodK (tdel k s)
 | [], h => h
 | (a, b) :: s, h => by
  unfold nodK at h
  rw [List.map_cons, List.nodup_cons] at h
  rw [tdel]
  split
  ·exact h.2
  ·unfold nodK
   rw [List.map_cons, List.nodup_cons]
   refine ⟨fun hm => ?_, nod_del h.2⟩
   obtain ⟨p, hp, e⟩ := List.mem_map.1 hm
   exact h.1 (List.mem_map.2 ⟨p, mem_del hp, e⟩)
def SameS (s : List (KeyD × EntryD)) (st : List EntryD) : Prop := nodK s ∧ srtE st ∧ ∀ k, tfind k s = lookE st k
theorem same_step {n : Int} {s : List (KeyD × EntryD)} {st : List EntryD} (h : SameS s st) (m : MoveD) : SameS (stepM n s m) (stepE n st m) := by
 obtain ⟨h1, h2, h3⟩ := h
 obtain ⟨k1, k2, _⟩ := stepE_spec (n := n) h2 m
 unfold stepM
 refine ⟨?_, k1, fun k => ?_⟩
 ·split
  ·exact nod_del h1
  ·exact (nod_upd h1).1
 ·rw [k2 k]
  split
  ·rw [tfind_del k m.key h1, h3 k]
  ·rw [tfind_upd, h3 k]
theorem same_fold {n : Int} : ∀ (ms : List MoveD) {s : List (KeyD × EntryD)} {st : List EntryD}, SameS s st → SameS (ms.foldl (stepM n) s) (ms.foldl (stepE n) st)
 | [], _, _, h => h
 | m :: ms, _, _, h => same_fold ms (same_step h m)
theorem same_all : ∀ (l : List CueD) {s : List (KeyD × EntryD)} {st : List EntryD}, SameS s st → SameS (l.foldl (fun s c => c.moves.foldl (stepM c.number) s) s) (l.foldl afterF st)
 | [], _, _, h => h
 | c :: l, _, _, h => same_all l (same_fold c.moves h)
theorem same_state (l : List CueD) : SameS (stateF l) (beforeF l) := same_all l ⟨List.Pairwise.nil, List.Pairwise.nil, fun k => rfl⟩
theorem state_t {l : List CueD} (hl : l.length ≤ mxl) (hm : ∀ c ∈ l, c.moves.length ≤ mxl) : t_cue_state l = some (stateF l) := by
 unfold t_cue_state stateF
 rw [forE_fold (g := fun s c => c.moves.foldl (stepM c.number) s) (P := fun _ _ => True) hl trivial (fun _ _ _ _ _ => trivial) ?_]
 ·rfl
 intro i c s hc _
 rw [forE_fold (g := fun s m => stepM c.number s m) (P := fun _ _ => True) (hm c (List.mem_of_getElem? hc)) trivial (fun _ _ _ _ _ => trivial) ?_]
 ·rfl
 intro j m s hm _
 unfold stepM
 by_cases hr : m.release = true <;> simp [hr]
end Go.Proofs.Ytphgchakmkankaa

namespace Go.Proofs.Ytphgchakmkankaa
set_option linter.unusedSectionVars false
set_option linter.unusedVariables false
set_option linter.unusedSimpArgs false
open HP
def newCue (n : Int) : CueD := ⟨n, ⟨#[]⟩, 0, 0, 0, 0, ⟨1, []⟩, false, -1, []⟩
def newRow (n : Int) : List AV := cCueH (newCue n) .nsl .nsl
def insAt (l : List CueD) (i : Nat) (c : CueD) : List CueD := l.take i ++ [c] ++ l.drop i
theorem row_key (k : KeyD) : (((A.cells 2 (.agg (cKey k))).bind fun c12 => (A.splice 0 c12 [(AV.int .i64 0), (AV.str ⟨#[]⟩)]).bind fun c13 => some c13).bind fun cs => some (AV.sl 2 (chunks 2 1 cs))) = some (.sl 2 [cKey k]) := rfl
theorem cKey_scal (x : KeyD) : (cKey x).all A.scal1 = true := rfl
def mvOf (k : KeyD) (o : Option EntryD) : MoveD := match o with
 | some e => ⟨k, e.value, false, false, 0, 0⟩
 | none => ⟨k, ⟨0, 0⟩, true, false, 0, 0⟩
theorem mvOf_key (k : KeyD) (o : Option EntryD) : (mvOf k o).key = k := by cases o <;> rfl
theorem move_t (st : List (KeyD × EntryD)) (k : KeyD) : t_cue_move st k = some (mvOf k (tfind k st)) := by
 unfold t_cue_move
 cases tfind k st <;> rfl
def restP (g : KeyD → MoveD) (ms : List MoveD) (k : KeyD) : List MoveD := if hasM ms k = true then ms else putM ms (g k)
theorem restP_srt {g : KeyD → MoveD} {ms : List MoveD} (h : srtM ms) (k : KeyD) : srtM (restP g ms k) ∧ (restP g ms k).length ≤ ms.length + 1 := by
 unfold restP
 split
 ·exact ⟨h, by omega⟩
 ·exact ⟨srt_put h _, put_len _ _⟩
theorem rest_fold {g : KeyD → MoveD} : ∀ (ks : List KeyD) {ms : List MoveD}, srtM ms → srtM (ks.foldl (restP g) ms) ∧ (ks.foldl (restP g) ms).length ≤ ms.length + ks.length
 | [], _, h => ⟨h, Nat.le_refl _⟩
 | k :: ks, ms, h => by
  obtain ⟨h1, h2⟩ := restP_srt (g := g) h k
  obtain ⟨h3, h4⟩ := rest_fold (g := g) ks h1
  exact ⟨h3, by simp only [List.foldl_cons, List.length_cons]; omega⟩
section
variable {σ0 σ : Heap} {R : HP}
theorem done_own {v : AV} {o : List CueD} (H : Hs anyB σ0 σ (Sl CueE 11 v o * R)) (ho : okL okCue o) : m_cue_done [v] σ = some (.tup [if formF o = 0 then v else .nsl, .int .i64 (formF o)], σ) := by
 have hf : m_cue_form [v] σ = some (.int .i64 (formF o), σ) := lent (ain := [.e 11 shCue]) (ts := [sl 11 cCue o]) ⟨lt_cues H, trivial⟩ (fun σ => h_cue_form (form_t o ho)) rfl
 unfold m_cue_done A.wrap
 rw [Bool.false_and, cond_false, show A.nnL [] [v] = [v] by simp [A.nnL]]
 show (r_cue_done v σ).map _ = _
 unfold r_cue_done
 rw [hf, Option.bind_some, aNeI, Option.bind_some]
 by_cases hq : formF o = 0
 ·rw [decide_eq_false (by simp [hq]), cnd_f, if_pos hq, hq]; simp [nn_k]
 ·rw [decide_eq_true hq, cnd_t, if_neg hq]; simp [nn_k]
theorem appK {B : Blk → Prop} {v : AV} {l : List KeyD} (k : KeyD) (hl : l.length < 1000000) (hB : ∀ g g' seg, (seg = [] ∨ B (.arr g 2 seg)) → B (.arr g' 2 (seg ++ [cKey k]))) (H : Hs B σ0 σ (Sl (fl cKey) 2 v l * R)) :
  ∃ v' σ', A.append 2 (140737488355328 / 24) v (.sl 2 [cKey k]) σ = some (v', σ') ∧ Hs B σ0 σ' (Sl (fl cKey) 2 v' (l ++ [k]) * R) :=
 sl_app (ys := [cKey k]) (xs := [k]) (hs_eq (show pr (cKey k = cKey k) * (Sl (fl cKey) 2 v l * R) = _ by
  rw [show els (fl cKey) [cKey k] [k] = pr (cKey k = cKey k) * emp from rfl, star_assoc, emp_star]; ac_rfl) (hs_pr.2 ⟨rfl, H⟩)) (by simp; omega) hB
theorem keysOf_s {l : List MoveD} (hl : l.length ≤ 100000) : KS m_cue_keysOf [sl 8 cMove l] cKey 2 (l.map (·.key)) := by
 intro σ0 σ R H
 have run : ∃ b : AV × Heap, r_cue_keysOf (sl 8 cMove l) σ = some b ∧ Hs frB σ0 b.2 (Sl (fl cKey) 2 b.1 (l.map (·.key)) * R) := by
  unfold r_cue_keysOf
  rw [lenS_sl, Option.bind_some]
  refine loop_k (Q := fun q => ∃ h w, q.1 = .exit 0 ∧ q.2.1 = [h, w] ∧ Hs frB σ0 q.2.2 (Sl (fl cKey) 2 h (l.map (·.key)) * R)) (loop_hs l (fun i v s => ∃ h, v = [h, .int .i64 (i : Int)] ∧ Hs frB σ0 s (Sl (fl cKey) 2 h ((l.take i).map (·.key)) * R)) ?_ ?_ ⟨.nsl, rfl, slz H (.inl rfl)⟩) ?_
  ·rintro i m w s hx ⟨h, rfl, K⟩
   have hi := (List.getElem?_eq_some_iff.1 hx).1
   simp only [List.getD_cons_zero, List.getD_cons_succ]
   rw [ix_lt hx, Option.bind_some, cnd_t, ix_for hx, Option.bind_some]
   simp only [A.deref, Option.bind_some]
   rw [pA_cMove, Option.bind_some, ce_cMove, Option.bind_some, sp_cMove m _ rfl, Option.bind_some, pA_cMove_key, Option.bind_some, row_key, Option.bind_some]
   obtain ⟨h', s', e1, K2⟩ := appK m.key (by simp; omega) (frB_app cKey_scal [m.key]) K
   rw [e1, Option.bind_some, ix_inc hx (by unfold mxl; omega), Option.bind_some]
   refine ⟨_, _, rfl, h', rfl, ?_⟩
   rw [List.take_add_one, hx, Option.toList_some, List.map_append]
   exact K2
  ·rintro w s ⟨h, rfl, K⟩
   simp only [List.getD_cons_zero, List.getD_cons_succ]
   rw [ix_end, Option.bind_some, cnd_f]
   refine ⟨_, rfl, by simp, h, _, rfl, rfl, ?_⟩
   rw [List.take_length] at K; exact K
  ·rintro ⟨e, w, s⟩ ⟨h, w', h1, h2, K⟩
   simp only at h1 h2 K
   subst h1; subst h2
   exact ⟨_, rfl, K⟩
 obtain ⟨⟨v, σ'⟩, h1, h2⟩ := run
 exact ⟨v, σ', wrap_eq rfl h1 (nn_k _), h2⟩
end
end Go.Proofs.Ytphgchakmkankaa

namespace Go.Proofs.Ytphgchakmkankaa
set_option linter.unusedSectionVars false
set_option linter.unusedVariables false
set_option linter.unusedSimpArgs false
open HP
theorem len_insAt {l : List CueD} {i : Nat} (hi : i ≤ l.length) (c : CueD) : (insAt l i c).length = l.length + 1 := by
 unfold insAt; simp; omega
theorem mem_insAt {l : List CueD} {i : Nat} {c x : CueD} (h : x ∈ insAt l i c) : x ∈ l ∨ x = c := by
 unfold insAt at h
 simp only [List.mem_append, List.mem_singleton] at h
 rcases h with (h | h) | h
 ·exact .inl (List.mem_of_mem_take h)
 ·exact .inr h
 ·exact .inl (List.mem_of_mem_drop h)
theorem mem_upd {ν : Type} {k : KeyD} {v : ν} : ∀ {s : List (KeyD × ν)} {x : KeyD × ν}, x ∈ tupd k v s → x ∈ s ∨ x.2 = v
 | [], x, h => by simp [tupd] at h; exact .inr (by rw [h])
 | (a, b) :: s, x, h => by
  rw [tupd] at h
  split at h
  ·rcases List.mem_cons.1 h with rfl | h
   ·exact .inr rfl
   ·exact .inl (List.mem_cons_of_mem _ h)
  ·rcases List.mem_cons.1 h with rfl | h
   ·exact .inl List.mem_cons_self
   ·rcases mem_upd h with h | h
    ·exact .inl (List.mem_cons_of_mem _ h)
    ·exact .inr h
theorem state_ok {P : ValueD → Prop} {l : List CueD} (h : ∀ c ∈ l, ∀ m ∈ c.moves, P m.value) : ∀ p ∈ stateF l, P p.2.value := by
 have inner : ∀ (n : Int) (ms : List MoveD) (s : List (KeyD × EntryD)), (∀ m ∈ ms, P m.value) → (∀ p ∈ s, P p.2.value) → ∀ p ∈ ms.foldl (stepM n) s, P p.2.value := by
  intro n ms
  induction ms with
  | nil => intro s _ h; exact h
  | cons m ms ih =>
   intro s hm hs
   refine ih _ (fun x hx => hm x (by simp [hx])) (fun p hp => ?_)
   unfold stepM at hp
   split at hp
   ·exact hs p (mem_del hp)
   ·rcases mem_upd hp with hp | hp
    ·exact hs p hp
    ·rw [hp]; exact hm m (by simp)
 unfold stateF
 have key : ∀ (l : List CueD) (s : List (KeyD × EntryD)), (∀ c ∈ l, ∀ m ∈ c.moves, P m.value) → (∀ p ∈ s, P p.2.value) → ∀ p ∈ l.foldl (fun s c => c.moves.foldl (stepM c.number) s) s, P p.2.value := by
  intro l
  induction l with
  | nil => intro s _ h; exact h
  | cons c l ih =>
   intro s hl hs
   exact ih _ (fun x hx => hl x (by simp [hx])) (inner c.number c.moves s (hl c (by simp)) hs)
 exact key l [] h (by simp)
theorem mem_tfind {ν : Type} {k : KeyD} : ∀ {s : List (KeyD × ν)} {e : ν}, tfind k s = some e → ∃ p ∈ s, p.2 = e
 | [], e, h => by cases h
 | (a, b) :: s, e, h => by
  rw [tfind] at h
  split at h
  ·injection h with h; exact ⟨(a, b), by simp, h⟩
  ·obtain ⟨p, hp, q⟩ := mem_tfind h
   exact ⟨p, List.mem_cons_of_mem _ hp, q⟩
theorem inI_0 : inI 0 := by unfold inI; decide
theorem mvOf_ok {k : KeyD} {o : Option EntryD} (hk : okKey k) (ho : ∀ e, o = some e → okValue e.value) : okMove (mvOf k o) := by
 cases o with
 | none => exact ⟨hk, ⟨inI_0, inI_0⟩, inI_0, inI_0⟩
 | some e => exact ⟨hk, ho e rfl, inI_0, inI_0⟩
theorem rest_ok {g : KeyD → MoveD} : ∀ (ks : List KeyD) {ms : List MoveD}, (∀ k ∈ ks, okMove (g k)) → (∀ m ∈ ms, okMove m) → ∀ m ∈ ks.foldl (restP g) ms, okMove m
 | [], ms, _, h => h
 | k :: ks, ms, hk, h => by
  refine rest_ok ks (fun x hx => hk x (by simp [hx])) (fun m hm => ?_)
  unfold restP at hm
  split at hm
  ·exact h m hm
  ·rcases mem_put hm with hm | rfl
   ·exact h m hm
   ·exact hk k (by simp)
end Go.Proofs.Ytphgchakmkankaa

namespace Go.Proofs.Ytphgchakmkankaa
set_option linter.unusedSectionVars false
set_option linter.unusedVariables false
set_option linter.unusedSimpArgs false
open HP
theorem exb2 {α : Type} {X Y : α} : (bif (AX.exit 2 == AX.exit 2) then X else Y) = X := rfl
theorem row3 (a b c : Int) : ((((A.cell (.int .i64 a)).bind fun v => some [v]).bind fun c6 => (A.splice 0 c6 [(AV.int .i64 0), (AV.int .i64 0), (AV.int .i64 0)]).bind fun c7 => ((A.cell (.int .i64 b)).bind fun v => some [v]).bind fun c8 => (A.splice 1 c8 c7).bind fun c9 => ((A.cell (.int .i64 c)).bind fun v => some [v]).bind fun c10 => (A.splice 2 c10 c9).bind fun c11 => some c11).bind fun cs => some (AV.sl 1 (chunks 1 3 cs))) = some (sl 1 cInt [a, b, c]) := rfl
end Go.Proofs.Ytphgchakmkankaa

namespace Go.Proofs.Ytphgchakmkankaa
set_option linter.unusedSectionVars false
set_option linter.unusedVariables false
set_option linter.unusedSimpArgs false
open HP
section
variable {σ0 σ : Heap} {R : HP}
theorem set_same {l : List CueD} {i : Nat} {x : CueD} (h : l[i]? = some x) : l.set i x = l := by
 apply List.ext_getElem?
 intro j
 rw [List.getElem?_set]
 split
 ·rename_i e; subst e; rw [h, if_pos (List.getElem?_eq_some_iff.1 h).1]
 ·rfl
end
end Go.Proofs.Ytphgchakmkankaa

namespace Go.Proofs.Ytphgchakmkankaa
set_option linter.unusedSectionVars false
set_option linter.unusedVariables false
set_option linter.unusedSimpArgs false
open HP
section
variable {σ0 σ : Heap} {R : HP}
theorem appM {B : Blk → Prop} {v : AV} {l : List MoveD} (k : MoveD) (hl : l.length < 1000000) (hB : ∀ g g' seg, (seg = [] ∨ B (.arr g 8 seg)) → B (.arr g' 8 (seg ++ [cMove k]))) (H : Hs B σ0 σ (Sl (fl cMove) 8 v l * R)) :
  ∃ v' σ', A.append 8 (140737488355328 / 64) v (.sl 8 [cMove k]) σ = some (v', σ') ∧ Hs B σ0 σ' (Sl (fl cMove) 8 v' (l ++ [k]) * R) :=
 sl_app (ys := [cMove k]) (xs := [k]) (hs_eq (show pr (cMove k = cMove k) * (Sl (fl cMove) 8 v l * R) = _ by
  rw [show els (fl cMove) [cMove k] [k] = pr (cMove k = cMove k) * emp from rfl, star_assoc, emp_star]; ac_rfl) (hs_pr.2 ⟨rfl, H⟩)) (by simp; omega) hB
end
end Go.Proofs.Ytphgchakmkankaa

namespace Go.Proofs.Ytphgchakmkankaa
set_option linter.unusedSectionVars false
set_option linter.unusedVariables false
set_option linter.unusedSimpArgs false
open HP
theorem look_fold {n : Int} {k : KeyD} : ∀ (ms : List MoveD) {st : List EntryD}, srtE st → (∀ m ∈ ms, m.key ≠ k) → lookE (ms.foldl (stepE n) st) k = lookE st k
 | [], _, _, _ => rfl
 | m :: ms, st, h, hk => by
  obtain ⟨h1, h2, _⟩ := stepE_spec (n := n) h m
  rw [List.foldl_cons, look_fold ms h1 (fun x hx => hk x (by simp [hx])), h2, if_neg (fun e => hk m (by simp) e.symm)]
theorem no_has {ms : List MoveD} {k : KeyD} (h : hasM ms k = false) : ∀ m ∈ ms, m.key ≠ k := fun m hm e => by
 rw [Bool.eq_false_iff] at h
 exact h (List.any_eq_true.2 ⟨m, hm, by simp [e]⟩)
theorem look_cues {k : KeyD} : ∀ (l : List CueD) {st : List EntryD}, srtE st → (∀ c ∈ l, hasM c.moves k = false) → lookE (l.foldl afterF st) k = lookE st k
 | [], _, _, _ => rfl
 | c :: l, st, h, hk => by
  rw [List.foldl_cons, look_cues l (st := afterF st c) (fold_stepE (n := c.number) c.moves h).1 (fun x hx => hk x (by simp [hx]))]
  exact look_fold c.moves h (no_has (hk c (by simp)))
theorem setMv_id {l : List CueD} {i : Nat} {g : List MoveD → List MoveD} (h : ∀ x, l[i]? = some x → g x.moves = x.moves) : setMv l i g = l := by
 unfold setMv
 split
 ·rename_i x hx
  rw [h x hx]
  exact set_same hx
 ·rfl
theorem setMv_get (l : List CueD) (i j : Nat) (g : List MoveD → List MoveD) : (setMv l i g)[j]? = if i = j then l[j]?.map (fun c => { c with moves := g c.moves }) else l[j]? := by
 by_cases h : i = j
 ·subst h
  rw [if_pos rfl]
  unfold setMv
  split
  ·rename_i x hx
   rw [List.getElem?_set_self (List.getElem?_eq_some_iff.1 hx).1, hx]; rfl
  ·rename_i hx; rw [hx]; rfl
 ·rw [if_neg h, setMv_ne h]
theorem setMv_two (l : List CueD) (i : Nat) (g f : List MoveD → List MoveD) : setMv (setMv l i g) i f = setMv l i (fun x => f (g x)) := by
 apply List.ext_getElem?
 intro k
 rw [setMv_get, setMv_get, setMv_get]
 by_cases h1 : i = k
 ·subst h1
  rw [if_pos rfl, if_pos rfl, if_pos rfl]
  cases l[i]? <;> rfl
 ·rw [if_neg h1, if_neg h1, if_neg h1]
theorem drop_setMv_lt (g : List MoveD → List MoveD) (l : List CueD) {k a : Nat} (h : k < a) : (setMv l k g).drop a = l.drop a := by
 unfold setMv
 split
 ·rw [List.drop_set, if_pos h]
 ·rfl
theorem take_setMv (g : List MoveD → List MoveD) (l : List CueD) {k a : Nat} (h : a ≤ k) : (setMv l k g).take a = l.take a := by
 unfold setMv
 split
 ·rw [List.take_set_of_le h]
 ·rfl
theorem rest_same {g g' : KeyD → MoveD} : ∀ (ks : List KeyD) {ms : List MoveD}, srtM ms → (∀ k, (g k).key = k) → (∀ k ∈ ks, hasM ms k = false → g k = g' k) → ks.foldl (restP g) ms = ks.foldl (restP g') ms
 | [], _, _, _, _ => rfl
 | k :: ks, ms, hs, hg, h => by
  have e : restP g ms k = restP g' ms k := by
   unfold restP
   cases hh : hasM ms k
   ·rw [h k (by simp) hh]
   ·rfl
  rw [List.foldl_cons, List.foldl_cons, ← e]
  refine rest_same ks (restP_srt hs k).1 hg (fun x hx hh => h x (by simp [hx]) ?_)
  unfold restP at hh
  split at hh
  ·exact hh
  ·rw [has_put hs] at hh
   rw [Bool.or_eq_false_iff] at hh
   exact hh.1
theorem setMv_congr {l : List CueD} {i : Nat} {g f : List MoveD → List MoveD} (h : ∀ x, l[i]? = some x → g x.moves = f x.moves) : setMv l i g = setMv l i f := by
 unfold setMv
 split
 ·rename_i x hx
  rw [h x hx]
 ·rfl
end Go.Proofs.Ytphgchakmkankaa

namespace Go.Proofs.Ytphgchakmkankaa
set_option linter.unusedSectionVars false
set_option linter.unusedVariables false
set_option linter.unusedSimpArgs false
open HP
section
variable {σ0 σ : Heap} {R : HP}
theorem fin_slf {α : Type} {c : α → List AV} {sz : Nat} {B : Blk → Prop} {v : AV} {l : List α} (hc : ∀ x, FzL (c x)) (H : Hs B σ0 σ (Sl (fl c) sz v l * R)) : ∃ v', A.fin σ0 v σ = some (v', σ0) ∧ A.nn (.s sz) v' = sl sz c l := by
 obtain ⟨v', h1, h2, h3⟩ := slf_fz H hc (Nat.le_refl _) 7
 refine ⟨v', fin_hs (hs_any H) h1 (fun e => ?_), h3⟩
 rcases slf_cases H with ⟨rfl, rfl | rfl, _⟩ | ⟨id, g, rfl, K⟩
 ·simp [A.frz] at h1; rw [h1]
 ·simp [A.frz] at h1; rw [h1]
 ·obtain ⟨k1, k2⟩ := hs_get K
  have := (List.getElem?_eq_some_iff.1 k2).1
  subst e; omega
end
end Go.Proofs.Ytphgchakmkankaa

namespace Go.Proofs.Ytphgchakmkankaa
set_option linter.unusedSectionVars false
set_option linter.unusedVariables false
set_option linter.unusedSimpArgs false
open HP
def fmS (st : List (KeyD × EntryD)) : AV := fmE (fun x => (AV.agg (cKey x))) (fun x => (AV.agg (cEntry x))) st
section
variable {σ0 σ : Heap} {R : HP}
end
end Go.Proofs.Ytphgchakmkankaa

namespace Go.Proofs.Ytphgchakmkankaa
set_option linter.unusedSectionVars false
set_option linter.unusedVariables false
set_option linter.unusedSimpArgs false
def mvK (l : List MoveD) (k : KeyD) : Option MoveD := l.find? fun m => decide (m.key = k)
theorem posM_at {l : List MoveD} {k : KeyD} (h : srtM l) {i : Nat} {x : MoveD} (hi : l[i]? = some x) (hk : x.key = k) : posM l k = i := by
 have h1 : ¬ i < posM l k := fun q => by
  have := (posM_lt h hi).2 q
  rw [hk, ltK_irr] at this; cases this
 have h2 : ¬ posM l k < i := fun q => by
  have hp : posM l k < l.length := Nat.lt_trans q (List.getElem?_eq_some_iff.1 hi).1
  have hy : l[posM l k]? = some l[posM l k] := List.getElem?_eq_getElem hp
  have h3 : ¬ ltK l[posM l k].key k = true := fun q' => Nat.lt_irrefl _ ((posM_lt h hy).1 q')
  have h4 := List.pairwise_iff_getElem.1 h (posM l k) i hp (List.getElem?_eq_some_iff.1 hi).1 q
  rw [(List.getElem?_eq_some_iff.1 hi).2, hk] at h4
  exact h3 h4
 omega
theorem mvK_some {l : List MoveD} (h : srtM l) {k : KeyD} {x : MoveD} : mvK l k = some x ↔ x ∈ l ∧ x.key = k := by
 constructor
 ·intro e
  exact ⟨List.mem_of_find?_eq_some e, of_decide_eq_true (List.find?_some (p := fun m : MoveD => decide (m.key = k)) e)⟩
 ·rintro ⟨hm, hk⟩
  cases e : mvK l k with
  | none =>
   have := List.find?_eq_none.1 e x hm
   simp [hk] at this
  | some y =>
   have hy := List.mem_of_find?_eq_some e
   have hyk : y.key = k := of_decide_eq_true (List.find?_some (p := fun m : MoveD => decide (m.key = k)) e)
   obtain ⟨i, hi⟩ := List.mem_iff_getElem?.1 hm
   obtain ⟨j, hj⟩ := List.mem_iff_getElem?.1 hy
   have e1 := posM_at h hi hk
   have e2 := posM_at h hj hyk
   rw [← e1, e2, hj] at hi
   exact hi
theorem mvK_none {l : List MoveD} {k : KeyD} : mvK l k = none ↔ hasM l k = false := by
 unfold mvK hasM
 rw [List.find?_eq_none, Bool.eq_false_iff, Ne, List.any_eq_true]
 constructor
 ·rintro h ⟨x, h1, h2⟩; exact h x h1 h2
 ·intro h x h1 h2; exact h ⟨x, h1, h2⟩
theorem mvK_ext : ∀ {a b : List MoveD}, srtM a → srtM b → (∀ k, mvK a k = mvK b k) → a = b
 | [], [], _, _, _ => rfl
 | [], y :: b, _, _, h => by have := h y.key; simp [mvK] at this
 | x :: a, [], _, _, h => by have := h x.key; simp [mvK] at this
 | x :: a, y :: b, ha, hb, h => by
  have ha' := List.pairwise_cons.1 ha
  have hb' := List.pairwise_cons.1 hb
  have hxy : x = y := by
   have h1 : mvK (y :: b) x.key = some x := by rw [← h]; simp [mvK]
   have h2 : mvK (x :: a) y.key = some y := by rw [h]; simp [mvK]
   have m1 := ((mvK_some hb).1 h1).1
   have m2 := ((mvK_some ha).1 h2).1
   rcases List.mem_cons.1 m1 with e | m1
   ·exact e
   rcases List.mem_cons.1 m2 with e | m2
   ·exact e.symm
   have q1 := hb'.1 x m1
   have q2 := ha'.1 y m2
   have := ltK_trans q1 q2
   rw [ltK_irr] at this; cases this
  subst hxy
  congr 1
  refine mvK_ext ha'.2 hb'.2 fun k => ?_
  by_cases hk : x.key = k
  ·have n1 : mvK a k = none := by
    unfold mvK; rw [List.find?_eq_none]
    intro z hz q
    have := ha'.1 z hz
    rw [of_decide_eq_true q, ← hk, ltK_irr] at this; cases this
   have n2 : mvK b k = none := by
    unfold mvK; rw [List.find?_eq_none]
    intro z hz q
    have := hb'.1 z hz
    rw [of_decide_eq_true q, ← hk, ltK_irr] at this; cases this
   rw [n1, n2]
  ·have := h k
   unfold mvK at this ⊢
   rw [List.find?_cons, List.find?_cons, decide_eq_false hk] at this
   exact this
theorem mem_putM {l : List MoveD} (hs : srtM l) {m x : MoveD} : x ∈ putM l m ↔ x = m ∨ (x ∈ l ∧ x.key ≠ m.key) := by
 unfold putM
 split
 ·rename_i hh
  obtain ⟨y, hy⟩ := hasM_lt hs hh
  have hp := (List.getElem?_eq_some_iff.1 hy).1
  have hyk : y.key = m.key := by
   have := posM_has (k := m.key) hs
   rw [hh, hy] at this
   simpa using this
  constructor
  ·intro hx
   obtain ⟨i, hi⟩ := List.mem_iff_getElem?.1 hx
   rw [List.getElem?_set] at hi
   split at hi
   ·try rw [if_pos hp] at hi
    injection hi with hi; exact .inl hi.symm
   ·rename_i hne
    exact .inr ⟨List.mem_of_getElem? hi, fun e => hne (posM_at hs hi e)⟩
  ·rintro (rfl | ⟨hx, hk⟩)
   ·exact List.mem_of_getElem? (i := posM l x.key) (by rw [List.getElem?_set_self hp])
   ·obtain ⟨i, hi⟩ := List.mem_iff_getElem?.1 hx
    have hne : posM l m.key ≠ i := fun e => hk (by rw [← e, hy] at hi; injection hi with hi; rw [← hi, hyk])
    exact List.mem_of_getElem? (i := i) (by rw [List.getElem?_set_ne hne, hi])
 ·rename_i hh
  have hall : ∀ z, z ∈ l ↔ z ∈ l.take (posM l m.key) ∨ z ∈ l.drop (posM l m.key) := fun z => by
   conv => lhs; rw [← List.take_append_drop (posM l m.key) l, List.mem_append]
  rw [List.mem_append, List.mem_append, List.mem_singleton]
  constructor
  ·rintro ((h | h) | h)
   ·exact .inr ⟨(hall x).2 (.inl h), fun e => hh (List.any_eq_true.2 ⟨x, (hall x).2 (.inl h), by simp [e]⟩)⟩
   ·exact .inl h
   ·exact .inr ⟨(hall x).2 (.inr h), fun e => hh (List.any_eq_true.2 ⟨x, (hall x).2 (.inr h), by simp [e]⟩)⟩
  ·rintro (h | ⟨h, _⟩)
   ·exact .inl (.inr h)
   ·rcases (hall x).1 h with h | h
    ·exact .inl (.inl h)
    ·exact .inr h
theorem mvK_put {l : List MoveD} (hs : srtM l) (m : MoveD) (k : KeyD) : mvK (putM l m) k = if m.key = k then some m else mvK l k := by
 apply Option.ext
 intro x
 show mvK (putM l m) k = some x ↔ _ = some x
 rw [mvK_some (srt_put hs m), mem_putM hs]
 by_cases h : m.key = k
 ·rw [if_pos h]
  constructor
  ·rintro ⟨rfl | ⟨_, h2⟩, h3⟩
   ·rfl
   ·exact absurd (h3.trans h.symm) h2
  ·intro e; injection e with e; subst e; exact ⟨.inl rfl, h⟩
 ·rw [if_neg h, mvK_some hs]
  constructor
  ·rintro ⟨rfl | ⟨h1, _⟩, h3⟩
   ·exact absurd h3 h
   ·exact ⟨h1, h3⟩
  ·rintro ⟨h1, h3⟩; exact ⟨.inr ⟨h1, fun e => h (e.symm.trans h3)⟩, h3⟩
theorem mvK_rest {g : KeyD → MoveD} (hg : ∀ k, (g k).key = k) {k : KeyD} : ∀ (ks : List KeyD) {ms : List MoveD}, srtM ms → mvK (ks.foldl (restP g) ms) k = if hasM ms k = true then mvK ms k else if k ∈ ks then some (g k) else none
 | [], ms, hs => by
  cases hh : hasM ms k
  ·simp [mvK_none.2 hh]
  ·simp
 | a :: ks, ms, hs => by
  rw [List.foldl_cons, mvK_rest hg ks (restP_srt hs a).1]
  unfold restP
  cases ha : hasM ms a
  ·simp only [Bool.false_eq_true, if_false]
   rw [has_put hs, hg, mvK_put hs, hg]
   by_cases hk : a = k
   ·subst hk
    simp [ha]
   ·have hk' : ¬ k = a := fun e => hk e.symm
    simp [hk, hk']
  ·simp only [if_true]
   by_cases hk : a = k
   ·subst hk
    simp [ha]
   ·have hk' : ¬ k = a := fun e => hk e.symm
    simp [hk']
theorem rest_eq {g g' : KeyD → MoveD} {ks ks' : List KeyD} {ms : List MoveD} (hs : srtM ms) (hg : ∀ k, (g k).key = k) (hg' : ∀ k, (g' k).key = k) (h : ∀ k, k ∈ ks ↔ k ∈ ks') (hgg : ∀ k ∈ ks, g k = g' k) : ks.foldl (restP g) ms = ks'.foldl (restP g') ms := by
 refine mvK_ext (rest_fold ks hs).1 (rest_fold ks' hs).1 fun k => ?_
 rw [mvK_rest hg ks hs, mvK_rest hg' ks' hs]
 by_cases hk : k ∈ ks
 ·rw [if_pos hk, if_pos ((h k).1 hk), hgg k hk]
 ·rw [if_neg hk, if_neg (fun q => hk ((h k).2 q))]
end Go.Proofs.Ytphgchakmkankaa

namespace Go.Proofs.Ytphgchakmkankaa
set_option linter.unusedSectionVars false
set_option linter.unusedVariables false
set_option linter.unusedSimpArgs false
open HP
theorem loopC_of {R : Type} {f : List AV → Heap → (AX × List AV × Heap → Option R) → Option R} {v : List AV} {σ : Heap} {K : AX × List AV × Heap → Option R} {r : R} (h : ∃ n, ∀ m, n ≤ m → A.iterC f m v σ K = some r) : A.loopC f v σ K = some r := by
 have hx : ∃ r, ∃ n, ∀ m, n ≤ m → A.iterC f m v σ K = some r := ⟨r, h⟩
 unfold A.loopC
 rw [dif_pos hx]
 obtain ⟨n, hn⟩ := h
 obtain ⟨n', hn'⟩ := Classical.choose_spec hx
 have a := hn (n + n') (by omega)
 have b := hn' (n + n') (by omega)
 rw [a] at b; exact b.symm
theorem bounds {P : Nat → Nat → Prop} : ∀ (n : Nat), (∀ j, j < n → ∃ N, ∀ m, N ≤ m → P j m) → ∃ N, ∀ j, j < n → ∀ m, N ≤ m → P j m
 | 0, _ => ⟨0, fun j h => by omega⟩
 | n + 1, h => by
  obtain ⟨N, hN⟩ := bounds n (fun j hj => h j (by omega))
  obtain ⟨M, hM⟩ := h n (by omega)
  refine ⟨N + M, fun j hj m hm => ?_⟩
  by_cases e : j = n
  ·subst e; exact hM m (by omega)
  ·exact hN j (by omega) m (by omega)
theorem map_erase {α β : Type} (f : α → β) (l : List α) (j : Nat) : (l.map f).eraseIdx j = (l.eraseIdx j).map f := by
 rw [List.eraseIdx_eq_take_drop_succ, List.eraseIdx_eq_take_drop_succ, List.map_append, List.map_take, List.map_drop]
theorem perm_at {α : Type} {l : List α} {j : Nat} (hj : j < l.length) : (l[j] :: l.eraseIdx j).Perm l := by
 have e : l = l.take j ++ l[j] :: l.drop (j + 1) := by rw [List.getElem_cons_drop, List.take_append_drop]
 rw [List.eraseIdx_eq_take_drop_succ]
 conv => rhs; rw [e]
 exact List.perm_middle.symm
theorem range_loop {α R : Type} {ex : Nat} {enc : α → AV × AV} {it : Nat} {f : List AV → Heap → (AX × List AV × Heap → Option R) → Option R} {K : AX × List AV × Heap → Option R} {r : R} {es : List α}
  (body : List AV → Heap → (AX × List AV × Heap → Option R) → Option R) (ev : List AV → List AV)
  (hf : ∀ v s k, f v s k = A.nextA (.op it 0) s fun x s' => (A.ext 0 x).bind fun c => A.cond c (body v s' k) (k (.exit ex, ev v, s')))
  (I : List α → List α → List AV → Heap → Prop) (hget : ∀ d l v s, I d l v s → ∃ c, s[it]? = some (.it c (l.map enc)))
  (hstep : ∀ d l v s j p, (d ++ l).Perm es → I d l v s → l[j]? = some p → ∃ v' s', (∀ k, body v (s.set it (.it [enc p] ((l.eraseIdx j).map enc))) k = k (.normal, v', s')) ∧ I (d ++ [p]) (l.eraseIdx j) v' s')
  (hend : ∀ d v s, d.Perm es → I d [] v s → K (.exit ex, ev v, s) = some r) {v0 : List AV} {s0 : Heap} (h0 : I [] es v0 s0) : A.loopC f v0 s0 K = some r := by
 have key : ∀ (n : Nat) (d l : List α) v s, l.length = n → (d ++ l).Perm es → I d l v s → ∃ N, ∀ m, N ≤ m → A.iterC f m v s K = some r := by
  intro n
  induction n with
  | zero =>
   intro d l v s hl hp hI
   have : l = [] := List.eq_nil_of_length_eq_zero hl
   subst this
   refine ⟨1, fun m hm => ?_⟩
   obtain ⟨m', rfl⟩ : ∃ m', m = m' + 1 := ⟨m - 1, by omega⟩
   obtain ⟨c, hc⟩ := hget _ _ _ _ hI
   rw [A.iterC, hf]
   simp only [A.nextA, hc, List.map_nil]
   exact hend d v s (by simpa using hp) hI
  | succ n ih =>
   intro d l v s hl hp hI
   obtain ⟨c, hc⟩ := hget _ _ _ _ hI
   have hb : ∀ j, j < l.length → ∃ N, ∀ m, N ≤ m → ∀ p, l[j]? = some p → body v (s.set it (.it [enc p] ((l.eraseIdx j).map enc))) (fun q => match q.1 with | .normal => A.iterC f m q.2.1 q.2.2 K | _ => K q) = some r := by
    intro j hj
    have hx : l[j]? = some l[j] := List.getElem?_eq_getElem hj
    obtain ⟨v', s', h1, h2⟩ := hstep d l v s j _ hp hI hx
    have hp2 : ((d ++ [l[j]]) ++ l.eraseIdx j).Perm es := by
     rw [List.append_assoc, List.singleton_append]
     exact ((perm_at hj).append_left d).trans hp
    obtain ⟨N, hN⟩ := ih _ _ _ _ (by rw [List.length_eraseIdx, if_pos hj]; omega) hp2 h2
    refine ⟨N, fun m hm p hpp => ?_⟩
    rw [hx] at hpp; injection hpp with hpp; subst hpp
    rw [h1]
    exact hN m hm
   obtain ⟨N, hN⟩ := bounds l.length hb
   refine ⟨N + 1, fun m hm => ?_⟩
   obtain ⟨m', rfl⟩ : ∃ m', m = m' + 1 := ⟨m - 1, by omega⟩
   rw [A.iterC, hf]
   cases l with
   | nil => simp at hl
   | cons e l =>
    simp only [A.nextA, hc, List.map_cons]
    refine all_of 0 (by simp) fun j hj => ?_
    have hj' : j < (e :: l).length := by simpa using hj
    have hx : (e :: l)[j]? = some (e :: l)[j] := List.getElem?_eq_getElem hj'
    have hx2 : (enc e :: l.map enc)[j]? = some (enc (e :: l)[j]) := by
     rw [← List.map_cons, List.getElem?_map, hx]; rfl
    have := hN j hj' m' (by omega) _ hx
    simp only [hx2]
    rw [← List.map_cons, map_erase]
    exact this
 exact loopC_of (key _ [] es v0 s0 rfl (List.Perm.refl _) h0)
def encS (p : KeyD × EntryD) : AV × AV := (.agg (cKey p.1), .agg (cEntry p.2))
section
variable {σ0 σ : Heap} {R : HP}
end
end Go.Proofs.Ytphgchakmkankaa

namespace Go.Proofs.Ytphgchakmkankaa
set_option linter.unusedSectionVars false
set_option linter.unusedVariables false
set_option linter.unusedSimpArgs false
open HP
theorem tupd_len {ν : Type} (k : KeyD) (v : ν) : ∀ s : List (KeyD × ν), (tupd k v s).length ≤ s.length + 1
 | [] => by simp [tupd]
 | (a, b) :: s => by
  rw [tupd]
  split
  ·simp
  ·have := tupd_len k v s; simp; omega
theorem tdel_len {ν : Type} (k : KeyD) : ∀ s : List (KeyD × ν), (tdel k s).length ≤ s.length
 | [] => by simp [tdel]
 | (a, b) :: s => by
  rw [tdel]
  split
  ·simp
  ·have := tdel_len k s; simp; omega
theorem stepM_len (n : Int) (s : List (KeyD × EntryD)) (m : MoveD) : (stepM n s m).length ≤ s.length + 1 := by
 unfold stepM
 split
 ·have := tdel_len m.key s; omega
 ·exact tupd_len _ _ _
theorem stepsM_len (n : Int) : ∀ (ms : List MoveD) (s : List (KeyD × EntryD)), (ms.foldl (stepM n) s).length ≤ s.length + ms.length
 | [], s => Nat.le_refl _
 | m :: ms, s => by
  rw [List.foldl_cons]
  have := stepsM_len n ms (stepM n s m)
  have := stepM_len n s m
  simp; omega
theorem state_len {l : List CueD} (hm : ∀ c ∈ l, c.moves.length ≤ 2000) : (stateF l).length ≤ l.length * 2000 := by
 unfold stateF
 have key : ∀ (l : List CueD) (s : List (KeyD × EntryD)), (∀ c ∈ l, c.moves.length ≤ 2000) → (l.foldl (fun s c => c.moves.foldl (stepM c.number) s) s).length ≤ s.length + l.length * 2000 := by
  intro l
  induction l with
  | nil => intro s _; simp
  | cons c l ih =>
   intro s h
   rw [List.foldl_cons]
   have h1 := ih (c.moves.foldl (stepM c.number) s) (fun x hx => h x (by simp [hx]))
   have h2 := stepsM_len c.number c.moves s
   have h3 := h c (by simp)
   simp only [List.length_cons, Nat.add_mul]
   omega
 have := key l [] hm
 simpa using this
theorem doneF_pair (o : List CueD) : doneF o = (if formF o = 0 then o else [], formF o) := by
 unfold doneF; split
 ·rename_i h; rw [h]
 ·rfl
theorem nn_two {l : List CueD} {e : Int} : A.nn (.t [(.e 11 [.k, .k, .k, .k, .k, .k, .k, .s 2, .k, .k, .s 8]), .k]) (.tup [sl 11 cCue l, .int .i64 e]) = .tup [sl 11 cCue l, .int .i64 e] := nn_ret (nn_idem_cues l)
theorem mem_stepE {n : Int} {st : List EntryD} {m : MoveD} {e : EntryD} (h : e ∈ stepE n st m) : e ∈ st ∨ e = ⟨m.key, m.value, n⟩ := by
 have h1 : ∀ e, e ∈ (if hasE st m.key = true then st.eraseIdx (posE st m.key) else st) → e ∈ st := fun e he => by
  split at he
  ·exact List.mem_of_mem_eraseIdx he
  ·exact he
 unfold stepE at h
 simp only at h
 split at h
 ·exact .inl (h1 e h)
 ·simp only [List.mem_append, List.mem_singleton] at h
  rcases h with (h | h) | h
  ·exact .inl (h1 e (List.mem_of_mem_take h))
  ·exact .inr h
  ·exact .inl (h1 e (List.mem_of_mem_drop h))
theorem before_all {P : EntryD → Prop} {l : List CueD} (h : ∀ c ∈ l, ∀ m ∈ c.moves, P ⟨m.key, m.value, c.number⟩) : ∀ e ∈ beforeF l, P e := by
 have inner : ∀ (n : Int) (ms : List MoveD) (s : List EntryD), (∀ m ∈ ms, P ⟨m.key, m.value, n⟩) → (∀ p ∈ s, P p) → ∀ p ∈ ms.foldl (stepE n) s, P p := by
  intro n ms
  induction ms with
  | nil => intro s _ h; exact h
  | cons m ms ih =>
   intro s hm hs
   refine ih _ (fun x hx => hm x (by simp [hx])) (fun p hp => ?_)
   rcases mem_stepE hp with hp | rfl
   ·exact hs p hp
   ·exact hm m (by simp)
 have key : ∀ (l : List CueD) (s : List EntryD), (∀ c ∈ l, ∀ m ∈ c.moves, P ⟨m.key, m.value, c.number⟩) → (∀ p ∈ s, P p) → ∀ p ∈ l.foldl afterF s, P p := by
  intro l
  induction l with
  | nil => intro s _ h; exact h
  | cons c l ih =>
   intro s hl hs
   exact ih _ (fun x hx => hl x (by simp [hx])) (inner c.number c.moves s (hl c (by simp)) hs)
 exact key l [] h (by simp)
theorem key_ok {P : KeyD → Prop} {l : List CueD} (h : ∀ c ∈ l, ∀ m ∈ c.moves, P m.key) : ∀ e ∈ beforeF l, P e.key := before_all (P := fun e => P e.key) h
section
variable {σ0 σ : Heap} {R : HP}
end
end Go.Proofs.Ytphgchakmkankaa

namespace Go.Proofs.Ytphgchakmkankaa
set_option linter.unusedSectionVars false
set_option linter.unusedVariables false
set_option linter.unusedSimpArgs false
open HP
section
variable {σ0 σ : Heap} {R : HP}
theorem fin_tupS {α : Type} {c : α → List AV} {sz : Nat} {B : Blk → Prop} {v : AV} {l : List α} {e : Int} (hc : ∀ x, FzL (c x)) (H : Hs B σ0 σ (Sl (fl c) sz v l * R)) : ∃ v', A.fin σ0 (.tup [v, .int .i64 e]) σ = some (.tup [v', .int .i64 e], σ0) ∧ A.nn (.s sz) v' = sl sz c l := by
 obtain ⟨v', h1, h2, h3⟩ := slf_fz H hc (Nat.le_refl _) 7
 refine ⟨v', fin_hs (hs_any H) (by simp [A.frz, A.frzL, h1]) (fun e => ?_), h3⟩
 rcases slf_cases H with ⟨rfl, rfl | rfl, _⟩ | ⟨id, g, rfl, K⟩
 ·simp [A.frz] at h1; rw [h1]
 ·simp [A.frz] at h1; rw [h1]
 ·obtain ⟨k1, k2⟩ := hs_get K
  have := (List.getElem?_eq_some_iff.1 k2).1
  subst e; omega
theorem nn_retS {α : Type} {c : α → List AV} {sz : Nat} {v : AV} {l : List α} {e : Int} (h : A.nn (.s sz) v = sl sz c l) : A.nn (.t [(.s sz), .k]) (.tup [v, .int .i64 e]) = .tup [sl sz c l, .int .i64 e] := by
 simp only [A.nn, A.nnL] at h ⊢
 rw [h]
def stateRes (l : List CueD) (n : Int) : List EntryD × Int :=
 if ¬ (formF l = 0) then ([], formF l) else if hasC l n = false then ([], 8) else (beforeF (l.take (posC l n + 1)), 0)
theorem beforeF_bound {l : List CueD} (hlen : l.length ≤ 300) (hm : ∀ c ∈ l, c.moves.length ≤ 2000) : srtE (beforeF l) ∧ (beforeF l).length ≤ 600000000 := by
 obtain ⟨b1, b2⟩ := before_inv (l := l) (fun c hc => by have := hm c hc; omega) 0 [] List.Pairwise.nil (Nat.zero_le _)
 exact ⟨b1, by unfold beforeF; omega⟩
end
end Go.Proofs.Ytphgchakmkankaa

namespace Go.Proofs.Ytphgchakmkankaa
set_option linter.unusedSectionVars false
set_option linter.unusedVariables false
set_option linter.unusedSimpArgs false
open HP Go.Sort
theorem gdF (X d : Option AV) : A.guard (.bool false) false X d = X := rfl
theorem gdT (X d : Option AV) : A.guard (.bool true) true X d = X := rfl
theorem gdFx (X d : Option AV) : A.guard (.bool true) false X d = d := rfl
theorem gdTx (X d : Option AV) : A.guard (.bool false) true X d = d := rfl
theorem pkF (x y : AV) : A.pick (.bool false) x y = some y := rfl
theorem pkT (x y : AV) : A.pick (.bool true) x y = some x := rfl
theorem notT : A.not (.bool true) = some (.bool false) := rfl
theorem notF : A.not (.bool false) = some (.bool true) := rfl
theorem pw_ext {α : Type} {r : α → α → Prop} (irr : ∀ x, ¬ r x x) (tr : ∀ x y z, r x y → r y z → r x z) : ∀ {a b : List α}, a.Pairwise r → b.Pairwise r → (∀ x, x ∈ a ↔ x ∈ b) → a = b
 | [], [], _, _, _ => rfl
 | [], y :: b, _, _, h => by have := (h y).2 (by simp); simp at this
 | x :: a, [], _, _, h => by have := (h x).1 (by simp); simp at this
 | x :: a, y :: b, ha, hb, h => by
  have ha' := List.pairwise_cons.1 ha
  have hb' := List.pairwise_cons.1 hb
  have hxy : x = y := by
   rcases List.mem_cons.1 ((h x).1 (by simp)) with e | m1
   ·exact e
   rcases List.mem_cons.1 ((h y).2 (by simp)) with e | m2
   ·exact e.symm
   exact (irr y (tr _ _ _ (hb'.1 x m1) (ha'.1 y m2))).elim
  subst hxy
  congr 1
  refine pw_ext irr tr ha'.2 hb'.2 fun z => ⟨fun hz => ?_, fun hz => ?_⟩
  ·rcases List.mem_cons.1 ((h z).1 (by simp [hz])) with e | m
   ·exact (irr x (e ▸ ha'.1 z hz)).elim
   ·exact m
  ·rcases List.mem_cons.1 ((h z).2 (by simp [hz])) with e | m
   ·exact (irr x (e ▸ hb'.1 z hz)).elim
   ·exact m
theorem pdqL_spec {α : Type} [Inhabited α] {cf : α → α → Int} (hS : SWO (fun x y => decide (cf x y < 0))) (l : List α) : (pdqL cf l).Perm l ∧ (pdqL cf l).Pairwise fun x y => ¬ cf y x < 0 := by
 obtain ⟨⟨h1, _, h3⟩, h2⟩ := pdq_sorts (fun x y => decide (cf x y < 0)) hS l.toArray 0 l.length (Lib.bitLen l.length) true true (Nat.zero_le _) (by simp) (Or.inl rfl)
 unfold pdqL
 generalize pdq (fun x y => decide (cf x y < 0)) l.toArray 0 l.length (Lib.bitLen l.length) true true = d' at h1 h2 h3
 have hs : d'.size = l.length := by simpa using h1
 refine ⟨?_, ?_⟩
 ·have e1 : d'.extract 0 l.length = d' := by rw [← hs]; simp
  have e2 : l.toArray.extract 0 l.length = l.toArray := by simp
  rw [e1, e2] at h3
  exact h3
 ·rw [List.pairwise_iff_getElem]
  intro i j hi hj hij
  simp only [Array.length_toList] at hi hj
  have := h2 i j (Nat.zero_le _) hij (by omega)
  simp only [getElem!_pos d' i hi, getElem!_pos d' j hj] at this
  simpa using this
theorem pdqL_srt {α : Type} [Inhabited α] (f : α → KeyD) {l : List α} (hn : ∀ x ∈ l, ∀ y ∈ l, f x = f y → x = y) (hd : l.Nodup) : (pdqL (fun a b => cmpKey (f a) (f b)) l).Pairwise fun a b => ltK (f a) (f b) = true := by
 obtain ⟨h1, h2⟩ := pdqL_spec (swo_key f) l
 have hnd : (pdqL (fun a b => cmpKey (f a) (f b)) l).Pairwise (fun x y => x ≠ y) := (h1.nodup_iff).2 hd
 refine List.Pairwise.imp_of_mem (R := fun x y => (¬ cmpKey (f y) (f x) < 0) ∧ x ≠ y) ?_ (h2.and hnd)
 rintro x y hx hy ⟨q1, q2⟩
 cases e : ltK (f x) (f y)
 ·exfalso
  have e2 : ltK (f y) (f x) = false := by
   cases e2 : ltK (f y) (f x)
   ·rfl
   ·exact absurd ((cmpKey_lt _ _).2 e2) q1
  exact q2 (hn x (h1.mem_iff.1 hx) y (h1.mem_iff.1 hy) (ltK_tri e e2))
 ·rfl
theorem lookE_some {l : List EntryD} (h : srtE l) {k : KeyD} {x : EntryD} : lookE l k = some x ↔ x ∈ l ∧ x.key = k := by
 constructor
 ·intro e
  exact ⟨List.mem_of_find?_eq_some e, of_decide_eq_true (List.find?_some (p := fun m : EntryD => decide (m.key = k)) e)⟩
 ·rintro ⟨hm, hk⟩
  cases e : lookE l k with
  | none =>
   have := List.find?_eq_none.1 e x hm
   simp [hk] at this
  | some y =>
   have hy := List.mem_of_find?_eq_some e
   have hyk : y.key = k := of_decide_eq_true (List.find?_some (p := fun m : EntryD => decide (m.key = k)) e)
   obtain ⟨i, hi⟩ := List.mem_iff_getElem?.1 hm
   obtain ⟨j, hj⟩ := List.mem_iff_getElem?.1 hy
   have e1 := posE_at h hi hk
   have e2 := posE_at h hj hyk
   rw [← e1, e2, hj] at hi
   exact hi
theorem tfind_mem {k : KeyD} {v : EntryD} : ∀ {s : List (KeyD × EntryD)}, nodK s → (tfind k s = some v ↔ (k, v) ∈ s)
 | [], _ => by simp [tfind]
 | (a, b) :: s, h => by
  unfold nodK at h
  rw [List.map_cons, List.nodup_cons] at h
  rw [tfind]
  by_cases e : k = a
  ·subst e
   rw [if_pos rfl]
   constructor
   ·intro q; injection q with q; simp [q]
   ·intro q
    rcases List.mem_cons.1 q with q | q
    ·injection q with _ q; rw [q]
    ·exact (h.1 (List.mem_map.2 ⟨_, q, rfl⟩)).elim
  ·rw [if_neg e, tfind_mem h.2]
   constructor
   ·intro q; exact List.mem_cons_of_mem _ q
   ·intro q
    rcases List.mem_cons.1 q with q | q
    ·injection q with q _; exact (e q).elim
    ·exact q
def ownK (s : List (KeyD × EntryD)) : Prop := ∀ p ∈ s, p.2.key = p.1
theorem mem_upd2 {ν : Type} {k : KeyD} {v : ν} : ∀ {s : List (KeyD × ν)} {x : KeyD × ν}, x ∈ tupd k v s → x ∈ s ∨ x = (k, v)
 | [], x, h => by simp [tupd] at h; exact .inr h
 | (a, b) :: s, x, h => by
  rw [tupd] at h
  split at h
  ·rcases List.mem_cons.1 h with rfl | h
   ·exact .inr rfl
   ·exact .inl (List.mem_cons_of_mem _ h)
  ·rcases List.mem_cons.1 h with rfl | h
   ·exact .inl List.mem_cons_self
   ·rcases mem_upd2 h with h | h
    ·exact .inl (List.mem_cons_of_mem _ h)
    ·exact .inr h
theorem ownK_state (l : List CueD) : ownK (stateF l) := by
 have inner : ∀ (n : Int) (ms : List MoveD) (s : List (KeyD × EntryD)), ownK s → ownK (ms.foldl (stepM n) s) := by
  intro n ms
  induction ms with
  | nil => intro s h; exact h
  | cons m ms ih =>
   intro s hs
   refine ih _ (fun p hp => ?_)
   unfold stepM at hp
   split at hp
   ·exact hs p (mem_del hp)
   ·rcases mem_upd2 hp with hp | hp
    ·exact hs p hp
    ·rw [hp]
 have key : ∀ (l : List CueD) (s : List (KeyD × EntryD)), ownK s → ownK (l.foldl (fun s c => c.moves.foldl (stepM c.number) s) s) := by
  intro l
  induction l with
  | nil => intro s h; exact h
  | cons c l ih => intro s hs; exact ih _ (inner c.number c.moves s hs)
 exact key l [] (by intro p hp; cases hp)
theorem state_sorted {s d : List (KeyD × EntryD)} {st : List EntryD} (hS : SameS s st) (hk : ownK s) (hp : d.Perm s) [Inhabited EntryD] : pdqL (fun a b : EntryD => cmpKey a.key b.key) (d.map (·.2)) = st := by
 obtain ⟨h1, h2, h3⟩ := hS
 have hd1 : nodK d := by
  unfold nodK at h1 ⊢
  exact ((hp.map (·.1)).nodup_iff).2 h1
 have hkd : ownK d := fun p hp' => hk p (hp.mem_iff.1 hp')
 have he : d.map (·.1) = (d.map (·.2)).map (·.key) := by
  rw [List.map_map]
  exact (List.map_congr_left fun p hp' => (hkd p hp').symm)
 have hnk : ((d.map (·.2)).map (·.key)).Nodup := by rw [← he]; exact hd1
 have hinj : ∀ x ∈ d.map (·.2), ∀ y ∈ d.map (·.2), x.key = y.key → x = y := by
  intro x hx y hy e
  obtain ⟨i, hi⟩ := List.mem_iff_getElem?.1 hx
  obtain ⟨j, hj⟩ := List.mem_iff_getElem?.1 hy
  have hi' := (List.getElem?_eq_some_iff.1 hi).1
  have hij : i = j := by
   refine (List.getElem?_inj (l := (d.map (·.2)).map (·.key)) (by simpa using hi') hnk).1 ?_
   have q1 : ((d.map (·.2)).map (·.key))[i]? = some x.key := by rw [List.getElem?_map, hi]; rfl
   have q2 : ((d.map (·.2)).map (·.key))[j]? = some y.key := by rw [List.getElem?_map, hj]; rfl
   rw [q1, q2, e]
  subst hij
  rw [hi] at hj; injection hj
 have hs := pdqL_srt (f := fun e : EntryD => e.key) hinj ((List.pairwise_map.1 hnk).imp fun h e => h (congrArg _ e))
 refine pw_ext (r := fun a b : EntryD => ltK a.key b.key = true) (fun x q => by rw [ltK_irr] at q; cases q) (fun x y z => ltK_trans) hs h2 fun x => ?_
 have hmem := (pdqL_spec (swo_key fun e : EntryD => e.key) (d.map (·.2))).1.mem_iff (a := x)
 rw [hmem, (hp.map (·.2)).mem_iff]
 constructor
 ·intro hx
  obtain ⟨p, hp1, hp2⟩ := List.mem_map.1 hx
  have hpk := hk p hp1
  have : tfind p.1 s = some p.2 := (tfind_mem h1).2 hp1
  rw [h3] at this
  rw [← hp2]
  exact ((lookE_some h2).1 this).1
 ·intro hx
  have : lookE st x.key = some x := (lookE_some h2).2 ⟨hx, rfl⟩
  rw [← h3] at this
  exact List.mem_map.2 ⟨_, (tfind_mem h1).1 this, rfl⟩
section
variable {σ0 σ : Heap} {R : HP}
theorem sort_own {α : Type} [Inhabited α] {c : α → List AV} {sz : Nat} {cf : α → α → Int} (hinj : ∀ x y, c x = c y → x = y) {v : AV} {l : List α} (hl : l ≠ []) (hlen : l.length < 4611686018427387904) (hS : SWO (fun x y => decide (cf x y < 0))) (H : Hs anyB σ0 σ (Sl (fl c) sz v l * R)) :
  ∃ σ', A.sortG sz c cf v σ = some (.tup [], σ') ∧ Hs anyB σ0 σ' (Sl (fl c) sz v (pdqL cf l) * R) := by
 rcases slf_cases H with ⟨h, _, _⟩ | ⟨id, g, rfl, K⟩
 ·exact absurd h hl
 obtain ⟨_, h2⟩ := hs_get K
 have hp : 0 < l.length := List.length_pos_iff.2 hl
 have hc : (g = g ∧ sz = sz ∧ sz = sz ∧ 0 + l.length ≤ (l.map c).length ∧ 0 < l.length ∧ l.length < 4611686018427387904) ∧ ∃ l' : List α, ((l.map c).drop 0).take l.length = l'.map c :=
  ⟨⟨rfl, rfl, rfl, by simp, hp, hlen⟩, l, by rw [List.drop_zero, List.take_of_length_le (by simp)]⟩
 have hch : Classical.choose hc.2 = l := by
  have h9 := Classical.choose_spec hc.2
  have e9 : ((l.map c).drop 0).take l.length = l.map c := by rw [List.drop_zero, List.take_of_length_le (by simp)]
  exact ((List.map_inj_right hinj).1 (e9.symm.trans h9)).symm
 refine ⟨σ.set id (.arr g sz ((pdqL cf l).map c)), ?_, ?_⟩
 ·unfold A.sortG
  simp only [h2]
  rw [dif_pos hc, hch, List.take_zero, List.nil_append, List.drop_of_length_le (by simp), List.append_nil]
 ·have hle : (pdqL cf l).length = l.length := (pdqL_spec hS l).1.length_eq
  exact slf_os (hs_set (b' := .arr g sz ((pdqL cf l).map c)) K trivial) hle.symm
theorem row_entry (e : EntryD) : (((A.cells 5 (.agg (cEntry e))).bind fun c22 => (A.splice 0 c22 [(AV.int .i64 0), (AV.str ⟨#[]⟩), (AV.int .i64 0), (AV.int .i64 0), (AV.int .i64 0)]).bind fun c23 => some c23).bind fun cs => some (AV.sl 5 (chunks 5 1 cs))) = some (.sl 5 [cEntry e]) := rfl
theorem appE {B : Blk → Prop} {v : AV} {l : List EntryD} (k : EntryD) (hl : l.length < 1000000) (hB : ∀ g g' seg, (seg = [] ∨ B (.arr g 5 seg)) → B (.arr g' 5 (seg ++ [cEntry k]))) (H : Hs B σ0 σ (Sl (fl cEntry) 5 v l * R)) :
  ∃ v' σ', A.append 5 (140737488355328 / 48) v (.sl 5 [cEntry k]) σ = some (v', σ') ∧ Hs B σ0 σ' (Sl (fl cEntry) 5 v' (l ++ [k]) * R) :=
 sl_app (ys := [cEntry k]) (xs := [k]) (hs_eq (show pr (cEntry k = cEntry k) * (Sl (fl cEntry) 5 v l * R) = _ by
  rw [show els (fl cEntry) [cEntry k] [k] = pr (cEntry k = cEntry k) * emp from rfl, star_assoc, emp_star]; ac_rfl) (hs_pr.2 ⟨rfl, H⟩)) (by simp; omega) hB
theorem State_t {l : List CueD} (hl : okL okCue l) {n : Int} (hn : inI n) (σ : Heap) : m_cue_State [sl 11 cCue l, .int .i64 n] σ = some (.tup [sl 5 cEntry (stateRes l n).1, .int .i64 (stateRes l n).2], σ) := by
 have run : r_cue_State (sl 11 cCue l) (.int .i64 n) σ = some (.tup [sl 5 cEntry (stateRes l n).1, .int .i64 (stateRes l n).2], σ) := by
  unfold r_cue_State stateRes
  rw [h_cue_form (form_t l hl), Option.bind_some, aNeI, Option.bind_some]
  by_cases hf : formF l = 0
  case neg =>
   rw [decide_eq_true hf, cnd_t, if_pos hf, fin_same, Option.map_some]
   exact congrArg (fun z => some (z, σ)) (nn_retS rfl)
  have hg := good_of hf
  have hlen := hg.len
  rw [decide_eq_false (by simp [hf]), cnd_f, if_neg (by simp [hf])]
  obtain ⟨p, e1, e2, e3⟩ := place_t hg hn σ
  rw [e1, Option.bind_some, ext0, Option.bind_some, ext1, Option.bind_some, show A.not (.bool (hasC l n)) = some (.bool (!hasC l n)) from rfl, Option.bind_some]
  cases hh : hasC l n
  ·rw [show (!false) = true from rfl, cnd_t, if_pos rfl, fin_same, Option.map_some]
   exact congrArg (fun z => some (z, σ)) (nn_retS rfl)
  rw [show (!true) = false from rfl, cnd_f, if_neg (by decide)]
  have e4 := e3 (.inr hh)
  subst e4
  obtain ⟨x, hx, hxn⟩ := hasC_at hg hh
  generalize posC l n = a at hx ⊢
  have hal := (List.getElem?_eq_some_iff.1 hx).1
  obtain ⟨st, hst⟩ : ∃ st, st = stateF (l.take (a + 1)) := ⟨_, rfl⟩
  have hS : SameS st (beforeF (l.take (a + 1))) := hst ▸ same_state _
  have hk : ownK st := hst ▸ ownK_state _
  have hsl : st.length ≤ 600000 := by
   have h1 := state_len (l := l.take (a + 1)) (fun c hc => (hg.mv c (List.mem_of_mem_take hc)).1)
   have h2 : (l.take (a + 1)).length ≤ 300 := by simp; omega
   rw [hst]
   exact Nat.le_trans h1 (Nat.mul_le_mul_right 2000 h2)
  have hcs : m_cue_state [sl 11 cCue (l.take (a + 1))] σ = some (fmS st, σ) := by
   rw [hst]
   exact h_cue_state (state_t (by simp; unfold mxl; omega) (fun c hc => by have := (hg.mv c (List.mem_of_mem_take hc)).1; unfold mxl; omega))
  rw [tadd1 (by omega), Option.bind_some, show A.sliceS 11 (sl 11 cCue l) none (some (.int .i64 ((a + 1 : Nat) : Int))) σ = some (sl 11 cCue (l.take (a + 1))) from sliceS_take 11 cCue l (by omega), Option.bind_some, hcs, Option.bind_some]
  rw [show A.rangeA (fmS st) = some (st.map encS) from rfl, Option.bind_some]
  simp only
  refine range_loop (α := KeyD × EntryD) (enc := encS) (it := σ.length) (es := st) _ _ (fun _ _ _ => rfl) (fun d lf w s => ∃ h c, w = [h] ∧ (d = [] → h = .nsl) ∧ Hs anyB σ s (blk σ.length (.it c (lf.map encS)) * (Sl (fl cEntry) 5 h (d.map (·.2)) * emp))) ?_ ?_ ?_ ?_
  ·rintro d lf w s ⟨h, c, rfl, _, K⟩
   exact ⟨c, (hs_get K).2⟩
  ·rintro d lf w s j p hp ⟨h, c, rfl, _, K⟩ hj
   have K' := hs_set (b' := .it [encS p] ((lf.eraseIdx j).map encS)) K trivial
   obtain ⟨_, hgt⟩ := hs_get K'
   generalize s.set σ.length (Blk.it [encS p] ((lf.eraseIdx j).map encS)) = s16 at K' hgt ⊢
   have hdl : d.length ≤ st.length := by have := hp.length_eq; simp at this; omega
   obtain ⟨h', s', g1, K2⟩ := appE p.2 (by simp; omega) (fun _ _ _ _ => trivial) (hs_eq (show _ = Sl (fl cEntry) 5 h (d.map (·.2)) * (blk σ.length (.it [encS p] ((lf.eraseIdx j).map encS)) * emp) by ac_rfl) K')
   have hent : A.entryA (.op σ.length 0) s16 = some (.tup [.agg (cKey p.1), .agg (cEntry p.2)]) := by simp only [A.entryA, hgt]; rfl
   refine ⟨[h'], s', fun k => ?_, h', _, rfl, fun q => by simp at q, hs_eq (by rw [List.map_append]; show Sl (fl cEntry) 5 h' (d.map (·.2) ++ [p.2]) * _ = _; ac_rfl) K2⟩
   rw [hent, Option.bind_some, ext1, Option.bind_some, show A.cells 5 (.agg (cEntry p.2)) = some (cEntry p.2) from rfl, Option.bind_some, sp_cEntry p.2 _ rfl, Option.bind_some, show A.partA 0 5 (cEntry p.2) = some (.agg (cEntry p.2)) from rfl, Option.bind_some, row_entry, Option.bind_some]
   simp only [List.getD_cons_zero]
   rw [g1, Option.bind_some]
  ·rintro d w s hp ⟨h, c, rfl, hnil, K⟩
   have K2 := hs_drop K
   simp only [exb, List.getD_cons_zero]
   letI : Inhabited EntryD := ⟨⟨⟨0, ⟨#[]⟩⟩, ⟨0, 0⟩, 0⟩⟩
   have hsort : ∃ s', m_slices_SortFunc_Entry [h, .fn 297 []] s = some (.tup [], s') ∧ Hs anyB σ s' (Sl (fl cEntry) 5 h (beforeF (l.take (a + 1))) * emp) := by
    have hres := state_sorted hS hk hp
    by_cases hd : d = []
    ·subst hd
     rw [hnil rfl] at K2 ⊢
     refine ⟨s, rfl, ?_⟩
     rw [List.map_nil] at hres K2
     have : beforeF (l.take (a + 1)) = [] := by
      rw [← hres]
      exact List.eq_nil_of_length_eq_zero (by rw [(pdqL_spec (swo_key fun e : EntryD => e.key) []).1.length_eq]; rfl)
     rw [this]; exact K2
    ·have hdl : d.length ≤ st.length := by have := hp.length_eq; omega
     obtain ⟨s', g1, K3⟩ := sort_own (cf := fun a b : EntryD => cmpKey a.key b.key) cEntry_inj (by simpa using hd) (by simp; omega) (swo_key fun e : EntryD => e.key) K2
     rw [hres] at K3
     exact ⟨s', g1, K3⟩
   obtain ⟨s', g1, K3⟩ := hsort
   rw [g1, Option.bind_some]
   obtain ⟨v', j1, j2⟩ := fin_tupS (e := 0) fz_cEntry K3
   rw [j1, Option.map_some]
   exact congrArg (fun z => some (z, σ)) (nn_retS j2)
  ·have K2 := hs_new (b := Blk.it [] (st.map encS)) (hs_nil (B := anyB) σ) trivial
   refine ⟨.nsl, [], rfl, fun _ => rfl, ?_⟩
   rw [List.map_nil]
   exact hs_eq (show _ = blk σ.length (Blk.it [] (st.map encS)) * (Sl (fl cEntry) 5 .nsl [] * emp) by ac_rfl) (slz (v := .nsl) (E := fl cEntry) (sz := 5) K2 (.inl rfl))
 refine wrap_eq rfl ?_ (nn_retS (v := sl 5 cEntry (stateRes l n).1) rfl)
 rw [show A.nnL [Sh.e 11 [.k, .k, .k, .k, .k, .k, .k, .s 2, .k, .k, .s 8]] [sl 11 cCue l, .int .i64 n] = [sl 11 cCue l, .int .i64 n] from nn_arg1 l _]
 exact run
end
end Go.Proofs.Ytphgchakmkankaa

namespace Go.Proofs.Ytphgchakmkankaa
set_option linter.unusedSectionVars false
set_option linter.unusedVariables false
set_option linter.unusedSimpArgs false
open HP Go.Sort
def cpNe (ahead want : List EntryD) (k : KeyD) : Bool := !(decide ((mvOf k (lookE ahead k)).value = (mvOf k (lookE want k)).value) && decide ((mvOf k (lookE ahead k)).release = (mvOf k (lookE want k)).release))
def cpAll (ahead want : List EntryD) : List KeyD := ahead.map (·.key) ++ (want.filter fun e => !hasE ahead e.key).map (·.key)
def cpKs (ahead want : List EntryD) : List KeyD := (cpAll ahead want).filter (cpNe ahead want)
def cpMs (want : List EntryD) (ks : List KeyD) : List MoveD := ks.foldl (fun ms k => putM ms (mvOf k (lookE want k))) []
def cpRow (l : List CueD) (m n : Int) (ms : List MoveD) : CueD := { (l[posC l m]?).getD (newCue n) with number := n, moves := ms }
def cpAt (l : List CueD) (n : Int) : List EntryD := beforeF (l.take (posC l n))
def cpWant (l : List CueD) (m : Int) : List EntryD := beforeF (l.take (posC l m + 1))
def copyTo (l : List CueD) (m n : Int) (ks : List KeyD) : List CueD :=
 setMv (insAt l (posC l n) (cpRow l m n (cpMs (cpWant l m) ks))) (posC l n + 1) fun old => ks.foldl (restP fun k => mvOf k (lookE (cpAt l n) k)) old
def copyF (l : List CueD) (m n : Int) : List CueD := copyTo l m n (cpKs (cpAt l n) (cpWant l m))
def copyRes (l : List CueD) (m n : Int) : List CueD × Int :=
 if ¬ (formF l = 0) then ([], formF l) else if hasC l m = false then ([], 8) else if withinB n 1 9999999 = false then ([], 1) else if hasC l n = true then ([], 6) else doneF (copyF l m n)
theorem fput_srt (g : KeyD → MoveD) : ∀ (ks : List KeyD) {z : List MoveD}, srtM z → srtM (ks.foldl (fun ms k => putM ms (g k)) z)
 | [], _, h => h
 | k :: ks, _, h => fput_srt g ks (srt_put h _)
theorem fput_mvK {g : KeyD → MoveD} (hg : ∀ k, (g k).key = k) {k : KeyD} : ∀ (ks : List KeyD) {z : List MoveD}, srtM z → mvK (ks.foldl (fun ms k => putM ms (g k)) z) k = if k ∈ ks then some (g k) else mvK z k
 | [], _, _ => by simp
 | j :: ks, z, h => by
  rw [List.foldl_cons, fput_mvK hg ks (srt_put h _), mvK_put h, hg]
  by_cases e : j = k
  ·subst e; simp
  ·have : ¬ k = j := fun q => e q.symm
   simp [e, this]
theorem fput_mem {g : KeyD → MoveD} (hg : ∀ k, (g k).key = k) (ks : List KeyD) (x : MoveD) : x ∈ ks.foldl (fun ms k => putM ms (g k)) [] ↔ ∃ k ∈ ks, x = g k := by
 have hs := fput_srt g ks (z := []) List.Pairwise.nil
 constructor
 ·intro h
  have h1 := (mvK_some hs).2 ⟨h, rfl⟩
  rw [fput_mvK hg ks List.Pairwise.nil] at h1
  split at h1
  ·rename_i hk; injection h1 with h1; exact ⟨_, hk, h1.symm⟩
  ·cases h1
 ·rintro ⟨k, hk, rfl⟩
  refine ((mvK_some hs (k := k)).1 ?_).1
  rw [fput_mvK hg ks List.Pairwise.nil, if_pos hk]
theorem sort_moves [Inhabited MoveD] {g : KeyD → MoveD} (hg : ∀ k, (g k).key = k) {U : List MoveD} {ks : List KeyD} (h1 : ∀ x ∈ U, x = g x.key) (h2 : (U.map (·.key)).Nodup) (h3 : ∀ k, k ∈ U.map (·.key) ↔ k ∈ ks) : pdqL (fun a b : MoveD => cmpKey a.key b.key) U = ks.foldl (fun ms k => putM ms (g k)) [] := by
 have hnd : U.Nodup := (List.pairwise_map.1 h2).imp fun h e => h (congrArg _ e)
 have hs := pdqL_srt (f := fun m : MoveD => m.key) (l := U) (fun x hx y hy e => by rw [h1 x hx, h1 y hy, e]) hnd
 refine pw_ext (r := fun a b : MoveD => ltK a.key b.key = true) (fun x q => by rw [ltK_irr] at q; cases q) (fun x y z => ltK_trans) hs (fput_srt g ks List.Pairwise.nil) fun x => ?_
 rw [(pdqL_spec (swo_key fun m : MoveD => m.key) U).1.mem_iff, fput_mem hg]
 constructor
 ·intro hx
  exact ⟨x.key, (h3 _).1 (List.mem_map.2 ⟨x, hx, rfl⟩), h1 x hx⟩
 ·rintro ⟨k, hk, rfl⟩
  obtain ⟨y, hy, e⟩ := List.mem_map.1 ((h3 k).2 hk)
  rw [← e, ← h1 y hy]; exact hy
def cpC1 (sa : List (KeyD × EntryD)) (p : KeyD × EntryD) : Bool := !(tfind p.1 sa).isSome || decide (¬ (p.2.value = ((tfind p.1 sa).getD ⟨⟨0, ⟨#[]⟩⟩, ⟨0, 0⟩, 0⟩).value))
def cpC2 (sw : List (KeyD × EntryD)) (p : KeyD × EntryD) : Bool := !(tfind p.1 sw).isSome
def cpU (c : KeyD × EntryD → Bool) (sw d : List (KeyD × EntryD)) : List MoveD := (d.filter c).map fun p => mvOf p.1 (tfind p.1 sw)
theorem cpU_app (c : KeyD × EntryD → Bool) (sw d : List (KeyD × EntryD)) (p : KeyD × EntryD) : cpU c sw (d ++ [p]) = if c p = true then cpU c sw d ++ [mvOf p.1 (tfind p.1 sw)] else cpU c sw d := by
 unfold cpU
 rw [List.filter_append]
 cases h : c p <;> simp [h]
theorem cpU_len (c : KeyD × EntryD → Bool) (sw d : List (KeyD × EntryD)) : (cpU c sw d).length ≤ d.length := by
 unfold cpU; rw [List.length_map]; exact List.length_filter_le _ _
theorem cpU_key (c : KeyD × EntryD → Bool) (sw d : List (KeyD × EntryD)) : (cpU c sw d).map (·.key) = (d.filter c).map (·.1) := by
 unfold cpU; rw [List.map_map]; exact List.map_congr_left fun p _ => mvOf_key _ _
theorem cp_sorted [Inhabited MoveD] {sa sw d1 d2 : List (KeyD × EntryD)} {ahead want : List EntryD} (ha : SameS sa ahead) (hw : SameS sw want) (h1 : d1.Perm sw) (h2 : d2.Perm sa) :
  pdqL (fun a b : MoveD => cmpKey a.key b.key) (cpU (cpC1 sa) sw d1 ++ cpU (cpC2 sw) sw d2) = cpMs want (cpKs ahead want) := by
 have hg : (fun k => mvOf k (tfind k sw)) = fun k => mvOf k (lookE want k) := funext fun k => by rw [hw.2.2 k]
 have n1 : (d1.map (·.1)).Nodup := by
  have q : (sw.map (·.1)).Nodup := hw.1
  exact ((h1.map (·.1)).nodup_iff).2 q
 have n2 : (d2.map (·.1)).Nodup := by
  have q : (sa.map (·.1)).Nodup := ha.1
  exact ((h2.map (·.1)).nodup_iff).2 q
 have m1 : ∀ p, p ∈ d1 ↔ tfind p.1 sw = some p.2 := fun p => by rw [h1.mem_iff, tfind_mem hw.1]
 have m2 : ∀ p, p ∈ d2 ↔ tfind p.1 sa = some p.2 := fun p => by rw [h2.mem_iff, tfind_mem ha.1]
 unfold cpMs
 refine sort_moves (g := fun k => mvOf k (lookE want k)) (fun k => mvOf_key k _) ?_ ?_ ?_
 ·intro x hx
  show x = mvOf x.key (lookE want x.key)
  rw [← hw.2.2 x.key]
  unfold cpU at hx
  rcases List.mem_append.1 hx with h | h <;> obtain ⟨p, _, rfl⟩ := List.mem_map.1 h <;> rw [mvOf_key]
 ·rw [List.map_append, cpU_key, cpU_key]
  refine List.nodup_append.2 ⟨?_, ?_, ?_⟩
  ·exact (List.filter_sublist.map _).nodup n1
  ·exact (List.filter_sublist.map _).nodup n2
  ·intro a ha1 b hb1 e
   subst e
   obtain ⟨p, hp, e1⟩ := List.mem_map.1 ha1
   obtain ⟨q, hq, e2⟩ := List.mem_map.1 hb1
   obtain ⟨hp1, _⟩ := List.mem_filter.1 hp
   obtain ⟨_, hq2⟩ := List.mem_filter.1 hq
   unfold cpC2 at hq2
   have := (m1 p).1 hp1
   rw [e2, ← e1, this] at hq2
   cases hq2
 ·intro k
  rw [List.map_append, cpU_key, cpU_key, List.mem_append]
  unfold cpKs cpAll
  have e1 : ∀ k, k ∈ ahead.map (·.key) ↔ (lookE ahead k).isSome = true := fun k => by
   unfold lookE
   rw [List.find?_isSome, List.mem_map]
   constructor
   ·rintro ⟨x, hx, e⟩; exact ⟨x, hx, by simp [e]⟩
   ·rintro ⟨x, hx, e⟩; exact ⟨x, hx, of_decide_eq_true e⟩
  have e2 : ∀ k, hasE ahead k = (lookE ahead k).isSome := fun k => by
   unfold hasE lookE; rw [Bool.eq_iff_iff, List.any_eq_true, List.find?_isSome]
  have e3 : k ∈ (want.filter fun e => !hasE ahead e.key).map (·.key) ↔ (lookE want k).isSome = true ∧ (lookE ahead k).isSome = false := by
   rw [List.mem_map]
   constructor
   ·rintro ⟨x, hx, rfl⟩
    obtain ⟨q1, q2⟩ := List.mem_filter.1 hx
    rw [(lookE_some hw.2.1).2 ⟨q1, rfl⟩, ← e2]
    exact ⟨rfl, by simpa using q2⟩
   ·rintro ⟨q1, q2⟩
    obtain ⟨x, hx⟩ := Option.isSome_iff_exists.1 q1
    obtain ⟨r1, r2⟩ := (lookE_some hw.2.1).1 hx
    exact ⟨x, List.mem_filter.2 ⟨r1, by rw [r2, e2, q2]; rfl⟩, r2⟩
  rw [List.mem_filter, List.mem_append, e1, e3]
  have f1 : k ∈ (d1.filter (cpC1 sa)).map (·.1) ↔ ∃ w, lookE want k = some w ∧ (lookE ahead k = none ∨ ∃ a, lookE ahead k = some a ∧ ¬ w.value = a.value) := by
   rw [List.mem_map]
   constructor
   ·rintro ⟨p, hp, rfl⟩
    obtain ⟨q1, q2⟩ := List.mem_filter.1 hp
    refine ⟨p.2, by rw [← hw.2.2]; exact (m1 p).1 q1, ?_⟩
    unfold cpC1 at q2
    rw [ha.2.2] at q2
    cases e : lookE ahead p.1 with
    | none => exact .inl rfl
    | some a => rw [e] at q2; exact .inr ⟨a, rfl, by simpa using q2⟩
   ·rintro ⟨w, q1, q2⟩
    refine ⟨(k, w), List.mem_filter.2 ⟨(m1 (k, w)).2 (by rw [hw.2.2]; exact q1), ?_⟩, rfl⟩
    unfold cpC1
    rw [ha.2.2]
    rcases q2 with q2 | ⟨a, q2, q3⟩ <;> rw [q2] <;> simp
    exact q3
  have f2 : k ∈ (d2.filter (cpC2 sw)).map (·.1) ↔ (lookE ahead k).isSome = true ∧ lookE want k = none := by
   rw [List.mem_map]
   constructor
   ·rintro ⟨p, hp, rfl⟩
    obtain ⟨q1, q2⟩ := List.mem_filter.1 hp
    have := (m2 p).1 q1
    rw [ha.2.2] at this
    unfold cpC2 at q2
    rw [hw.2.2] at q2
    refine ⟨by rw [this]; rfl, ?_⟩
    cases e : lookE want p.1 with
    | none => rfl
    | some x => rw [e] at q2; cases q2
   ·rintro ⟨q1, q2⟩
    obtain ⟨a, q1⟩ := Option.isSome_iff_exists.1 q1
    refine ⟨(k, a), List.mem_filter.2 ⟨(m2 (k, a)).2 (by rw [ha.2.2]; exact q1), ?_⟩, rfl⟩
    unfold cpC2
    rw [hw.2.2, q2]; rfl
  rw [f1, f2]
  unfold cpNe
  cases ea : lookE ahead k with
  | none =>
   cases ew : lookE want k with
   | none => simp [mvOf]
   | some w => simp [mvOf]
  | some a =>
   cases ew : lookE want k with
   | none => simp [mvOf]
   | some w =>
    by_cases h : w.value = a.value
    ·simp [mvOf, h]
    ·have h' : ¬ a.value = w.value := fun q => h q.symm
     simp [mvOf, h, h']
section
variable {σ0 σ : Heap} {R : HP}
theorem lent_fin {α : Type} {c : α → List AV} {sz : Nat} {ain : List Sh} {r : List AV → Heap → Option (AV × Heap)} {as0 ts : List AV} {l : List α} (hc : ∀ x, FzL (c x)) (h : LtL σ ain as0 ts) (e : KS (A.wrap true ain .k r) ts c sz l) : A.finC (.s sz) (A.wrap true ain .k r) as0 σ = some (sl sz c l, σ) := by
 obtain ⟨v, σ', e1, K⟩ := lentK (B := anyB) (fun _ _ => trivial) h e (hs_nil σ)
 obtain ⟨v', e2, e3⟩ := fin_slf hc K
 unfold A.finC
 rw [e1, Option.bind_some]
 simp only
 rw [e2, Option.map_some]
 simp only
 rw [e3]
def CueJ (e : List AV) (y : CueD × Option (List AV)) : HP := match y.2 with
 | none => CueE e y.1
 | some r => pr (e = r)
theorem insJ {v : AV} {l : List (CueD × Option (List AV))} {c : CueD} {e : List AV} {i : Nat} (hi : i ≤ l.length) (hl : l.length < 1000000) (H : Hs anyB σ0 σ (Sl CueJ 11 v l * R)) :
  ∃ v' σ', m_slices_Insert_api_Cue [v, .int .i64 (i : Int), .sl 11 [e]] σ = some (v', σ') ∧ Hs anyB σ0 σ' (Sl CueJ 11 v' (l.take i ++ [(c, some e)] ++ l.drop i) * R) := by
 have H' : Hs anyB σ0 σ (Sl CueJ 11 v l * (CueJ e (c, some e) * R)) := hs_eq (show pr (e = e) * (Sl CueJ 11 v l * R) = _ by rw [show CueJ e (c, some e) = pr (e = e) from rfl]; ac_rfl) (hs_pr.2 ⟨rfl, H⟩)
 obtain ⟨v', σ', e1, H2⟩ := sl_ins (most := 140737488355328 / 128) (zs := [(AV.int .i64 0), (AV.str ⟨#[]⟩), (AV.int .i64 0), (AV.int .i64 0), (AV.int .i64 0), (AV.int .i64 0), (AV.int .i64 0), AV.nsl, (AV.bool false), (AV.int .i64 0), AV.nsl]) (rot := m_slices_rotateRight_api_Cue) (B := anyB) (E := CueJ) (y := (c, some e)) (ye := e) H' hi (by omega) (by omega) (fun _ _ _ _ _ => trivial)
 refine ⟨v', σ', ?_, H2⟩
 unfold m_slices_Insert_api_Cue A.wrap
 rw [Bool.false_and, cond_false, show A.nnL [] [v, .int .i64 (i : Int), .sl 11 [e]] = [v, .int .i64 (i : Int), .sl 11 [e]] by simp [A.nnL]]
 show (r_slices_Insert_api_Cue v (.int .i64 (i : Int)) (.sl 11 [e]) σ).map _ = _
 rw [show r_slices_Insert_api_Cue v (.int .i64 (i : Int)) (.sl 11 [e]) σ = some (v', σ') from e1]
 simp [nn_k]
theorem toJ {v : AV} {l : List CueD} (H : Hs anyB σ0 σ (Sl CueE 11 v l * R)) : Hs anyB σ0 σ (Sl CueJ 11 v (l.map fun c => (c, none)) * R) := by
 rw [sl_map]; exact H
theorem unJ {v : AV} {L : List (CueD × Option (List AV))} {a : Nat} {c : CueD} {e : List AV} (hL : L[a]? = some (c, some e)) (ho : ∀ i y, L[i]? = some y → i ≠ a → y.2 = none) (H : Hs anyB σ0 σ (Sl CueJ 11 v L * (CueE e c * R))) : Hs anyB σ0 σ (Sl CueE 11 v (L.map (·.1)) * R) := by
 obtain ⟨p, F, e', f1, hC, K, back⟩ := sl_cell H hL
 obtain ⟨he, K2⟩ := hs_pr.1 (hs_eq (show _ = pr (e' = e) * (F e' * (CueE e c * R)) by rw [show CueJ e' (c, some e) = pr (e' = e) from rfl]; ac_rfl) K)
 subst he
 have K3 := back (y := (c, none)) K2
 have e1 : L.set a (c, none) = (L.map (·.1)).map fun c => (c, none) := by
  have hal := (List.getElem?_eq_some_iff.1 hL).1
  apply List.ext_getElem?
  intro i
  rw [List.map_map, List.getElem?_map, List.getElem?_set]
  by_cases h : a = i
  ·subst h
   rw [if_pos rfl, if_pos hal, hL]; rfl
  ·rw [if_neg h]
   cases hy : L[i]? with
   | none => rfl
   | some y =>
    have := ho i y hy (fun q => h q.symm)
    obtain ⟨y1, y2⟩ := y
    simp only at this
    subst this; rfl
 rw [e1, sl_map] at K3
 exact K3
theorem restoreF_s {p : AV} {F : List AV → HP} {e : List AV} {x : CueD} {ks : List KeyD} (st : List (KeyD × EntryD)) (hC : Cl p F) (hs : srtM x.moves) (hl : x.moves.length + ks.length < 1000000) (H : Hs anyB σ0 σ (F e * (CueE e x * R))) :
  ∃ σ' e', m_cue_restore [p, fmS st, sl 2 cKey ks] σ = some (.tup [], σ') ∧ Hs anyB σ0 σ' (F e' * (CueE e' { x with moves := ks.foldl (restP fun k => mvOf k (tfind k st)) x.moves } * R)) := by
 obtain ⟨fm, hfm⟩ : ∃ fm, fm = fmS st := ⟨_, rfl⟩
 have run : ∃ b : AV × Heap, r_cue_restore p fm (sl 2 cKey ks) σ = some b ∧ b.1 = .tup [] ∧ ∃ e', Hs anyB σ0 b.2 (F e' * (CueE e' { x with moves := ks.foldl (restP fun k => mvOf k (tfind k st)) x.moves } * R)) := by
  unfold r_cue_restore
  rw [lenS_sl, Option.bind_some]
  refine loop_k (Q := fun q => q.1 = .exit 0 ∧ ∃ e', Hs anyB σ0 q.2.2 (F e' * (CueE e' { x with moves := ks.foldl (restP fun k => mvOf k (tfind k st)) x.moves } * R))) (loop_hs ks (fun i v s => v = [.int .i64 (i : Int)] ∧ ∃ e', Hs anyB σ0 s (F e' * (CueE e' { x with moves := (ks.take i).foldl (restP fun k => mvOf k (tfind k st)) x.moves } * R))) ?_ ?_ ⟨rfl, e, H⟩) ?_
  ·rintro i k w s hx ⟨rfl, e, K⟩
   have hi := (List.getElem?_eq_some_iff.1 hx).1
   rw [foldl_take _ _ _ hx]
   obtain ⟨q1, q2⟩ := rest_fold (g := fun k => mvOf k (tfind k st)) (ks.take i) hs
   obtain ⟨ms, hms⟩ : ∃ ms, ms = (ks.take i).foldl (restP fun k => mvOf k (tfind k st)) x.moves := ⟨_, rfl⟩
   rw [← hms] at q1 q2 K ⊢
   have hml : ms.length < 1000000 := by simp at q2; omega
   have hat := moveAt_own (x := { x with moves := ms }) (cue_weak (hs_eq (show _ = CueE e { x with moves := ms } * (F e * R) by ac_rfl) K)) q1 (by show ms.length < _; omega) k
   have hld := hC.ld K
   obtain ⟨vp, vm, he, _⟩ := cueP (x := { x with moves := ms }) (hs_eq (show _ = CueP (Sl (fl cMove) 8) e { x with moves := ms } * (F e * R) by rw [show CueE e { x with moves := ms } = CueP (Sl (fl cMove) 8) e { x with moves := ms } from rfl]; ac_rfl) K)
   have hpa : A.partA 0 11 e = some (.agg e) := by rw [he]; rfl
   simp only [List.getD_cons_zero]
   rw [ix_lt hx, Option.bind_some, cnd_t, ix_for hx, Option.bind_some, show ((A.deref (.rp (cKey k)) s).bind fun c => A.partA 0 2 c) = some (.agg (cKey k)) from rfl, Option.bind_some, show A.cells 2 (.agg (cKey k)) = some (cKey k) from rfl, Option.bind_some, show A.splice 0 (cKey k) [(AV.int .i64 0), (AV.str ⟨#[]⟩)] = some (cKey k) from rfl, Option.bind_some, hC.nc, Option.bind_some, hld, Option.bind_some, hpa, Option.bind_some, show A.partA 0 2 (cKey k) = some (.agg (cKey k)) from rfl, Option.bind_some, quiet_of hat, Option.bind_some, ext0, Option.bind_some, ext1, Option.bind_some]
   show ∃ _, _
   rw [show A.not (.bool (hasM ms k)) = some (.bool (!hasM ms k)) from rfl, Option.bind_some]
   unfold restP
   cases hh : hasM ms k
   ·rw [show (!false) = true from rfl, cnd_t, Option.bind_some, hfm, show m_cue_move [fmS st, .agg (cKey k)] s = some (.agg (cMove (mvOf k (tfind k st))), s) from h_cue_move (move_t st k), Option.bind_some]
    obtain ⟨s', e', g1, K2⟩ := put_s (x := { x with moves := ms }) (m := mvOf k (tfind k st)) hC K q1 (by show ms.length < _; omega)
    rw [g1, Option.bind_some, Option.bind_some, ix_inc hx (by unfold mxl; omega), Option.bind_some]
    exact ⟨_, _, rfl, rfl, e', by simpa using K2⟩
   ·rw [show (!true) = false from rfl, cnd_f, Option.bind_some, ix_inc hx (by unfold mxl; omega), Option.bind_some]
    exact ⟨_, _, rfl, rfl, e, by simpa using K⟩
  ·rintro w s ⟨rfl, e, K⟩
   simp only [List.getD_cons_zero]
   rw [ix_end, Option.bind_some, cnd_f]
   rw [List.take_length] at K
   exact ⟨_, rfl, by simp, rfl, e, K⟩
  ·rintro ⟨e, w, s⟩ ⟨h1, e', K⟩
   simp only at h1 K
   subst h1
   exact ⟨_, rfl, rfl, e', K⟩
 obtain ⟨⟨v, σ'⟩, h1, h2, e', h3⟩ := run
 simp only at h2 h3
 subst h2
 refine ⟨σ', e', ?_, h3⟩
 rw [← hfm]
 unfold m_cue_restore A.wrap
 rw [Bool.false_and, cond_false, show A.nnL [] [p, fm, sl 2 cKey ks] = [p, fm, sl 2 cKey ks] by simp [A.nnL]]
 show (r_cue_restore p fm (sl 2 cKey ks) σ).map _ = _
 rw [h1]
 simp [nn_k]
end
end Go.Proofs.Ytphgchakmkankaa

namespace Go.Proofs.Ytphgchakmkankaa
set_option linter.unusedSectionVars false
set_option linter.unusedVariables false
set_option linter.unusedSimpArgs false
theorem eqSelf {α : Type} {l : List α} {body : Nat → α → Unit → Option (Lr Unit Unit Unit)} {K : Unit → Option Bool} (hl : l.length ≤ mxl) (hb : ∀ i x, l[i]? = some x → body i x () = some (.go ())) : forE l body (fun s => some ()) () (fun _ => some true) K = some true := by
 rw [forE_find (p := fun _ => false) (r := fun _ => ()) hl (fun i x hx => by rw [hb i x hx]; rfl)]
 have : l.find? (fun _ => false) = none := by simp
 rw [this]
theorem EqualEn_t (l : List EntryD) (hl : l.length ≤ mxl) : t_slices_Equal_api_Entry l l = some true := by
 unfold t_slices_Equal_api_Entry
 simp only [not_true_eq_false, if_false]
 refine eqSelf hl fun i x hx => ?_
 rw [tIx_get (x := x) (by omega) (by simpa using hx)]
 simp
end Go.Proofs.Ytphgchakmkankaa

namespace Go.Proofs.Ytphgchakmkankaa
set_option linter.unusedSectionVars false
set_option linter.unusedVariables false
set_option linter.unusedSimpArgs false
open HP
def zeroC (e : EntryD) : EntryD := { e with cue := 0 }
theorem state_bd (l : List CueD) (n : Int) : (stateRes l n).1.length ≤ 600000000 := by
 unfold stateRes
 split
 ·simp
 rename_i hz
 split
 ·simp
 have hg := good_of (Decidable.not_not.1 hz)
 have hlen := hg.len
 exact (beforeF_bound (l := l.take (posC l n + 1)) (by simp; omega) (fun c hc => (hg.mv c (List.mem_of_mem_take hc)).1)).2
section
variable {σ0 σ : Heap} {R : HP}
theorem fin_tupX {α : Type} {c : α → List AV} {sz : Nat} {B : Blk → Prop} {v w : AV} {l : List α} (hw : Fz w) (hc : ∀ x, FzL (c x)) (H : Hs B σ0 σ (Sl (fl c) sz v l * R)) : ∃ v', A.fin σ0 (.tup [v, w]) σ = some (.tup [v', w], σ0) ∧ A.nn (.s sz) v' = sl sz c l := by
 obtain ⟨v', h1, h2, h3⟩ := slf_fz H hc (Nat.le_refl _) 7
 refine ⟨v', fin_hs (hs_any H) (by simp [A.frz, A.frzL, h1, hw σ σ0.length 8]) (fun e => ?_), h3⟩
 rcases slf_cases H with ⟨rfl, rfl | rfl, _⟩ | ⟨id, g, rfl, K⟩
 ·simp [A.frz] at h1; rw [h1]
 ·simp [A.frz] at h1; rw [h1]
 ·obtain ⟨k1, k2⟩ := hs_get K
  have := (List.getElem?_eq_some_iff.1 k2).1
  subst e; omega
theorem nn_retX {α : Type} {c : α → List AV} {sz : Nat} {v w : AV} {l : List α} (h : A.nn (.s sz) v = sl sz c l) : A.nn (.t [(.s sz), .k]) (.tup [v, w]) = .tup [sl sz c l, w] := by
 simp only [A.nn, A.nnL] at h ⊢
 rw [h]
def valsR (l : List CueD) (n : Int) : List EntryD := (stateRes l n).1.map zeroC
theorem values_t {l : List CueD} (hl : okL okCue l) {n : Int} (hn : inI n) (σ : Heap) : m_W5_values [sl 11 cCue l, .int .i64 n] σ = some (.tup [sl 5 cEntry (valsR l n), .bool (decide ((stateRes l n).2 = 0))], σ) := by
 have run : ∃ b, r_W5_values (sl 11 cCue l) (.int .i64 n) σ = some b ∧ b.2 = σ ∧ A.nn (.t [(.s 5), .k]) b.1 = .tup [sl 5 cEntry (valsR l n), .bool (decide ((stateRes l n).2 = 0))] := by
  unfold r_W5_values valsR
  have hbd := state_bd l n
  rw [State_t hl hn σ, Option.bind_some, ext0, Option.bind_some, ext1, Option.bind_some]
  generalize (stateRes l n).1 = st at hbd ⊢
  generalize (stateRes l n).2 = e
  obtain ⟨v, s1, e1, _, K1⟩ := clo_gen (B := anyB) (most := 140737488355328 / 48) (m := m_slices_Clone_api_Entry) (r := fun _ _ => none) (r0 := r_slices_Clone_api_Entry) (c := cEntry) (sz := 5) (l := st) rfl (fun _ _ => rfl) (by omega) (fun _ _ _ _ => trivial) (hs_nil (B := anyB) σ)
  simp only
  rw [e1, Option.bind_some, sl_len K1, Option.bind_some]
  refine loop_k (Q := fun q => q.1 = .exit 0 ∧ Hs anyB σ q.2.2 (Sl (fl cEntry) 5 v (st.map zeroC) * emp)) (loop_hs st (fun i w s => w = [.int .i64 (i : Int)] ∧ Hs anyB σ s (Sl (fl cEntry) 5 v ((st.take i).map zeroC ++ st.drop i) * emp)) ?_ ?_ ⟨rfl, by simpa using K1⟩) ?_
  ·rintro i x w s hx ⟨rfl, K⟩
   have hi := (List.getElem?_eq_some_iff.1 hx).1
   have hxo : ((st.take i).map zeroC ++ st.drop i)[i]? = some x := by
    rw [List.getElem?_append_right (by simp; omega)]
    simp [Nat.min_eq_left (Nat.le_of_lt hi), hx]
   obtain ⟨p, F, e', f1, hC, K2, back⟩ := sl_cell K hxo
   have he : e' = cEntry x := (hs_pr.1 (hs_drop K2)).1
   subst he
   have K3 := hs_drop (hs_eq (show _ = pr (cEntry x = cEntry x) * (F (cEntry x) * emp) by rw [show fl cEntry (cEntry x) x = pr (cEntry x = cEntry x) from rfl]; ac_rfl) K2)
   obtain ⟨q, g1, _, g3⟩ := hC.fa 4
   obtain ⟨s', h2, K4⟩ := g3 K3 (new := [.int .i64 0]) (e' := cEntry (zeroC x)) rfl
   simp only [List.getD_cons_zero]
   rw [ix_lt hx, Option.bind_some, cnd_t, f1, Option.bind_some, g1, Option.bind_some, show A.cell (.int .i64 0) = some (.int .i64 0) from rfl, Option.bind_some, Option.bind_some, h2, Option.bind_some, ix_inc hx (by unfold mxl; omega), Option.bind_some]
   refine ⟨_, _, rfl, rfl, ?_⟩
   have K5 := back (e := cEntry (zeroC x)) (y := zeroC x) (hs_eq (show pr (cEntry (zeroC x) = cEntry (zeroC x)) * (F (cEntry (zeroC x)) * emp) = _ by rw [show fl cEntry (cEntry (zeroC x)) (zeroC x) = pr (cEntry (zeroC x) = cEntry (zeroC x)) from rfl]; ac_rfl) (hs_pr.2 ⟨rfl, K4⟩))
   have e9 : ((st.take i).map zeroC ++ st.drop i).set i (zeroC x) = (st.take (i + 1)).map zeroC ++ st.drop (i + 1) := by
    have e : st.drop i = x :: st.drop (i + 1) := by rw [List.drop_eq_getElem_cons hi, (List.getElem?_eq_some_iff.1 hx).2]
    rw [e, List.take_add_one, hx, List.set_append_right _ _ (by simp; omega)]
    rw [show i - ((st.take i).map zeroC).length = 0 by simp; omega]
    simp
   rw [← e9]; exact K5
  ·rintro w s ⟨rfl, K⟩
   simp only [List.getD_cons_zero]
   rw [ix_end, Option.bind_some, cnd_f]
   rw [List.take_length, List.drop_length, List.append_nil] at K
   exact ⟨_, rfl, by simp, rfl, K⟩
  ·rintro ⟨x, w, s⟩ ⟨h1, K⟩
   simp only at h1 K
   subst h1
   simp only [exb]
   rw [aEq, Option.bind_some]
   obtain ⟨v', j1, j2⟩ := fin_tupX (w := .bool (decide (e = 0))) (fz_bool _) fz_cEntry K
   exact ⟨_, j1, rfl, nn_retX j2⟩
 obtain ⟨⟨b, s⟩, h1, h2, h3⟩ := run
 simp only at h2 h3
 subst h2
 refine wrap_eq rfl ?_ h3
 rw [show A.nnL [Sh.e 11 [.k, .k, .k, .k, .k, .k, .k, .s 2, .k, .k, .s 8]] [sl 11 cCue l, .int .i64 n] = [sl 11 cCue l, .int .i64 n] from nn_arg1 l _]
 exact h1
theorem equalE_t (l : List EntryD) (hl : l.length ≤ mxl) (σ : Heap) : A.quiet (m_slices_Equal_api_Entry [sl 5 cEntry l, sl 5 cEntry l] σ) σ = some (.bool true) := quiet_of (h_slices_Equal_api_Entry (EqualEn_t l hl))
theorem valsR_bd (l : List CueD) (n : Int) : (valsR l n).length ≤ mxl := by
 unfold valsR; rw [List.length_map]; have := state_bd l n; unfold mxl; omega
def LooksAs (a b : List CueD) (n : Int) : Prop := (stateRes a n).2 = 0 ∧ (stateRes b n).2 = 0 ∧ valsR a n = valsR b n
theorem okC_num {l : List CueD} (hl : okL okCue l) {c : CueD} (hc : c ∈ l) : inI c.number := (hl.2 c hc).1
theorem nn_arg2 (l m : List CueD) (aas : List AV) : A.nnL [Sh.e 11 shCue, Sh.e 11 shCue] (sl 11 cCue l :: sl 11 cCue m :: aas) = sl 11 cCue l :: sl 11 cCue m :: aas := nn_t1 (nn_idem_cues l) (nn_t1 (nn_idem_cues m) rfl)
theorem asBefore_t {a b : List CueD} (ha : okL okCue a) (hb : okL okCue b) (but and' : Int) (h : ∀ c ∈ a, c.number ≠ but → c.number ≠ and' → LooksAs a b c.number) (σ : Heap) : m_W5_asBefore [sl 11 cCue a, sl 11 cCue b, .int .i64 but, .int .i64 and'] σ = some (.bool true, σ) := by
 have run : ∃ q, r_W5_asBefore (sl 11 cCue a) (sl 11 cCue b) (.int .i64 but) (.int .i64 and') σ = some q ∧ q = (.bool true, σ) := by
  unfold r_W5_asBefore
  rw [lenS_sl, Option.bind_some]
  refine loop_k (Q := fun q => q.1 = .exit 0 ∧ q.2.2 = σ) (loop_hs a (fun i v s => v = [.bool false, .int .i64 (i : Int)] ∧ s = σ) ?_ ?_ ⟨rfl, rfl⟩) ?_
  ·rintro i c v s hx ⟨rfl, rfl⟩
   have hm := List.mem_of_getElem? hx
   have hn := okC_num ha hm
   simp only [List.getD_cons_zero, List.getD_cons_succ]
   rw [ix_lt hx, Option.bind_some, cnd_t, ix_for hx, Option.bind_some]
   simp only [A.deref, Option.bind_some]
   rw [pA_cCue, Option.bind_some, ce_cCue, Option.bind_some, sp_cCue c _ rfl, Option.bind_some, show A.part1 0 (cCue c) = some (.int .i64 c.number) from rfl, Option.bind_some, aEq, Option.bind_some]
   by_cases h1 : c.number = but
   ·rw [decide_eq_true h1]
    simp only [A.guard, show (true == false) = false from rfl, cond_false, Option.bind_some, A.pick, cond_true, cnd_t]
    rw [ix_inc hx ha.1, Option.bind_some]
    exact ⟨_, _, rfl, rfl, rfl⟩
   rw [decide_eq_false h1]
   simp only [A.guard, beq_self_eq_true, cond_true, Option.bind_some, A.pick, cond_false]
   rw [aEq]
   simp only [Option.bind_some]
   by_cases h2 : c.number = and'
   ·rw [decide_eq_true h2, cnd_t, ix_inc hx ha.1, Option.bind_some]
    exact ⟨_, _, rfl, rfl, rfl⟩
   rw [decide_eq_false h2, cnd_f]
   obtain ⟨k1, k2, k3⟩ := h c hm h1 h2
   rw [values_t ha hn, Option.bind_some, ext0, Option.bind_some, ext1, Option.bind_some, values_t hb hn, Option.bind_some, ext0, Option.bind_some, ext1, Option.bind_some, decide_eq_true k1, decide_eq_true k2, k3]
   simp only [show A.not (.bool true) = some (.bool false) from rfl, Option.bind_some, beq_self_eq_true, cond_true, cond_false]
   rw [equalE_t _ (valsR_bd _ _)]
   simp only [show A.not (.bool true) = some (.bool false) from rfl, Option.bind_some, cnd_f]
   rw [ix_inc hx ha.1, Option.bind_some]
   exact ⟨_, _, rfl, rfl, rfl⟩
  ·rintro v s ⟨rfl, rfl⟩
   simp only [List.getD_cons_zero, List.getD_cons_succ]
   rw [ix_end, Option.bind_some, cnd_f]
   exact ⟨_, rfl, by simp, rfl, rfl⟩
  ·rintro ⟨e, v, s⟩ ⟨h1, h2⟩
   simp only at h1 h2
   subst h1; subst h2
   simp only [exb]
   exact ⟨_, fin_same _ _, rfl⟩
 obtain ⟨q, h1, rfl⟩ := run
 refine wrap_eq rfl ?_ rfl
 rw [show A.nnL [Sh.e 11 [.k, .k, .k, .k, .k, .k, .k, .s 2, .k, .k, .s 8], Sh.e 11 [.k, .k, .k, .k, .k, .k, .k, .s 2, .k, .k, .s 8]] [sl 11 cCue a, sl 11 cCue b, .int .i64 but, .int .i64 and'] = [sl 11 cCue a, sl 11 cCue b, .int .i64 but, .int .i64 and'] from nn_arg2 a b _]
 exact h1
end
end Go.Proofs.Ytphgchakmkankaa

namespace Go.Proofs.Ytphgchakmkankaa
set_option linter.unusedSectionVars false
set_option linter.unusedVariables false
set_option linter.unusedSimpArgs false
def valE (st : List EntryD) (k : KeyD) : Option ValueD := (lookE st k).map (·.value)
def mvV (o : Option MoveD) (d : Option ValueD) : Option ValueD := match o with
 | some m => if m.release = true then none else some m.value
 | none => d
def sv (l : List CueD) (i : Nat) (k : KeyD) : Option ValueD := valE (beforeF (l.take i)) k
def AllS (l : List CueD) : Prop := ∀ c ∈ l, srtM c.moves
theorem good_allS {l : List CueD} (h : Good l) : AllS l := fun c hc => (h.mv c hc).2
theorem beforeF_srt (l : List CueD) : srtE (beforeF l) := (same_state l).2.1
theorem vals_eq {a b : List EntryD} (ha : srtE a) (hb : srtE b) (h : ∀ k, valE a k = valE b k) : a.map zeroC = b.map zeroC := by
 have hm : ∀ {l : List EntryD}, srtE l → (l.map zeroC).Pairwise fun x y => ltK x.key y.key = true := fun h => List.pairwise_map.2 h
 refine pw_ext (r := fun x y : EntryD => ltK x.key y.key = true) (fun x q => by rw [ltK_irr] at q; cases q) (fun x y z => ltK_trans) (hm ha) (hm hb) fun x => ?_
 have key : ∀ {l : List EntryD}, srtE l → (x ∈ l.map zeroC ↔ valE l x.key = some x.value ∧ x.cue = 0) := by
  intro l hl
  rw [List.mem_map]
  constructor
  ·rintro ⟨e, he, rfl⟩
   refine ⟨?_, rfl⟩
   unfold valE
   rw [show (zeroC e).key = e.key from rfl, (lookE_some hl).2 ⟨he, rfl⟩]; rfl
  ·rintro ⟨h1, h2⟩
   unfold valE at h1
   obtain ⟨e, he, hv⟩ := Option.map_eq_some_iff.1 h1
   obtain ⟨m1, m2⟩ := (lookE_some hl).1 he
   refine ⟨e, m1, ?_⟩
   cases x; cases e
   simp only [zeroC] at *
   subst m2; subst hv; subst h2; rfl
 rw [key ha, key hb, h]
theorem val_fold {n : Int} {k : KeyD} : ∀ (ms : List MoveD) {st : List EntryD}, srtE st → srtM ms → valE (ms.foldl (stepE n) st) k = mvV (mvK ms k) (valE st k)
 | [], st, _, _ => rfl
 | m :: ms, st, hs, hm => by
  obtain ⟨h1, h2, _⟩ := stepE_spec (n := n) hs m
  have hm' := List.pairwise_cons.1 hm
  rw [List.foldl_cons, val_fold ms h1 hm'.2]
  have e : valE (stepE n st m) k = if k = m.key then (if m.release = true then none else some m.value) else valE st k := by
   unfold valE
   rw [h2]
   split
   ·split <;> rfl
   ·rfl
  rw [e]
  by_cases hk : m.key = k
  ·have hn : mvK ms k = none := by
    unfold mvK; rw [List.find?_eq_none]
    intro z hz q
    have := hm'.1 z hz
    rw [of_decide_eq_true q, ← hk, ltK_irr] at this; cases this
   have hc : mvK (m :: ms) k = some m := by unfold mvK; rw [List.find?_cons, decide_eq_true hk]
   rw [hn, hc, if_pos hk.symm]
   rfl
  ·have hc : mvK (m :: ms) k = mvK ms k := by unfold mvK; rw [List.find?_cons, decide_eq_false hk]
   rw [hc, if_neg (fun q => hk q.symm)]
theorem sv_succ {l : List CueD} {i : Nat} {c : CueD} (hx : l[i]? = some c) (hs : srtM c.moves) (k : KeyD) : sv l (i + 1) k = mvV (mvK c.moves k) (sv l i k) := by
 unfold sv
 rw [List.take_add_one, hx, Option.toList_some, beforeF, List.foldl_append]
 exact val_fold c.moves (beforeF_srt _) hs
theorem sv_from {a b : List CueD} {i j : Nat} (hd : a.drop i = b.drop j) (ha : AllS a) (k : KeyD) (h : sv a i k = sv b j k) : ∀ d, sv a (i + d) k = sv b (j + d) k := by
 intro d
 induction d with
 | zero => exact h
 | succ d ih =>
  have e : a[i + d]? = b[j + d]? := by rw [← List.getElem?_drop, ← List.getElem?_drop, hd]
  cases hx : a[i + d]? with
  | none =>
   have hb : b[j + d]? = none := by rw [← e, hx]
   have h1 := List.getElem?_eq_none_iff.1 hx
   have h2 := List.getElem?_eq_none_iff.1 hb
   have : ∀ {l : List CueD} {n : Nat}, l.length ≤ n → sv l (n + 1) k = sv l n k := fun {l n} hn => by
    unfold sv; rw [List.take_of_length_le (by omega), List.take_of_length_le hn]
   rw [← Nat.add_assoc, ← Nat.add_assoc, this h1, this h2, ih]
  | some c =>
   have hb : b[j + d]? = some c := by rw [← e, hx]
   have hs := ha c (List.mem_of_getElem? hx)
   rw [← Nat.add_assoc, ← Nat.add_assoc, sv_succ hx hs, sv_succ hb hs, ih]
theorem sv_take {a b : List CueD} {i : Nat} (h : a.take i = b.take i) (k : KeyD) {j : Nat} (hj : j ≤ i) : sv a j k = sv b j k := by
 unfold sv
 have : a.take j = b.take j := by
  have := congrArg (List.take j) h
  rwa [List.take_take, List.take_take, Nat.min_eq_left hj] at this
 rw [this]
theorem looks_of {a b : List CueD} {n : Int} (ha : formF a = 0) (hb : formF b = 0) {i j : Nat} {x y : CueD} (hx : a[i]? = some x) (hxn : x.number = n) (hy : b[j]? = some y) (hyn : y.number = n) (h : ∀ k, sv a (i + 1) k = sv b (j + 1) k) : LooksAs a b n := by
 have hga := good_of ha
 have hgb := good_of hb
 have pa := posC_at hga.srt hx hxn
 have pb := posC_at hgb.srt hy hyn
 have ca : hasC a n = true := List.any_eq_true.2 ⟨x, List.mem_of_getElem? hx, by simp [hxn]⟩
 have cb : hasC b n = true := List.any_eq_true.2 ⟨y, List.mem_of_getElem? hy, by simp [hyn]⟩
 have ea : stateRes a n = (beforeF (a.take (i + 1)), 0) := by
  unfold stateRes; rw [if_neg (by simp [ha]), ca, if_neg (by decide), pa]
 have eb : stateRes b n = (beforeF (b.take (j + 1)), 0) := by
  unfold stateRes; rw [if_neg (by simp [hb]), cb, if_neg (by decide), pb]
 refine ⟨by rw [ea], by rw [eb], ?_⟩
 unfold valsR
 rw [ea, eb]
 exact vals_eq (beforeF_srt _) (beforeF_srt _) h
def moveOk (m : MoveD) : Prop := withinB m.key.unit 1 9999 = true ∧ nameB m.key.param = true ∧ ((m.release && (decide (¬ (m.value = (⟨0, 0⟩ : ValueD))))) || ((decide (¬ (m.value.level = 0))) && (decide (¬ (m.value.preset = 0))))) = false ∧
 ((!(withinB m.value.level 0 65535)) || (!(withinB m.value.preset 0 999))) = false ∧ ((!m.timed) && ((decide (¬ (m.delay = 0))) || (decide (¬ (m.time = 0))))) = false ∧ ((!(withinB m.delay 0 36000000)) || (!(withinB m.time 0 36000000))) = false
theorem moveF_zero (l : List MoveD) (i : Nat) (m : MoveD) : moveF l i m = 0 ↔ moveOk m ∧ (0 < i → ltK (pv l i).key m.key = true) := by
 have hi : decide (0 < (i : Int)) = decide (0 < i) := decide_eq_decide.2 (by omega)
 unfold moveF moveOk
 rw [hi]
 constructor
 ·intro h
  split at h
  ·cases h
  rename_i h1
  split at h
  ·cases h
  rename_i h2
  split at h
  ·cases h
  rename_i h3
  split at h
  ·cases h
  rename_i h4
  split at h
  ·cases h
  rename_i h5
  split at h
  ·cases h
  rename_i h6
  split at h
  ·cases h
  rename_i h7
  simp only [Bool.not_eq_true] at h3 h4 h5 h6
  refine ⟨⟨by simpa using h1, by simpa using h2, h3, h4, h5, h6⟩, fun h0 => ?_⟩
  rw [decide_eq_true h0, Bool.true_and] at h7
  simpa using h7
 ·rintro ⟨⟨h1, h2, h3, h4, h5, h6⟩, h7⟩
  rw [h1, h2, h3, h4, h5, h6]
  by_cases h0 : 0 < i
  ·rw [h7 h0]; simp
  ·rw [decide_eq_false h0]; simp
theorem movesF_zero {l : List MoveD} : movesF l = 0 ↔ (∀ m ∈ l, moveOk m) ∧ srtM l := by
 constructor
 ·intro h
  refine ⟨fun m hm => ?_, good_moves h⟩
  obtain ⟨i, hi⟩ := List.mem_iff_getElem?.1 hm
  unfold movesF at h
  have := (chkE_zero l 0).1 h i m hi
  exact ((moveF_zero _ _ _).1 this).1
 ·rintro ⟨h1, h2⟩
  unfold movesF
  refine (chkE_zero l 0).2 fun i m hi => ?_
  rw [Nat.zero_add, moveF_zero]
  refine ⟨h1 m (List.mem_of_getElem? hi), fun h0 => ?_⟩
  obtain ⟨j, rfl⟩ : ∃ j, i = j + 1 := ⟨i - 1, by omega⟩
  rw [pv_succ]
  have hj := (List.getElem?_eq_some_iff.1 hi).1
  have hx : l[j]? = some l[j] := List.getElem?_eq_getElem (by omega)
  rw [hx, Option.getD_some]
  have := List.pairwise_iff_getElem.1 h2 j (j + 1) (by omega) hj (by omega)
  rwa [(List.getElem?_eq_some_iff.1 hi).2] at this
def headOk (c : CueD) : Prop := withinB c.number 1 9999999 = true ∧ blankB c.title = true ∧ (((((!(withinB c.delay 0 36000000)) || (!(withinB c.up 0 36000000))) || (!(withinB c.down 0 36000000))) || (!(withinB c.other 0 36000000))) || (!(withinB c.follow (-1) 36000000))) = false ∧ curveF c.curve = 0
theorem cueF_zero (l : List CueD) (i : Nat) (c : CueD) : cueF l i c = 0 ↔ headOk c ∧ (0 < i → (pv l i).number < c.number) ∧ c.moves.length ≤ 2000 ∧ movesF c.moves = 0 := by
 have hi : decide (0 < (i : Int)) = decide (0 < i) := decide_eq_decide.2 (by omega)
 unfold cueF headOk
 rw [hi]
 constructor
 ·intro h
  split at h
  ·cases h
  rename_i h1
  split at h
  ·cases h
  rename_i h2
  split at h
  ·cases h
  rename_i h3
  split at h
  ·cases h
  rename_i h4
  split at h
  ·rename_i h5; exact absurd h h5
  rename_i h5
  split at h
  ·cases h
  rename_i h6
  simp only [Bool.not_eq_true] at h4
  refine ⟨⟨by simpa using h1, by simpa using h3, h4, by simpa using h5⟩, fun h0 => ?_, by omega, h⟩
  rw [decide_eq_true h0, Bool.true_and, decide_eq_true_eq] at h2
  omega
 ·rintro ⟨⟨h1, h3, h4, h5⟩, h2, h6, h7⟩
  rw [h1, h3, h4, h5]
  have : (decide (0 < i) && decide (c.number ≤ (pv l i).number)) = false := by
   by_cases h0 : 0 < i
   ·have := h2 h0
    simp [h0]; omega
   ·simp [h0]
  rw [this]
  simp [h7]; omega
def manyN (l : List CueD) : Nat := (l.map fun c => c.moves.length).sum
theorem manyN_le : ∀ {l : List CueD}, (∀ c ∈ l, c.moves.length ≤ 2000) → manyN l ≤ l.length * 2000
 | [], _ => Nat.zero_le _
 | c :: l, h => by
  have := manyN_le (l := l) (fun x hx => h x (by simp [hx]))
  have := h c (by simp)
  unfold manyN at *
  simp only [List.map_cons, List.sum_cons, List.length_cons, Nat.add_mul]
  omega
theorem manyF_eq {l : List CueD} (hl : l.length ≤ 300) (hm : ∀ c ∈ l, c.moves.length ≤ 2000) : manyF l = (manyN l : Int) := by
 have key : ∀ (l : List CueD) (s : Nat), s + manyN l < 9223372036854775808 → l.foldl (fun s c => IntKind.i64.wrap (s + (c.moves.length : Int))) (s : Int) = ((s + manyN l : Nat) : Int) := by
  intro l
  induction l with
  | nil => intro s _; simp [manyN]
  | cons c l ih =>
   intro s h
   have e : manyN (c :: l) = c.moves.length + manyN l := by simp [manyN]
   rw [e] at h ⊢
   rw [List.foldl_cons, wrap64 (by unfold inI; omega), show (s : Int) + (c.moves.length : Int) = ((s + c.moves.length : Nat) : Int) by omega, ih _ (by omega)]
   congr 1; omega
 have := key l 0 (by have := manyN_le hm; omega)
 unfold manyF
 simpa using this
theorem formF_zero {l : List CueD} : formF l = 0 ↔ l.length ≤ 300 ∧ (∀ c ∈ l, headOk c ∧ c.moves.length ≤ 2000 ∧ movesF c.moves = 0) ∧ (l.Pairwise fun a b => a.number < b.number) ∧ manyN l ≤ 10000 := by
 constructor
 ·intro h
  have hg := good_of h
  unfold formF at h
  by_cases h1 : 300 < (l.length : Int)
  ·simp [h1] at h
  rw [if_neg h1] at h
  by_cases h2 : chkE (cueF l) l 0 = 0
  case neg => rw [if_pos h2] at h; exact absurd h h2
  rw [if_neg (by simp [h2])] at h
  refine ⟨by omega, fun c hc => ?_, hg.srt, ?_⟩
  ·obtain ⟨i, hi⟩ := List.mem_iff_getElem?.1 hc
   have := (chkE_zero l 0).1 h2 i c hi
   obtain ⟨q1, _, q3, q4⟩ := (cueF_zero _ _ _).1 this
   exact ⟨q1, q3, q4⟩
  ·rw [manyF_eq (by omega) (fun c hc => (hg.mv c hc).1)] at h
   by_cases h3 : 10000 < (manyN l : Int)
   ·rw [if_pos h3] at h; cases h
   ·omega
 ·rintro ⟨h1, h2, h3, h4⟩
  unfold formF
  rw [if_neg (by omega)]
  have hc : chkE (cueF l) l 0 = 0 := (chkE_zero l 0).2 fun i c hi => by
   rw [Nat.zero_add, cueF_zero]
   obtain ⟨q1, q2, q3⟩ := h2 c (List.mem_of_getElem? hi)
   refine ⟨q1, fun h0 => ?_, q2, q3⟩
   obtain ⟨j, rfl⟩ : ∃ j, i = j + 1 := ⟨i - 1, by omega⟩
   rw [pv_succ]
   have hj := (List.getElem?_eq_some_iff.1 hi).1
   have hx : l[j]? = some l[j] := List.getElem?_eq_getElem (by omega)
   rw [hx, Option.getD_some]
   have := List.pairwise_iff_getElem.1 h3 j (j + 1) (by omega) hj (by omega)
   rwa [(List.getElem?_eq_some_iff.1 hi).2] at this
  rw [if_neg (by simp [hc]), manyF_eq h1 (fun c hc => (h2 c hc).2.1), if_neg (by omega)]
end Go.Proofs.Ytphgchakmkankaa

namespace Go.Proofs.Ytphgchakmkankaa
set_option linter.unusedSectionVars false
set_option linter.unusedVariables false
set_option linter.unusedSimpArgs false
open HP Go.Sort
theorem insAt_at {l : List CueD} {a i : Nat} {c : CueD} (h : a ≤ l.length) : (insAt l a c)[i]? = if i < a then l[i]? else if i = a then some c else l[i - 1]? := by
 unfold insAt
 by_cases h1 : i < a
 ·rw [if_pos h1, List.append_assoc, List.getElem?_append_left (by simp; omega), List.getElem?_take_of_lt h1]
 ·rw [if_neg h1]
  by_cases h2 : i = a
  ·subst h2
   rw [if_pos rfl, List.append_assoc, List.getElem?_append_right (by simp; omega)]
   simp [Nat.min_eq_left h]
  ·rw [if_neg h2, List.getElem?_append_right (by simp; omega), List.getElem?_drop]
   congr 1; simp; omega
theorem map_none (l : List CueD) (i : Nat) : (l.map fun c => (c, (none : Option (List AV))))[i]? = (l[i]?).map fun c => (c, none) := List.getElem?_map
theorem jAt {l : List CueD} {a : Nat} {c : CueD} {e : List AV} (h : a ≤ l.length) (i : Nat) : ((l.map fun c => (c, (none : Option (List AV)))).take a ++ [(c, some e)] ++ (l.map fun c => (c, none)).drop a)[i]? = if i < a then (l[i]?).map fun c => (c, none) else if i = a then some (c, some e) else (l[i - 1]?).map fun c => (c, none) := by
 by_cases h1 : i < a
 ·rw [if_pos h1, List.append_assoc, List.getElem?_append_left (by simp; omega), List.getElem?_take_of_lt h1, map_none]
 ·rw [if_neg h1]
  by_cases h2 : i = a
  ·subst h2
   rw [if_pos rfl, List.append_assoc, List.getElem?_append_right (by simp; omega)]
   simp [Nat.min_eq_left h]
  ·rw [if_neg h2, List.getElem?_append_right (by simp; omega), List.getElem?_drop, map_none]
   congr 2; simp; omega
theorem state_many (l : List CueD) : (stateF l).length ≤ manyN l := by
 have key : ∀ (l : List CueD) (s : List (KeyD × EntryD)), (l.foldl (fun s c => c.moves.foldl (stepM c.number) s) s).length ≤ s.length + manyN l := by
  intro l
  induction l with
  | nil => intro s; simp [manyN]
  | cons c l ih =>
   intro s
   have h1 := stepsM_len c.number c.moves s
   have h2 := ih (c.moves.foldl (stepM c.number) s)
   have e : manyN (c :: l) = c.moves.length + manyN l := by simp [manyN]
   rw [List.foldl_cons]; omega
 have := key l []
 unfold stateF
 simpa using this
theorem many_take (l : List CueD) (i : Nat) : manyN (l.take i) ≤ manyN l := by
 have e : l = l.take i ++ l.drop i := (List.take_append_drop i l).symm
 unfold manyN
 conv => rhs; rw [e, List.map_append, List.sum_append]
 omega
theorem c1_bind {β : Type} (b : Bool) (e e' : EntryD) (K : AV → Option β) : ((A.not (.bool b)).bind fun x60 => (A.guard x60 false (A.partA 2 2 (cEntry e)) (some (.tup []))).bind fun x61 => (A.guard x60 false (A.partA 2 2 (cEntry e')) (some (.tup []))).bind fun x62 => (A.guard x60 false (A.neq (.s [0, 0]) x61 x62) (some (.tup []))).bind fun x63 => (A.pick x60 (.bool true) x63).bind K) = K (.bool (!b || decide (¬ (e.value = e'.value)))) := by
 cases b
 ·rfl
 ·rw [notT, Option.bind_some, gdF, show A.partA 2 2 (cEntry e) = some (.agg (cValue e.value)) from rfl, Option.bind_some, gdF, show A.partA 2 2 (cEntry e') = some (.agg (cValue e'.value)) from rfl, Option.bind_some, gdF, ne_Value]
  rfl
theorem Copy_s {l : List CueD} (hl : okL okCue l) {m n : Int} (hm : inI m) (hn : inI n) (hok : formF l = 0 → hasC l m = true → (1 ≤ n ∧ n ≤ 9999999) → okL okCue (copyF l m n)) (σ : Heap) : m_cue_Copy [sl 11 cCue l, .int .i64 m, .int .i64 n] σ = some (.tup [sl 11 cCue (copyRes l m n).1, .int .i64 (copyRes l m n).2], σ) := by
 have run : r_cue_Copy (sl 11 cCue l) (.int .i64 m) (.int .i64 n) σ = some (.tup [sl 11 cCue (copyRes l m n).1, .int .i64 (copyRes l m n).2], σ) := by
  unfold r_cue_Copy copyRes
  rw [h_cue_form (form_t l hl), Option.bind_some, aNeI, Option.bind_some]
  by_cases hf : formF l = 0
  case neg =>
   rw [decide_eq_true hf, cnd_t, if_pos hf, fin_same, Option.map_some]; exact congrArg (fun z => some (z, σ)) nn_nil
  have hg := good_of hf
  have hlen := hg.len
  rw [decide_eq_false (by simp [hf]), cnd_f, if_neg (by simp [hf])]
  obtain ⟨p, e1, e2, e3⟩ := place_t hg hm σ
  obtain ⟨q, f1, f2, f3⟩ := place_t hg hn σ
  rw [e1, Option.bind_some, ext0, Option.bind_some, ext1, Option.bind_some, f1, Option.bind_some, ext0, Option.bind_some, ext1, Option.bind_some, show A.not (.bool (hasC l m)) = some (.bool (!hasC l m)) from rfl, Option.bind_some, When_8, Option.bind_some, h_cue_numberFault (a0 := n) (σ := σ) (r := (if (!(withinB n 1 9999999)) = true then 1 else 0)) rfl, Option.bind_some, When_eq, Option.bind_some]
  simp only
  rw [row3, Option.bind_some, First_eq _ (by simp [mxl]), Option.bind_some, find3]
  cases hh : hasC l m
  ·rw [show (if ¬ ((if (false : Bool) = false then (8 : Int) else 0) = 0) then (if (false : Bool) = false then (8 : Int) else 0) else if ¬ ((if (!(withinB n 1 9999999)) = true then (1 : Int) else 0) = 0) then (if (!(withinB n 1 9999999)) = true then (1 : Int) else 0) else if hasC l n = true then 6 else 0) = 8 from rfl, aNeI, Option.bind_some, decide_eq_true (by decide), cnd_t, if_pos rfl, fin_same, Option.map_some]
   exact congrArg (fun z => some (z, σ)) nn_nil
  rw [if_neg (show ¬ ((true : Bool) = false) by decide), if_neg (show ¬ ((true : Bool) = false) by decide), if_neg (show ¬ ¬ ((0 : Int) = 0) by decide)]
  have e4 := e3 (.inr hh)
  subst e4
  cases hw : withinB n 1 9999999
  ·rw [show (if ¬ ((if (!false) = true then (1 : Int) else 0) = 0) then (if (!false) = true then (1 : Int) else 0) else if hasC l n = true then 6 else 0) = 1 from rfl, aNeI, Option.bind_some, decide_eq_true (by decide), cnd_t, if_pos rfl, fin_same, Option.map_some]
   exact congrArg (fun z => some (z, σ)) nn_nil
  have hnb : 1 ≤ n ∧ n ≤ 9999999 := by unfold withinB at hw; simpa using hw
  have f4 := f3 (.inl hnb.1)
  subst f4
  rw [if_neg (show ¬ ((true : Bool) = false) by decide), show (if ¬ ((if (!true) = true then (1 : Int) else 0) = 0) then (if (!true) = true then (1 : Int) else 0) else if hasC l n = true then (6 : Int) else 0) = if hasC l n = true then 6 else 0 from rfl]
  cases ht : hasC l n
  case true =>
   rw [if_pos rfl, if_pos rfl, aNeI, Option.bind_some, decide_eq_true (by decide), cnd_t, fin_same, Option.map_some]
   exact congrArg (fun z => some (z, σ)) nn_nil
  rw [if_neg (by decide), if_neg (by decide), aNeI, Option.bind_some, decide_eq_false (by decide), cnd_f]
  have hok := hok hf hh hnb
  obtain ⟨x, hx, hxn⟩ := hasC_at hg hh
  have hal := (List.getElem?_eq_some_iff.1 hx).1
  have hxm := hg.mv x (List.mem_of_getElem? hx)
  have hcF : copyF l m n = copyTo l m n (cpKs (cpAt l n) (cpWant l m)) := rfl
  have hrow : ∀ ms, cpRow l m n ms = { x with number := n, moves := ms } := fun ms => by unfold cpRow; rw [hx]; rfl
  have hmany := (formF_zero.1 hf).2.2.2
  have small : ∀ i, i ≤ l.length → (stateF (l.take i)).length ≤ 10000 := fun i hi => Nat.le_trans (state_many _) (Nat.le_trans (many_take l i) hmany)
  have hcs : ∀ i, i ≤ l.length → ∀ s, A.quiet (m_cue_state [sl 11 cCue (l.take i)] s) s = some (fmS (stateF (l.take i))) := fun i hi s =>
   quiet_of (h_cue_state (state_t (by simp; unfold mxl; omega) (fun c hc => by have := (hg.mv c (List.mem_of_mem_take hc)).1; unfold mxl; omega)))
  have hple := posC_le l n
  generalize hs : posC l m = s at hx hal
  generalize ha : posC l n = a at hple
  obtain ⟨sa, hsa⟩ : ∃ sa, sa = stateF (l.take a) := ⟨_, rfl⟩
  obtain ⟨sw, hsw⟩ : ∃ sw, sw = stateF (l.take (s + 1)) := ⟨_, rfl⟩
  have hSa : SameS sa (cpAt l n) := by rw [hsa]; unfold cpAt; rw [ha]; exact same_state _
  have hSw : SameS sw (cpWant l m) := by rw [hsw]; unfold cpWant; rw [hs]; exact same_state _
  have hla : sa.length ≤ 10000 := hsa ▸ small a hple
  have hlw : sw.length ≤ 10000 := hsw ▸ small (s + 1) (by omega)
  rw [show A.sliceS 11 (sl 11 cCue l) none (some (.int .i64 (a : Int))) σ = some (sl 11 cCue (l.take a)) from sliceS_take 11 cCue l hple, Option.bind_some, hcs a hple, Option.bind_some, tadd1 (by omega), Option.bind_some, show A.sliceS 11 (sl 11 cCue l) none (some (.int .i64 ((s + 1 : Nat) : Int))) σ = some (sl 11 cCue (l.take (s + 1))) from sliceS_take 11 cCue l (by omega), Option.bind_some, hcs (s + 1) (by omega), Option.bind_some, ← hsa, ← hsw]
  rw [ix_for hx, Option.bind_some, show ((A.deref (.rp (cCue x)) σ).bind fun c => A.partA 0 11 c) = some (.agg (cCue x)) from pA_cCue x, Option.bind_some, ce_cCue, Option.bind_some, sp_cCue x _ rfl, Option.bind_some, show A.part1 7 (cCue x) = some (sl 2 cPoint x.curve.points) from rfl, Option.bind_some]
  obtain ⟨vp, s1, c1, c2, K1⟩ := cloP (small_of hg |>.2 x (List.mem_of_getElem? hx)).2 (hs_nil (B := anyB) σ)
  rw [c1, Option.bind_some]
  simp only
  rw [c2, Option.bind_some, Option.bind_some, show A.splice 7 [vp] (cCue x) = some (cCueH x vp (sl 8 cMove x.moves)) from rfl, Option.bind_some, show A.cell (.int .i64 n) = some (.int .i64 n) from rfl, Option.bind_some, Option.bind_some, show A.splice 0 [.int .i64 n] (cCueH x vp (sl 8 cMove x.moves)) = some (cCueH { x with number := n } vp (sl 8 cMove x.moves)) from rfl, Option.bind_some, show A.cell .nsl = some .nsl from rfl, Option.bind_some, Option.bind_some, show A.splice 10 [.nsl] (cCueH { x with number := n } vp (sl 8 cMove x.moves)) = some (cCueH { x with number := n } vp .nsl) from rfl, Option.bind_some]
  obtain ⟨c0, hc0⟩ : ∃ c0 : CueD, c0 = { x with number := n } := ⟨_, rfl⟩
  rw [← hc0, show A.rangeA (fmS sw) = some (sw.map encS) from rfl, Option.bind_some]
  have look : ∀ (st : List (KeyD × EntryD)) (k : KeyD) (s : Heap), A.lookOk (.s [0, 2]) (fmS st) (.agg (cKey k)) (AV.agg [(AV.int .i64 0), (AV.str ⟨#[]⟩), (AV.int .i64 0), (AV.int .i64 0), (AV.int .i64 0)]) s = some (.tup [.agg (cEntry ((tfind k st).getD ⟨⟨0, ⟨#[]⟩⟩, ⟨0, 0⟩, 0⟩)), .bool (tfind k st).isSome]) := fun st k s =>
   fm_lookOkT (ek := (.s [0, 2])) (eK := (fun x => (AV.agg (cKey x)))) (eV := (fun x => (AV.agg (cEntry x)))) eqk_Key k (⟨⟨0, ⟨#[]⟩⟩, ⟨0, 0⟩, 0⟩ : EntryD) rfl
  have hmove : ∀ (k : KeyD) (s : Heap), A.quiet (m_cue_move [fmS sw, .agg (cKey k)] s) s = some (.agg (cMove (mvOf k (tfind k sw)))) := fun k s => quiet_of (h_cue_move (move_t sw k))
  have hlb : ∀ vm, ((A.lb (.lbx (cCueH c0 vp vm))).bind fun _ => some 10) = some 10 := fun _ => rfl
  refine range_loop (α := KeyD × EntryD) (enc := encS) (it := s1.length) (es := sw) _ _ (fun _ _ _ => rfl) (fun d lf w s => ∃ vm c, w = [.lbx (cCueH c0 vp vm)] ∧ (cpU (cpC1 sa) sw d = [] → vm = .nsl) ∧ Hs anyB σ s (blk s1.length (.it c (lf.map encS)) * (Sl (fl cMove) 8 vm (cpU (cpC1 sa) sw d) * (Sl (fl cPoint) 2 vp x.curve.points * emp)))) ?_ ?_ ?_ ?_
  ·rintro d lf w s ⟨vm, c, rfl, _, K⟩
   exact ⟨c, (hs_get K).2⟩
  ·rintro d lf w s j p hp ⟨vm, c, rfl, hnil, K⟩ hj
   have K' := hs_set (b' := .it [encS p] ((lf.eraseIdx j).map encS)) K trivial
   obtain ⟨_, hgt⟩ := hs_get K'
   generalize s.set s1.length (Blk.it [encS p] ((lf.eraseIdx j).map encS)) = s16 at K' hgt ⊢
   have hdl : d.length ≤ sw.length := by have := hp.length_eq; simp at this; omega
   have hul := cpU_len (cpC1 sa) sw d
   have hent : A.entryA (.op s1.length 0) s16 = some (.tup [.agg (cKey p.1), .agg (cEntry p.2)]) := by simp only [A.entryA, hgt]; rfl
   cases hc : cpC1 sa p
   ·refine ⟨[.lbx (cCueH c0 vp vm)], s16, fun k => ?_, vm, _, rfl, fun q => hnil (by rw [cpU_app, if_neg (by rw [hc]; decide)] at q; exact q), by rw [cpU_app, if_neg (by rw [hc]; decide)]; exact K'⟩
    simp only [List.getD_cons_zero]
    rw [hent, Option.bind_some, ext0, Option.bind_some, ext1, Option.bind_some, show A.cells 2 (.agg (cKey p.1)) = some (cKey p.1) from rfl, Option.bind_some, show A.splice 0 (cKey p.1) [(AV.int .i64 0), (AV.str ⟨#[]⟩)] = some (cKey p.1) from rfl, Option.bind_some, show A.cells 5 (.agg (cEntry p.2)) = some (cEntry p.2) from rfl, Option.bind_some, sp_cEntry p.2 _ rfl, Option.bind_some, show A.partA 0 2 (cKey p.1) = some (.agg (cKey p.1)) from rfl, Option.bind_some, look, Option.bind_some, ext0, Option.bind_some, ext1, Option.bind_some, show ∀ e : EntryD, A.cells 5 (.agg (cEntry e)) = some (cEntry e) from fun _ => rfl, Option.bind_some, sp_cEntry _ _ rfl, Option.bind_some, c1_bind]
    rw [show (!(tfind p.1 sa).isSome || decide (¬ (p.2.value = ((tfind p.1 sa).getD ⟨⟨0, ⟨#[]⟩⟩, ⟨0, 0⟩, 0⟩).value))) = false from hc]
    simp only [cnd_f, Option.bind_some, List.getD_cons_zero]
   ·obtain ⟨vm', s', g1, K2⟩ := appM (B := anyB) (mvOf p.1 (tfind p.1 sw)) (by omega) (fun _ _ _ _ => trivial) (hs_eq (show _ = Sl (fl cMove) 8 vm (cpU (cpC1 sa) sw d) * (blk s1.length (.it [encS p] ((lf.eraseIdx j).map encS)) * (Sl (fl cPoint) 2 vp x.curve.points * emp)) by ac_rfl) K')
    have hcl := cell_sl (hs_eq (show _ = Sl (fl cMove) 8 vm (cpU (cpC1 sa) sw d) * (blk s1.length (.it [encS p] ((lf.eraseIdx j).map encS)) * (Sl (fl cPoint) 2 vp x.curve.points * emp)) by ac_rfl) K')
    refine ⟨[.lbx (cCueH c0 vp vm')], s', fun k => ?_, vm', [encS p], rfl, fun q => by rw [cpU_app, if_pos hc] at q; simp at q, hs_eq (by rw [cpU_app, if_pos hc]; ac_rfl) K2⟩
    simp only [List.getD_cons_zero]
    rw [hent, Option.bind_some, ext0, Option.bind_some, ext1, Option.bind_some, show A.cells 2 (.agg (cKey p.1)) = some (cKey p.1) from rfl, Option.bind_some, show A.splice 0 (cKey p.1) [(AV.int .i64 0), (AV.str ⟨#[]⟩)] = some (cKey p.1) from rfl, Option.bind_some, show A.cells 5 (.agg (cEntry p.2)) = some (cEntry p.2) from rfl, Option.bind_some, sp_cEntry p.2 _ rfl, Option.bind_some, show A.partA 0 2 (cKey p.1) = some (.agg (cKey p.1)) from rfl, Option.bind_some, look, Option.bind_some, ext0, Option.bind_some, ext1, Option.bind_some, show ∀ e : EntryD, A.cells 5 (.agg (cEntry e)) = some (cEntry e) from fun _ => rfl, Option.bind_some, sp_cEntry _ _ rfl, Option.bind_some, c1_bind]
    rw [show (!(tfind p.1 sa).isSome || decide (¬ (p.2.value = ((tfind p.1 sa).getD ⟨⟨0, ⟨#[]⟩⟩, ⟨0, 0⟩, 0⟩).value))) = true from hc]
    rw [cnd_t, hlb, Option.bind_some, show A.lb (.lbx (cCueH c0 vp vm)) = some (cCueH c0 vp vm) from rfl]
    simp only [Option.bind_some]
    rw [part_cell hcl (cCueH c0 vp vm) 10 rfl, Option.bind_some, hmove, Option.bind_some, row_move, Option.bind_some, g1, Option.bind_some]
    simp only
    rw [cell_sl K2]
    simp only [Option.bind_some]
    rw [show A.splice 10 [vm'] (cCueH c0 vp vm) = some (cCueH c0 vp vm') from rfl, Option.bind_some, Option.bind_some]
    simp only [List.getD_cons_zero]
  ·rintro d1 w s hp1 ⟨vm, c, rfl, hnil, K⟩
   have K2 := hs_drop K
   simp only [exb, List.getD_cons_zero]
   rw [show A.rangeA (fmS sa) = some (sa.map encS) from rfl, Option.bind_some]
   have hd1 : d1.length = sw.length := hp1.length_eq
   have hu1 := cpU_len (cpC1 sa) sw d1
   obtain ⟨U, hU⟩ : ∃ U, U = cpU (cpC1 sa) sw d1 := ⟨_, rfl⟩
   rw [← hU] at K2 hnil hu1
   refine range_loop (α := KeyD × EntryD) (enc := encS) (it := s.length) (es := sa) _ _ (fun _ _ _ => rfl) (fun d lf w s' => ∃ vm c, w = [.lbx (cCueH c0 vp vm)] ∧ (U ++ cpU (cpC2 sw) sw d = [] → vm = .nsl) ∧ Hs anyB σ s' (blk s.length (.it c (lf.map encS)) * (Sl (fl cMove) 8 vm (U ++ cpU (cpC2 sw) sw d) * (Sl (fl cPoint) 2 vp x.curve.points * emp)))) ?_ ?_ ?_ ?_
   ·rintro d lf w s' ⟨vm, c, rfl, _, K⟩
    exact ⟨c, (hs_get K).2⟩
   ·rintro d lf w s' j p hp ⟨vm, c, rfl, hnil, K⟩ hj
    have K' := hs_set (b' := .it [encS p] ((lf.eraseIdx j).map encS)) K trivial
    obtain ⟨_, hgt⟩ := hs_get K'
    generalize s'.set s.length (Blk.it [encS p] ((lf.eraseIdx j).map encS)) = s16 at K' hgt ⊢
    have hdl : d.length ≤ sa.length := by have := hp.length_eq; simp at this; omega
    have hul := cpU_len (cpC2 sw) sw d
    have hent : A.entryA (.op s.length 0) s16 = some (.tup [.agg (cKey p.1), .agg (cEntry p.2)]) := by simp only [A.entryA, hgt]; rfl
    cases hc : cpC2 sw p
    ·refine ⟨[.lbx (cCueH c0 vp vm)], s16, fun k => ?_, vm, _, rfl, fun q => hnil (by rw [cpU_app, if_neg (by rw [hc]; decide)] at q; exact q), by rw [cpU_app, if_neg (by rw [hc]; decide)]; exact K'⟩
     simp only [List.getD_cons_zero]
     rw [hent, Option.bind_some, ext0, Option.bind_some, show A.cells 2 (.agg (cKey p.1)) = some (cKey p.1) from rfl, Option.bind_some, show A.splice 0 (cKey p.1) [(AV.int .i64 0), (AV.str ⟨#[]⟩)] = some (cKey p.1) from rfl, Option.bind_some, show A.partA 0 2 (cKey p.1) = some (.agg (cKey p.1)) from rfl, Option.bind_some, look, Option.bind_some, ext0, Option.bind_some, ext1, Option.bind_some, show ∀ e : EntryD, A.cells 5 (.agg (cEntry e)) = some (cEntry e) from fun _ => rfl, Option.bind_some, sp_cEntry _ _ rfl, Option.bind_some, show A.not (.bool (tfind p.1 sw).isSome) = some (.bool (cpC2 sw p)) from rfl, hc, Option.bind_some]
     simp only [cnd_f, Option.bind_some, List.getD_cons_zero]
    ·obtain ⟨vm', s2, g1, K2⟩ := appM (B := anyB) (mvOf p.1 (tfind p.1 sw)) (by rw [List.length_append]; omega) (fun _ _ _ _ => trivial) (hs_eq (show _ = Sl (fl cMove) 8 vm (U ++ cpU (cpC2 sw) sw d) * (blk s.length (.it [encS p] ((lf.eraseIdx j).map encS)) * (Sl (fl cPoint) 2 vp x.curve.points * emp)) by ac_rfl) K')
     have hcl := cell_sl (hs_eq (show _ = Sl (fl cMove) 8 vm (U ++ cpU (cpC2 sw) sw d) * (blk s.length (.it [encS p] ((lf.eraseIdx j).map encS)) * (Sl (fl cPoint) 2 vp x.curve.points * emp)) by ac_rfl) K')
     refine ⟨[.lbx (cCueH c0 vp vm')], s2, fun k => ?_, vm', [encS p], rfl, fun q => by rw [cpU_app, if_pos hc, ← List.append_assoc] at q; simp at q, hs_eq (by rw [cpU_app, if_pos hc, ← List.append_assoc]; ac_rfl) K2⟩
     simp only [List.getD_cons_zero]
     rw [hent, Option.bind_some, ext0, Option.bind_some, show A.cells 2 (.agg (cKey p.1)) = some (cKey p.1) from rfl, Option.bind_some, show A.splice 0 (cKey p.1) [(AV.int .i64 0), (AV.str ⟨#[]⟩)] = some (cKey p.1) from rfl, Option.bind_some, show A.partA 0 2 (cKey p.1) = some (.agg (cKey p.1)) from rfl, Option.bind_some, look, Option.bind_some, ext0, Option.bind_some, ext1, Option.bind_some, show ∀ e : EntryD, A.cells 5 (.agg (cEntry e)) = some (cEntry e) from fun _ => rfl, Option.bind_some, sp_cEntry _ _ rfl, Option.bind_some, show A.not (.bool (tfind p.1 sw).isSome) = some (.bool (cpC2 sw p)) from rfl, hc, Option.bind_some]
     rw [cnd_t, hlb, Option.bind_some, show A.lb (.lbx (cCueH c0 vp vm)) = some (cCueH c0 vp vm) from rfl]
     simp only [Option.bind_some]
     rw [part_cell hcl (cCueH c0 vp vm) 10 rfl, Option.bind_some, hmove, Option.bind_some, row_move, Option.bind_some, g1, Option.bind_some]
     simp only
     rw [cell_sl K2]
     simp only [Option.bind_some]
     rw [show A.splice 10 [vm'] (cCueH c0 vp vm) = some (cCueH c0 vp vm') from rfl, Option.bind_some, Option.bind_some]
     simp only [List.getD_cons_zero]
   ·rintro d2 w s' hp2 ⟨vm, c, rfl, hnil, K⟩
    have K2 := hs_drop K
    have hd2 : d2.length = sa.length := hp2.length_eq
    have hu2 := cpU_len (cpC2 sw) sw d2
    rw [hU] at K2 hnil
    have hul : (cpU (cpC1 sa) sw d1 ++ cpU (cpC2 sw) sw d2).length ≤ 20000 := by rw [List.length_append]; have := cpU_len (cpC1 sa) sw d1; omega
    simp only [exb2, List.getD_cons_zero]
    rw [hlb, Option.bind_some, show A.lb (.lbx (cCueH c0 vp vm)) = some (cCueH c0 vp vm) from rfl]
    simp only [Option.bind_some]
    rw [part_cell (cell_sl K2) (cCueH c0 vp vm) 10 rfl, Option.bind_some]
    letI : Inhabited MoveD := ⟨⟨⟨0, ⟨#[]⟩⟩, ⟨0, 0⟩, false, false, 0, 0⟩⟩
    have hres := cp_sorted hSa hSw hp1 hp2
    obtain ⟨ks, hks⟩ : ∃ ks, ks = cpKs (cpAt l n) (cpWant l m) := ⟨_, rfl⟩
    obtain ⟨M, hM⟩ : ∃ M, M = cpMs (cpWant l m) ks := ⟨_, rfl⟩
    rw [← hks, ← hM] at hres
    have hMl : M.length ≤ 20000 := by rw [← hres, (pdqL_spec (swo_key fun e : MoveD => e.key) _).1.length_eq]; exact hul
    have hsort : ∃ s3, m_slices_SortFunc_Move [vm, .fn 271 []] s' = some (.tup [], s3) ∧ Hs anyB σ s3 (Sl (fl cMove) 8 vm M * (Sl (fl cPoint) 2 vp x.curve.points * emp)) := by
     by_cases hd : cpU (cpC1 sa) sw d1 ++ cpU (cpC2 sw) sw d2 = []
     ·rw [hnil hd] at K2 ⊢
      refine ⟨s', rfl, ?_⟩
      rw [hd] at hres K2
      have : M = [] := by
       rw [← hres]
       exact List.eq_nil_of_length_eq_zero (by rw [(pdqL_spec (swo_key fun e : MoveD => e.key) []).1.length_eq]; rfl)
      rw [this]; exact K2
     ·obtain ⟨s3, g1, K3⟩ := sort_own (cf := fun a b : MoveD => cmpKey a.key b.key) cMove_inj hd (by omega) (swo_key fun e : MoveD => e.key) K2
      rw [hres] at K3
      exact ⟨s3, g1, K3⟩
    obtain ⟨s3, g1, K3⟩ := hsort
    rw [g1, Option.bind_some]
    obtain ⟨v, s4, g2, K4⟩ := copied_s (small_of hg) (by unfold mxl; omega) K3
    simp only
    rw [g2, Option.bind_some, show A.partA 0 11 (cCueH c0 vp vm) = some (.agg (cCueH c0 vp vm)) from rfl, Option.bind_some, row_cueH, Option.bind_some]
    obtain ⟨c1, hc1⟩ : ∃ c1 : CueD, c1 = { x with number := n, moves := M } := ⟨_, rfl⟩
    have hrow1 : cCueH c0 vp vm = cCueH c1 vp vm := by rw [hc0, hc1]; rfl
    obtain ⟨v', s5, g3, K5⟩ := insJ (c := c1) (e := cCueH c0 vp vm) (i := a) (by simpa using hple) (by simp; omega) (toJ K4)
    simp only
    rw [g3, Option.bind_some, lenS_sl, Option.bind_some, tlss, Option.bind_some]
    have hF : copyF l m n = setMv (insAt l a c1) (a + 1) fun old => ks.foldl (restP fun k => mvOf k (lookE (cpAt l n) k)) old := by
     unfold copyF copyTo
     rw [ha, hrow, ← hks, ← hM, ← hc1]
    have hfin : ∀ s6, Hs anyB σ s6 (Sl CueE 11 v' (copyF l m n) * emp) → (((m_cue_done [v'] s6).bind fun r137 =>
     (A.ext 0 r137.1).bind fun x138 =>
     (A.ext 1 r137.1).bind fun x139 =>
     (A.fin σ (AV.tup [x138, x139]) r137.2).map fun p => (A.nn (.t [(.e 11 [.k, .k, .k, .k, .k, .k, .k, (.s 2), .k, .k, (.s 8)]), .k]) p.1, p.2))) = some (.tup [sl 11 cCue (doneF (copyF l m n)).1, .int .i64 (doneF (copyF l m n)).2], σ) := by
     intro s6 K6
     rw [done_own K6 hok, Option.bind_some, ext0, Option.bind_some, ext1, Option.bind_some, doneF_pair]
     by_cases hq : formF (copyF l m n) = 0
     ·rw [if_pos hq, if_pos hq]
      obtain ⟨w', j1, j2⟩ := fin_ret (e := formF (copyF l m n)) (cues_weak K6)
      rw [j1, Option.map_some]
      exact congrArg (fun z => some (z, σ)) (nn_ret j2)
     ·rw [if_neg hq, if_neg hq, fin_nil K6, Option.map_some]
      exact congrArg (fun z => some (z, σ)) nn_nil
    have hclose : ∀ s6 (L : List (CueD × Option (List AV))), L[a]? = some (c1, some (cCueH c0 vp vm)) → (∀ i y, L[i]? = some y → i ≠ a → y.2 = none) → L.map (·.1) = copyF l m n → Hs anyB σ s6 (Sl CueJ 11 v' L * (Sl (fl cMove) 8 vm M * (Sl (fl cPoint) 2 vp x.curve.points * emp))) → Hs anyB σ s6 (Sl CueE 11 v' (copyF l m n) * emp) := by
     intro s6 L q1 q2 q3 K6
     rw [← q3]
     refine unJ q1 q2 ?_
     have K7 := cueP_of (M := Sl (fl cMove) 8) (x := c1) (e := cCueH c0 vp vm) (vp := vp) (vm := vm) (R := Sl CueJ 11 v' L * emp) (B := anyB) (σ0 := σ) (σ := s6) hrow1 (by
      rw [hc1]
      exact hs_eq (by ac_rfl) (sf_own (hs_eq (show _ = Sl (fl cPoint) 2 vp x.curve.points * (Sl (fl cMove) 8 vm M * (Sl CueJ 11 v' L * emp)) by ac_rfl) K6)))
     exact hs_eq (by rw [show CueE (cCueH c0 vp vm) c1 = CueP (Sl (fl cMove) 8) (cCueH c0 vp vm) c1 from rfl]; ac_rfl) K7
    have hother : ∀ i y, ((l.map fun c => (c, (none : Option (List AV)))).take a ++ [(c1, some (cCueH c0 vp vm))] ++ (l.map fun c => (c, none)).drop a)[i]? = some y → i ≠ a → y.2 = none := by
     intro i y hy hi
     rw [jAt hple] at hy
     by_cases q : i < a
     ·rw [if_pos q] at hy
      obtain ⟨z, _, rfl⟩ := Option.map_eq_some_iff.1 hy; rfl
     ·rw [if_neg q, if_neg hi] at hy
      obtain ⟨z, _, rfl⟩ := Option.map_eq_some_iff.1 hy; rfl
    have hat : ((l.map fun c => (c, (none : Option (List AV)))).take a ++ [(c1, some (cCueH c0 vp vm))] ++ (l.map fun c => (c, none)).drop a)[a]? = some (c1, some (cCueH c0 vp vm)) := by rw [jAt hple, if_neg (Nat.lt_irrefl a), if_pos rfl]
    have hfst : ((l.map fun c => (c, (none : Option (List AV)))).take a ++ [(c1, some (cCueH c0 vp vm))] ++ (l.map fun c => (c, (none : Option (List AV)))).drop a).map (fun y : CueD × Option (List AV) => y.1) = insAt l a c1 := by
     unfold insAt
     simp [List.map_append, List.map_take, List.map_drop, Function.comp_def]
    by_cases hlt : a < l.length
    ·have hy : l[a]? = some l[a] := List.getElem?_eq_getElem hlt
     generalize l[a] = y at hy
     have hym := hg.mv y (List.mem_of_getElem? hy)
     have hy1 : ((l.map fun c => (c, (none : Option (List AV)))).take a ++ [(c1, some (cCueH c0 vp vm))] ++ (l.map fun c => (c, none)).drop a)[a + 1]? = some (y, none) := by
      rw [jAt hple, if_neg (by omega), if_neg (by omega), Nat.add_sub_cancel, hy]; rfl
     obtain ⟨p, F, e, h1, hC, K6, back⟩ := sl_cell K5 hy1
     rw [decide_eq_true hlt, cnd_t, tadd1 (by omega), Option.bind_some, h1, Option.bind_some, Option.bind_some, show A.sliceS 11 (sl 11 cCue l) none (some (.int .i64 ((a + 1 : Nat) : Int))) s5 = some (sl 11 cCue (l.take (a + 1))) from sliceS_take 11 cCue l (by omega), Option.bind_some, hcs (a + 1) (by omega), Option.bind_some]
     have hmv : Hs anyB σ s5 (Sl (fl cMove) 8 vm M * (F e * (CueE e y * (Sl (fl cPoint) 2 vp x.curve.points * emp)))) := hs_eq (by rw [show CueJ e (y, none) = CueE e y from rfl]; ac_rfl) K6
     have hko : A.quiet (A.finC (.s 2) m_cue_keysOf [vm] s5) s5 = some (sl 2 cKey (M.map (·.key))) :=
      quiet_of (lent_fin fz_cKey (ain := [.s 8]) (ts := [sl 8 cMove M]) ⟨lt_slf fz_cMove hmv, trivial⟩ (keysOf_s (by omega)))
     rw [Option.bind_some]
     simp only
     rw [hko, Option.bind_some]
     obtain ⟨s6, e6, g4, K7⟩ := restoreF_s (ks := M.map (·.key)) (stateF (l.take (a + 1))) hC hym.2 (by have := hym.1; rw [List.length_map]; omega) (hs_eq (show _ = F e * (CueE e y * (Sl (fl cMove) 8 vm M * (Sl (fl cPoint) 2 vp x.curve.points * emp))) by ac_rfl) hmv)
     rw [g4, Option.bind_some, Option.bind_some]
     simp only
     refine hfin s6 (hclose s6 _ ?_ ?_ ?_ (back (y := ({ y with moves := (M.map (·.key)).foldl (restP fun k => mvOf k (tfind k (stateF (l.take (a + 1))))) y.moves }, none)) K7))
     ·rw [List.getElem?_set, if_neg (by omega), hat]
     ·intro i z hz hi
      rw [List.getElem?_set] at hz
      split at hz
      ·split at hz
       ·injection hz with hz; rw [← hz]
       ·cases hz
      ·exact hother i z hz hi
     ·rw [List.map_set, hfst, hF]
      have hyi : (insAt l a c1)[a + 1]? = some y := by rw [insAt_at hple, if_neg (by omega), if_neg (by omega), Nat.add_sub_cancel, hy]
      unfold setMv
      rw [hyi]
      simp only
      congr 2
      have h1 : (M.map (·.key)).foldl (restP fun k => mvOf k (tfind k (stateF (l.take (a + 1))))) y.moves = (M.map (·.key)).foldl (restP fun k => mvOf k (lookE (cpAt l n) k)) y.moves := by
       refine rest_same _ hym.2 (fun k => mvOf_key k _) (fun k _ hk => ?_)
       rw [(same_state _).2.2 k]
       unfold cpAt
       rw [ha, List.take_add_one, hy, Option.toList_some, beforeF, List.foldl_append]
       have := look_cues (k := k) [y] (beforeF_srt (l.take a)) (fun c hc => by rw [List.mem_singleton.1 hc]; exact hk)
       exact congrArg (mvOf k) this
      rw [h1]
      refine rest_eq hym.2 (fun k => mvOf_key k _) (fun k => mvOf_key k _) (fun k => ?_) (fun _ _ => rfl)
      rw [hM]
      unfold cpMs
      rw [List.mem_map]
      constructor
      ·rintro ⟨z, hz, rfl⟩
       obtain ⟨k, hk, rfl⟩ := (fput_mem (g := fun k => mvOf k (lookE (cpWant l m) k)) (fun k => mvOf_key k _) ks z).1 hz
       rw [mvOf_key]; exact hk
      ·intro hk
       exact ⟨mvOf k (lookE (cpWant l m) k), (fput_mem (g := fun k => mvOf k (lookE (cpWant l m) k)) (fun k => mvOf_key k _) ks _).2 ⟨k, hk, rfl⟩, mvOf_key k _⟩
    ·rw [decide_eq_false hlt, cnd_f, Option.bind_some]
     simp only
     refine hfin s5 (hclose s5 _ hat hother ?_ K5)
     rw [hfst, hF]
     have : (insAt l a c1)[a + 1]? = none := by rw [insAt_at hple, if_neg (by omega), if_neg (by omega)]; exact List.getElem?_eq_none_iff.2 (by omega)
     unfold setMv
     rw [this]
   ·have K3 := hs_new (b := Blk.it [] (sa.map encS)) K2 trivial
    refine ⟨vm, [], rfl, fun q => hnil (by simpa [cpU] using q), ?_⟩
    simpa [cpU] using K3
  ·have K2 := hs_new (b := Blk.it [] (sw.map encS)) K1 trivial
   refine ⟨.nsl, [], rfl, fun _ => rfl, ?_⟩
   exact hs_eq (show _ = blk s1.length (Blk.it [] (sw.map encS)) * (Sl (fl cMove) 8 .nsl [] * (Sl (fl cPoint) 2 vp x.curve.points * emp)) by ac_rfl) (slz (v := .nsl) (E := fl cMove) (sz := 8) K2 (.inl rfl))
 refine wrap_eq rfl ?_ nn_two
 rw [show A.nnL [Sh.e 11 [.k, .k, .k, .k, .k, .k, .k, .s 2, .k, .k, .s 8]] [sl 11 cCue l, .int .i64 m, .int .i64 n] = [sl 11 cCue l, .int .i64 m, .int .i64 n] from nn_arg1 l _]
 exact run
end Go.Proofs.Ytphgchakmkankaa

namespace Go.Proofs.Ytphgchakmkankaa
set_option linter.unusedSectionVars false
set_option linter.unusedVariables false
set_option linter.unusedSimpArgs false
open HP
theorem before_many (l : List CueD) : (beforeF l).length ≤ manyN l := by
 have key : ∀ (l : List CueD) (st : List EntryD), srtE st → (l.foldl afterF st).length ≤ st.length + manyN l := by
  intro l
  induction l with
  | nil => intro s _; simp [manyN]
  | cons c l ih =>
   intro s hs
   obtain ⟨h1, h2⟩ := fold_stepE (n := c.number) c.moves hs
   have h3 := ih (c.moves.foldl (stepE c.number) s) h1
   have e : manyN (c :: l) = c.moves.length + manyN l := by simp [manyN]
   rw [List.foldl_cons]
   show (l.foldl afterF (c.moves.foldl (stepE c.number) s)).length ≤ _
   omega
 have := key l [] List.Pairwise.nil
 unfold beforeF
 simpa using this
theorem fput_len (g : KeyD → MoveD) : ∀ (ks : List KeyD) (z : List MoveD), (ks.foldl (fun ms k => putM ms (g k)) z).length ≤ z.length + ks.length
 | [], z => Nat.le_refl _
 | k :: ks, z => by
  have h1 := fput_len g ks (putM z (g k))
  have h2 := put_len z (g k)
  simp only [List.foldl_cons, List.length_cons]; omega
theorem copyTo_at {l : List CueD} (m n : Int) (ks : List KeyD) : (copyTo l m n ks)[posC l n]? = some (cpRow l m n (cpMs (cpWant l m) ks)) := by
 unfold copyTo
 rw [setMv_get, if_neg (by omega), insAt_at (posC_le l n), if_neg (Nat.lt_irrefl _), if_pos rfl]
theorem copyTo_next {l : List CueD} (m n : Int) (ks : List KeyD) : (copyTo l m n ks)[posC l n + 1]? = (l[posC l n]?).map fun c => { c with moves := ks.foldl (restP fun k => mvOf k (lookE (cpAt l n) k)) c.moves } := by
 unfold copyTo
 rw [setMv_get, if_pos rfl, insAt_at (posC_le l n), if_neg (by omega), if_neg (by omega), Nat.add_sub_cancel]
theorem copyTo_len {l : List CueD} (m n : Int) (ks : List KeyD) : (copyTo l m n ks).length = l.length + 1 := by
 unfold copyTo; rw [setMv_len, len_insAt (posC_le l n)]
end Go.Proofs.Ytphgchakmkankaa

namespace Go.Proofs.Ytphgchakmkankaa
set_option linter.unusedSectionVars false
set_option linter.unusedSimpArgs false
set_option linter.unusedVariables false
theorem okL_nil : okL okCue [] := ⟨Nat.zero_le _, by simp⟩
theorem delRes_ok {l : List CueD} (hl : okL okCue l) (n way : Int) : okL okCue (delRes l n way).1 := by
 unfold delRes
 split
 ·exact okL_nil
 rename_i hf
 split
 ·exact okL_nil
 rename_i hh
 split
 ·exact okL_nil
 have hg := good_of (Decidable.not_not.1 hf)
 obtain ⟨x, hx, _⟩ := hasC_at hg (by simpa using hh)
 obtain ⟨k1, k2⟩ := okC_del hl.2 (inv_good hg) hx way
 unfold doneF
 split
 ·exact okL_of k1 k2
 ·exact okL_nil
end Go.Proofs.Ytphgchakmkankaa

namespace Go.Proofs.Ytphgchakmkankaa
set_option linter.unusedSectionVars false
set_option linter.unusedVariables false
set_option linter.unusedSimpArgs false
open HP
theorem before_val {l : List CueD} (hl : OkC l) (i : Nat) {k : KeyD} : ∀ e, lookE (beforeF (l.take i)) k = some e → okValue e.value := by
 intro e he
 rw [← (same_state _).2.2] at he
 obtain ⟨p, hp, rfl⟩ := mem_tfind he
 exact state_ok (P := okValue) (fun c hc m hm => ((hl c (List.mem_of_mem_take hc)).2.2.2.2.2.2.2.2.2 m hm).2.1) p hp
theorem before_key {l : List CueD} (hl : OkC l) (i : Nat) : ∀ e ∈ beforeF (l.take i), okKey e.key :=
 key_ok (fun c hc m hm => ((hl c (List.mem_of_mem_take hc)).2.2.2.2.2.2.2.2.2 m hm).1)
theorem cpKs_ok {l : List CueD} (hl : OkC l) (m n : Int) : ∀ k ∈ cpKs (cpAt l n) (cpWant l m), okKey k := by
 intro k hk
 unfold cpKs cpAll at hk
 rcases List.mem_append.1 (List.mem_filter.1 hk).1 with h | h
 ·obtain ⟨e, he, rfl⟩ := List.mem_map.1 h
  exact before_key hl _ e he
 ·obtain ⟨e, he, rfl⟩ := List.mem_map.1 h
  exact before_key hl _ e (List.mem_filter.1 he).1
theorem cpKs_len {l : List CueD} (hmany : manyN l ≤ 10000) (m n : Int) : (cpKs (cpAt l n) (cpWant l m)).length ≤ 20000 := by
 have h1 : (cpAt l n).length ≤ 10000 := Nat.le_trans (before_many _) (Nat.le_trans (many_take l _) hmany)
 have h2 : (cpWant l m).length ≤ 10000 := Nat.le_trans (before_many _) (Nat.le_trans (many_take l _) hmany)
 unfold cpKs cpAll
 have h3 := List.length_filter_le (cpNe (cpAt l n) (cpWant l m)) ((cpAt l n).map (·.key) ++ ((cpWant l m).filter fun e => !hasE (cpAt l n) e.key).map (·.key))
 have h4 := List.length_filter_le (fun e : EntryD => !hasE (cpAt l n) e.key) (cpWant l m)
 rw [List.length_append, List.length_map, List.length_map] at h3
 omega
theorem fput_ok {g : KeyD → MoveD} (hg : ∀ k, (g k).key = k) (ks : List KeyD) (h : ∀ k ∈ ks, okMove (g k)) : ∀ x ∈ ks.foldl (fun ms k => putM ms (g k)) [], okMove x := by
 intro x hx
 obtain ⟨k, hk, rfl⟩ := (fput_mem hg ks x).1 hx
 exact h k hk
theorem copyF_ok {l : List CueD} (hl : OkC l) (hg : Good l) (hmany : manyN l ≤ 10000) {m n : Int} (hh : hasC l m = true) (hn : inI n) : okL okCue (copyF l m n) := by
 obtain ⟨x, hx, hxn⟩ := hasC_at hg hh
 have hok := hl x (List.mem_of_getElem? hx)
 have hkl := cpKs_len hmany m n
 have hko := cpKs_ok hl m n
 have hlen := hg.len
 refine ⟨by unfold copyF; rw [copyTo_len]; unfold mxl; omega, ?_⟩
 unfold copyF copyTo
 have hrow : okCue (cpRow l m n (cpMs (cpWant l m) (cpKs (cpAt l n) (cpWant l m)))) := by
  unfold cpRow
  rw [hx, Option.getD_some]
  refine ⟨hn, hok.2.1, hok.2.2.1, hok.2.2.2.1, hok.2.2.2.2.1, hok.2.2.2.2.2.1, hok.2.2.2.2.2.2.1, hok.2.2.2.2.2.2.2.1, ?_, ?_⟩
  ·have := fput_len (fun k => mvOf k (lookE (cpWant l m) k)) (cpKs (cpAt l n) (cpWant l m)) []
   show (cpMs _ _).length ≤ _
   unfold cpMs
   simp at this; unfold mxl; omega
  ·exact fput_ok (fun k => mvOf_key k _) _ (fun k hk => mvOf_ok (hko k hk) (before_val hl _))
 refine okC_set (fun c hc => ?_) _ fun c hc => ?_
 ·rcases mem_insAt hc with hc | rfl
  ·exact hl c hc
  ·exact hrow
 ·have hmv : srtM c.moves ∧ c.moves.length ≤ 30000 ∧ ∀ m ∈ c.moves, okMove m := by
   rcases mem_insAt hc with hc | rfl
   ·have := hg.mv c hc
    exact ⟨this.2, by omega, (hl c hc).2.2.2.2.2.2.2.2.2⟩
   ·refine ⟨fput_srt _ _ List.Pairwise.nil, ?_, hrow.2.2.2.2.2.2.2.2.2⟩
    have := fput_len (fun k => mvOf k (lookE (cpWant l m) k)) (cpKs (cpAt l n) (cpWant l m)) []
    show (cpMs _ _).length ≤ _
    unfold cpMs
    simp at this; omega
  obtain ⟨r1, r2⟩ := rest_fold (g := fun k => mvOf k (lookE (cpAt l n) k)) (cpKs (cpAt l n) (cpWant l m)) hmv.1
  refine ⟨Nat.le_trans r2 (by unfold mxl; omega), rest_ok _ (fun k hk => mvOf_ok (hko k hk) (before_val hl _)) hmv.2.2⟩
theorem copyRes_ok {l : List CueD} (hl : okL okCue l) (m : Int) {n : Int} (hn : inI n) : okL okCue (copyRes l m n).1 := by
 unfold copyRes
 split
 ·exact okL_nil
 rename_i hf
 split
 ·exact okL_nil
 rename_i hh
 split
 ·exact okL_nil
 split
 ·exact okL_nil
 have hf := Decidable.not_not.1 hf
 rw [doneF_pair]
 simp only
 split
 ·exact copyF_ok hl.2 (good_of hf) (formF_zero.1 hf).2.2.2 (by simpa using hh) hn
 ·exact okL_nil
theorem Copy_t {l : List CueD} (hl : okL okCue l) {m n : Int} (hm : inI m) (hn : inI n) (σ : Heap) : m_cue_Copy [sl 11 cCue l, .int .i64 m, .int .i64 n] σ = some (.tup [sl 11 cCue (copyRes l m n).1, .int .i64 (copyRes l m n).2], σ) :=
 Copy_s hl hm hn (fun hf hh _ => copyF_ok hl.2 (good_of hf) (formF_zero.1 hf).2.2.2 hh hn) σ
theorem tup_ret {l : List CueD} {e : Int} (σ : Heap) : ∃ b, A.fin σ (.tup [sl 11 cCue l, .int .i64 e]) σ = some b ∧ b.2 = σ ∧ A.nn (.t [(.e 11 shCue), .k]) b.1 = .tup [sl 11 cCue l, .int .i64 e] := ⟨_, fin_same _ _, rfl, nn_ret (nn_idem_cues l)⟩
def shiftRes (l : List CueD) (m n : Int) : List CueD × Int := if ¬ ((copyRes l m n).2 = 0) then ([], (copyRes l m n).2) else delRes (copyRes l m n).1 m 2
theorem Shift_t {l : List CueD} (hl : okL okCue l) {m n : Int} (hm : inI m) (hn : inI n) (σ : Heap) : m_cue_Shift [sl 11 cCue l, .int .i64 m, .int .i64 n] σ = some (.tup [sl 11 cCue (shiftRes l m n).1, .int .i64 (shiftRes l m n).2], σ) := by
 have run : ∃ b, r_cue_Shift (sl 11 cCue l) (.int .i64 m) (.int .i64 n) σ = some b ∧ b.2 = σ ∧ A.nn (.t [(.e 11 shCue), .k]) b.1 = .tup [sl 11 cCue (shiftRes l m n).1, .int .i64 (shiftRes l m n).2] := by
  unfold r_cue_Shift shiftRes
  rw [Copy_t hl hm hn, Option.bind_some, ext0, Option.bind_some, ext1, Option.bind_some, aNeI, Option.bind_some]
  by_cases hz : (copyRes l m n).2 = 0
  ·rw [decide_eq_false (by simp [hz]), cnd_f, if_neg (by simp [hz]), Delete_s (copyRes_ok hl m hn) hm, Option.bind_some, ext0, Option.bind_some, ext1, Option.bind_some]
   exact tup_ret σ
  ·rw [decide_eq_true hz, cnd_t, if_pos hz]
   exact ⟨_, fin_same _ _, rfl, nn_nil⟩
 obtain ⟨⟨b, s⟩, h1, h2, h3⟩ := run
 simp only at h2 h3
 subst h2
 refine wrap_eq rfl ?_ h3
 rw [show A.nnL [Sh.e 11 [.k, .k, .k, .k, .k, .k, .k, .s 2, .k, .k, .s 8]] [sl 11 cCue l, .int .i64 m, .int .i64 n] = [sl 11 cCue l, .int .i64 m, .int .i64 n] from nn_arg1 l _]
 exact h1
theorem shiftRes_ok {l : List CueD} (hl : okL okCue l) (m : Int) {n : Int} (hn : inI n) : okL okCue (shiftRes l m n).1 := by
 unfold shiftRes
 split
 ·exact okL_nil
 ·exact delRes_ok (copyRes_ok hl m hn) m 2
end Go.Proofs.Ytphgchakmkankaa

namespace Go.Proofs.Ytphgchakmkankaa
set_option linter.unusedSectionVars false
set_option linter.unusedVariables false
set_option linter.unusedSimpArgs false
def mergeM (ms gone : List MoveD) : List MoveD := gone.foldl (fun ms m => if hasM ms m.key = true then ms else putM ms m) ms
theorem merge_srt : ∀ (gone : List MoveD) {ms : List MoveD}, srtM ms → srtM (mergeM ms gone)
 | [], _, h => h
 | m :: gone, ms, h => by
  unfold mergeM
  rw [List.foldl_cons]
  refine merge_srt gone (ms := if hasM ms m.key = true then ms else putM ms m) ?_
  split
  ·exact h
  ·exact srt_put h m
theorem mvK_merge {k : KeyD} : ∀ (gone : List MoveD) {ms : List MoveD}, srtM ms → srtM gone → mvK (mergeM ms gone) k = if hasM ms k = true then mvK ms k else mvK gone k
 | [], ms, _, _ => by
  show mvK ms k = _
  cases hh : hasM ms k
  ·simp only [Bool.false_eq_true, if_false]; rw [mvK_none.2 hh]; rfl
  ·simp
 | m :: gone, ms, hs, hg => by
  have hg' := List.pairwise_cons.1 hg
  have hs' : srtM (if hasM ms m.key = true then ms else putM ms m) := by
   split
   ·exact hs
   ·exact srt_put hs m
  have e : mergeM ms (m :: gone) = mergeM (if hasM ms m.key = true then ms else putM ms m) gone := rfl
  rw [e, mvK_merge gone hs' hg'.2]
  have hc : mvK (m :: gone) k = if m.key = k then some m else mvK gone k := by
   unfold mvK
   rw [List.find?_cons]
   by_cases h : m.key = k
   ·rw [decide_eq_true h, if_pos h]
   ·rw [decide_eq_false h, if_neg h]
  rw [hc]
  cases ha : hasM ms m.key
  ·simp only [Bool.false_eq_true, if_false]
   rw [has_put hs, mvK_put hs]
   by_cases hk : m.key = k
   ·subst hk
    simp [ha]
   ·simp [hk]
  ·simp only [if_true]
   by_cases hk : m.key = k
   ·subst hk
    simp [ha]
   ·simp [hk]
theorem delF_only {l : List CueD} {a : Nat} {x : CueD} (hx : l[a]? = some x) : delF l a 2 = if a < l.length - 1 then setMv (l.eraseIdx a) a (fun ms => mergeM ms x.moves) else l.eraseIdx a := by
 have hal := (List.getElem?_eq_some_iff.1 hx).1
 have hlen : (l.eraseIdx a).length = l.length - 1 := by rw [List.length_eraseIdx, if_pos hal]
 unfold delF
 simp only [show ¬ ((2 : Int) = 1) by decide, if_false, hx, Option.map_some, Option.getD_some, hlen]
 split
 ·rename_i hlt
  have key : ∀ (gone : List MoveD) (o : List CueD), a < o.length → gone.foldl (delStep a a) o = setMv o a (fun ms => mergeM ms gone) := by
   intro gone
   induction gone with
   | nil => intro o ho; exact (setMv_id (fun _ _ => rfl)).symm
   | cons m gone ih =>
    intro o ho
    have hy : o[a]? = some o[a] := List.getElem?_eq_getElem ho
    have e : delStep a a o m = setMv o a (fun ms => if hasM ms m.key = true then ms else putM ms m) := by
     unfold delStep
     have e1 : (((o.drop a).take (a + 1 - a)).any fun c => hasM c.moves m.key) = hasM o[a].moves m.key := by
      rw [show a + 1 - a = 0 + 1 by omega, List.take_add_one, List.take_zero, List.nil_append, List.getElem?_drop, Nat.add_zero, hy]
      simp
     rw [e1]
     split
     ·rename_i hh
      refine (setMv_id fun y hy' => ?_).symm
      rw [hy] at hy'; injection hy' with hy'; subst hy'
      rw [if_pos hh]
     ·rename_i hh
      refine setMv_congr fun y hy' => ?_
      rw [hy] at hy'; injection hy' with hy'; subst hy'
      rw [if_neg hh]
    rw [List.foldl_cons, e, ih _ (by rw [setMv_len]; exact ho), setMv_two]
    rfl
  exact key _ _ (by rw [hlen]; exact hlt)
 ·rfl
theorem erase_get {α : Type} (l : List α) (a i : Nat) : (l.eraseIdx a)[i]? = if i < a then l[i]? else l[i + 1]? := by
 rw [List.getElem?_eraseIdx]
theorem leave_sv {l : List CueD} (hl : AllS l) {a : Nat} {x : CueD} (hx : l[a]? = some x) (k : KeyD) : (∀ i, i ≤ a → sv (delF l a 2) i k = sv l i k) ∧ (∀ i, a + 1 < i → i ≤ l.length → sv (delF l a 2) (i - 1) k = sv l i k) := by
 have hal := (List.getElem?_eq_some_iff.1 hx).1
 have hD := delF_only hx
 have htk : (delF l a 2).take a = l.take a := by
  rw [hD]
  split
  ·rw [take_setMv _ _ (Nat.le_refl a), List.eraseIdx_eq_take_drop_succ, List.take_append_of_le_length (by simp; omega), List.take_take, Nat.min_self]
  ·rw [List.eraseIdx_eq_take_drop_succ, List.take_append_of_le_length (by simp; omega), List.take_take, Nat.min_self]
 refine ⟨fun i hi => sv_take htk k hi, fun i hi hil => ?_⟩
 obtain ⟨y, hy⟩ : ∃ y, l[a + 1]? = some y := ⟨_, List.getElem?_eq_getElem (by omega)⟩
 rw [if_pos (by omega)] at hD
 have hey : (l.eraseIdx a)[a]? = some y := by rw [erase_get, if_neg (by omega), hy]
 have hdy : (delF l a 2)[a]? = some { y with moves := mergeM y.moves x.moves } := by rw [hD, setMv_get, if_pos rfl, hey]; rfl
 have hsx := hl x (List.mem_of_getElem? hx)
 have hsy := hl y (List.mem_of_getElem? hy)
 have h1 : sv (delF l a 2) (a + 1) k = sv l (a + 2) k := by
  rw [sv_succ hdy (merge_srt _ hsy), sv_succ hy hsy, sv_succ hx hsx, sv_take htk k (Nat.le_refl a)]
  show mvV (mvK (mergeM y.moves x.moves) k) _ = _
  rw [mvK_merge _ hsy hsx]
  cases hh : hasM y.moves k
  ·simp only [Bool.false_eq_true, if_false]
   rw [mvK_none.2 hh]
   rfl
  ·simp only [if_true]
   cases hm : mvK y.moves k with
   | none => rw [mvK_none.1 hm] at hh; cases hh
   | some m => rfl
 have hdrop : l.drop (a + 2) = (delF l a 2).drop (a + 1) := by
  rw [hD, drop_setMv_lt _ _ (Nat.lt_succ_self a)]
  apply List.ext_getElem?
  intro i
  rw [List.getElem?_drop, List.getElem?_drop, erase_get, if_neg (by omega)]
  congr 1; omega
 have := sv_from hdrop hl k h1.symm (i - (a + 2))
 rw [show a + 2 + (i - (a + 2)) = i by omega, show a + 1 + (i - (a + 2)) = i - 1 by omega] at this
 exact this.symm
theorem del_num {l : List CueD} {a : Nat} {x : CueD} (hx : l[a]? = some x) (i : Nat) : ((delF l a 2)[i]?).map (·.number) = (if i < a then l[i]? else l[i + 1]?).map (·.number) := by
 rw [delF_only hx]
 split
 ·rw [setMv_get, erase_get]
  split
  ·rename_i e; subst e; cases h : (if a < a then l[a]? else l[a + 1]?) <;> rfl
  ·rfl
 ·rw [erase_get]
theorem leave_looks {l : List CueD} {n : Int} (h : (delRes l n 2).2 = 0) : (delRes l n 2).1.length = l.length - 1 ∧ 0 < l.length ∧ ∀ c ∈ l, c.number ≠ n → LooksAs l (delRes l n 2).1 c.number := by
 unfold delRes at h ⊢
 by_cases hf : formF l = 0
 case neg => rw [if_pos hf] at h; exact absurd h hf
 have hff : ¬ ¬ (formF l = 0) := by simp [hf]
 rw [if_neg hff] at h ⊢
 cases hh : hasC l n
 ·rw [hh] at h; simp at h
 rw [hh] at h
 rw [if_neg (by decide), if_neg (by simp)] at h ⊢
 have hg := good_of hf
 obtain ⟨x, hx, hxn⟩ := hasC_at hg hh
 generalize posC l n = a at hx h ⊢
 have hal := (List.getElem?_eq_some_iff.1 hx).1
 rw [doneF_pair] at h ⊢
 simp only at h ⊢
 rw [if_pos h]
 refine ⟨?_, by omega, fun c hc hne => ?_⟩
 ·rw [delF_only hx]
  split
  ·rw [setMv_len, List.length_eraseIdx, if_pos hal]
  ·rw [List.length_eraseIdx, if_pos hal]
 obtain ⟨i, hi⟩ := List.mem_iff_getElem?.1 hc
 have hil := (List.getElem?_eq_some_iff.1 hi).1
 have hia : i ≠ a := fun e => by subst e; rw [hx] at hi; injection hi with hi; exact hne (hi ▸ hxn)
 have hS := good_allS hg
 by_cases hlt : i < a
 ·have hd := del_num hx i
  rw [if_pos hlt, hi, Option.map_some] at hd
  obtain ⟨y, hy, hyn⟩ := Option.map_eq_some_iff.1 hd
  exact looks_of hf h hi rfl hy hyn fun k => ((leave_sv hS hx k).1 (i + 1) (by omega)).symm
 ·have hd := del_num hx (i - 1)
  rw [if_neg (by omega), show i - 1 + 1 = i by omega, hi, Option.map_some] at hd
  obtain ⟨y, hy, hyn⟩ := Option.map_eq_some_iff.1 hd
  refine looks_of hf h hi rfl hy hyn fun k => ?_
  have := (leave_sv hS hx k).2 (i + 1) (by omega) (by omega)
  rw [show i - 1 + 1 = i by omega]
  exact this.symm
end Go.Proofs.Ytphgchakmkankaa

namespace Go.Proofs.Ytphgchakmkankaa
set_option linter.unusedSectionVars false
set_option linter.unusedVariables false
set_option linter.unusedSimpArgs false
open HP
theorem insAt_take {l : List CueD} {i : Nat} (hi : i ≤ l.length) (c : CueD) : (insAt l i c).take i = l.take i := by
 unfold insAt
 rw [List.append_assoc, List.take_append_of_le_length (by simp; omega), List.take_take, Nat.min_self]
theorem insAt_drop {l : List CueD} {i : Nat} (hi : i ≤ l.length) (c : CueD) : (insAt l i c).drop (i + 1) = l.drop i := by
 unfold insAt
 rw [List.drop_append]
 simp [Nat.min_eq_left hi]
theorem has_of {l : List CueD} {i : Nat} {y : CueD} {n : Int} (hy : l[i]? = some y) (hn : y.number = n) : hasC l n = true := List.any_eq_true.2 ⟨y, List.mem_of_getElem? hy, by simp [hn]⟩
theorem state_zero {l : List CueD} {n : Int} (hf : formF l = 0) (hh : hasC l n = true) : (stateRes l n).2 = 0 := by
 unfold stateRes
 rw [if_neg (by simp [hf]), hh, if_neg (by decide)]
end Go.Proofs.Ytphgchakmkankaa

namespace Go.Proofs.Ytphgchakmkankaa
set_option linter.unusedSectionVars false
set_option linter.unusedVariables false
set_option linter.unusedSimpArgs false
open HP
theorem cp_notin {ahead want : List EntryD} {k : KeyD} (h : ¬ k ∈ cpKs ahead want) : valE ahead k = valE want k := by
 have e2 : ∀ (l : List EntryD) k, hasE l k = (lookE l k).isSome := fun l k => by
  unfold hasE lookE; rw [Bool.eq_iff_iff, List.any_eq_true, List.find?_isSome]
 have hm : ∀ {l : List EntryD} {e : EntryD}, lookE l k = some e → e ∈ l ∧ e.key = k := fun q => ⟨List.mem_of_find?_eq_some q, of_decide_eq_true (List.find?_some (p := fun e : EntryD => decide (e.key = k)) q)⟩
 have hno : k ∈ cpAll ahead want → cpNe ahead want k = false := fun q => by
  cases hc : cpNe ahead want k
  ·rfl
  ·exact absurd (List.mem_filter.2 ⟨q, hc⟩) h
 unfold valE
 cases h1 : lookE ahead k with
 | none =>
  cases h2 : lookE want k with
  | none => rfl
  | some e =>
   have hin : k ∈ cpAll ahead want := by
    obtain ⟨q1, q2⟩ := hm h2
    refine List.mem_append.2 (.inr (List.mem_map.2 ⟨e, List.mem_filter.2 ⟨q1, ?_⟩, q2⟩))
    rw [q2, e2, h1]; rfl
   have := hno hin
   unfold cpNe at this
   rw [h1, h2] at this
   simp [mvOf] at this
 | some e =>
  have hin : k ∈ cpAll ahead want := by
   obtain ⟨q1, q2⟩ := hm h1
   exact List.mem_append.2 (.inl (List.mem_map.2 ⟨e, q1, q2⟩))
  have := hno hin
  unfold cpNe at this
  rw [h1] at this
  cases h2 : lookE want k with
  | none => rw [h2] at this; simp [mvOf] at this
  | some e' =>
   rw [h2] at this
   have this : (!(decide (e.value = e'.value) && decide (false = false))) = false := this
   have h3 : decide (e.value = e'.value) = true := by
    cases hd : decide (e.value = e'.value)
    ·rw [hd] at this; cases this
    ·rfl
   show some e.value = some e'.value
   rw [of_decide_eq_true h3]
theorem mv_of (k : KeyD) (st : List EntryD) (d : Option ValueD) : mvV (some (mvOf k (lookE st k))) d = valE st k := by
 unfold valE
 cases lookE st k <;> rfl
theorem copy_fine {l : List CueD} {m n : Int} (h : (copyRes l m n).2 = 0) : formF l = 0 ∧ hasC l m = true ∧ hasC l n = false ∧ formF (copyF l m n) = 0 ∧ (copyRes l m n).1 = copyF l m n := by
 unfold copyRes at h ⊢
 by_cases hf : formF l = 0
 case neg => rw [if_pos hf] at h; exact absurd h hf
 have hff : ¬ ¬ (formF l = 0) := by simp [hf]
 rw [if_neg hff] at h ⊢
 cases hh : hasC l m
 ·rw [hh] at h; simp at h
 rw [hh] at h
 rw [if_neg (by decide)] at h ⊢
 cases hw : withinB n 1 9999999
 ·rw [hw] at h; simp at h
 rw [hw] at h
 rw [if_neg (by decide)] at h ⊢
 cases hn : hasC l n
 ·rw [hn] at h
  rw [if_neg (by decide), doneF_pair] at h ⊢
  simp only at h ⊢
  exact ⟨hf, by trivial, by trivial, h, if_pos h⟩
 ·rw [hn] at h; simp at h
theorem copy_none {l : List CueD} {m n : Int} (h : ¬ (copyRes l m n).2 = 0) : (copyRes l m n).1 = [] := by
 unfold copyRes at h ⊢
 split
 ·rfl
 rename_i h1
 rw [if_neg h1] at h
 split
 ·rfl
 rename_i h2
 rw [if_neg h2] at h
 split
 ·rfl
 rename_i h3
 rw [if_neg h3] at h
 split
 ·rfl
 rename_i h4
 rw [if_neg h4] at h
 rw [doneF_pair] at h ⊢
 exact if_neg h
theorem copy_take {l : List CueD} (m n : Int) : (copyF l m n).take (posC l n) = l.take (posC l n) := by
 unfold copyF copyTo
 rw [take_setMv _ _ (by omega), insAt_take (posC_le l n)]
theorem copy_drop {l : List CueD} (m n : Int) : (copyF l m n).drop (posC l n + 2) = l.drop (posC l n + 1) := by
 unfold copyF copyTo
 rw [drop_setMv_lt _ _ (by omega)]
 have := congrArg (List.drop 1) (insAt_drop (posC_le l n) (cpRow l m n (cpMs (cpWant l m) (cpKs (cpAt l n) (cpWant l m)))))
 rw [List.drop_drop, List.drop_drop] at this
 exact this
theorem copy_sv {l : List CueD} (hS : AllS l) (m n : Int) (k : KeyD) :
  (∀ i, i ≤ posC l n → sv (copyF l m n) i k = sv l i k) ∧ sv (copyF l m n) (posC l n + 1) k = sv l (posC l m + 1) k ∧ (∀ i, posC l n + 1 ≤ i → i ≤ l.length → sv (copyF l m n) (i + 1) k = sv l i k) := by
 have htk := copy_take (l := l) m n
 have hat : (copyF l m n)[posC l n]? = _ := copyTo_at (l := l) m n _
 have hs0 : srtM (cpRow l m n (cpMs (cpWant l m) (cpKs (cpAt l n) (cpWant l m)))).moves := fput_srt _ _ List.Pairwise.nil
 have h1 : sv (copyF l m n) (posC l n + 1) k = sv l (posC l m + 1) k := by
  rw [sv_succ hat hs0, sv_take htk k (Nat.le_refl _)]
  show mvV (mvK (cpMs (cpWant l m) (cpKs (cpAt l n) (cpWant l m))) k) (valE (cpAt l n) k) = valE (cpWant l m) k
  unfold cpMs
  rw [fput_mvK (fun k => mvOf_key k _) _ List.Pairwise.nil]
  split
  ·exact mv_of k _ _
  ·rename_i hk
   exact cp_notin hk
 refine ⟨fun i hi => sv_take htk k hi, h1, fun i hi hil => ?_⟩
 obtain ⟨x, hx⟩ : ∃ x, l[posC l n]? = some x := ⟨_, List.getElem?_eq_getElem (by omega)⟩
 have hsx := hS x (List.mem_of_getElem? hx)
 have hnx : (copyF l m n)[posC l n + 1]? = some { x with moves := (cpKs (cpAt l n) (cpWant l m)).foldl (restP fun k => mvOf k (lookE (cpAt l n) k)) x.moves } := by
  unfold copyF; rw [copyTo_next, hx]; rfl
 have h2 : sv (copyF l m n) (posC l n + 1 + 1) k = sv l (posC l n + 1) k := by
  rw [sv_succ hnx (rest_fold _ hsx).1, h1, sv_succ hx hsx]
  show mvV (mvK ((cpKs (cpAt l n) (cpWant l m)).foldl (restP fun k => mvOf k (lookE (cpAt l n) k)) x.moves) k) _ = _
  rw [mvK_rest (fun k => mvOf_key k _) _ hsx]
  cases hh : hasM x.moves k
  ·rw [if_neg (by decide), mvK_none.2 hh]
   split
   ·exact mv_of k _ _
   ·rename_i hk
    exact (cp_notin hk).symm
  ·rw [if_pos rfl]
   cases hq : mvK x.moves k with
   | none => rw [mvK_none.1 hq] at hh; cases hh
   | some m => rfl
 have := sv_from (a := l) (b := copyF l m n) (copy_drop m n).symm hS k h2.symm (i - (posC l n + 1))
 rw [show posC l n + 1 + (i - (posC l n + 1)) = i by omega, show posC l n + 2 + (i - (posC l n + 1)) = i + 1 by omega] at this
 exact this.symm
theorem copy_looks {l : List CueD} {m n : Int} (h : (copyRes l m n).2 = 0) : (stateRes l m).2 = 0 ∧ (stateRes (copyF l m n) n).2 = 0 ∧ valsR (copyF l m n) n = valsR l m ∧ ∀ c ∈ l, (∃ y ∈ copyF l m n, y.number = c.number) ∧ LooksAs l (copyF l m n) c.number := by
 obtain ⟨hf, hm, hn, hfc, _⟩ := copy_fine h
 have hg := good_of hf
 have hgc := good_of hfc
 have hS := good_allS hg
 obtain ⟨x, hx, hxn⟩ := hasC_at hg hm
 have hat : (copyF l m n)[posC l n]? = _ := copyTo_at (l := l) m n _
 have hcn := has_of hat (show _ = n from rfl)
 refine ⟨state_zero hf hm, state_zero hfc hcn, ?_, fun c hc => ?_⟩
 ·unfold valsR stateRes
  have hff : ¬ ¬ (formF l = 0) := by simp [hf]
  have hfd : ¬ ¬ (formF (copyF l m n) = 0) := by simp [hfc]
  have hmf : ¬ (hasC l m = false) := by simp [hm]
  have hnf : ¬ (hasC (copyF l m n) n = false) := by simp [hcn]
  rw [if_neg hff, if_neg hfd, if_neg hmf, if_neg hnf, posC_at hgc.srt hat (show _ = n from rfl)]
  exact vals_eq (beforeF_srt _) (beforeF_srt _) fun k => (copy_sv hS m n k).2.1
 ·obtain ⟨i, hi⟩ := List.mem_iff_getElem?.1 hc
  have hil := (List.getElem?_eq_some_iff.1 hi).1
  by_cases hlt : i < posC l n
  ·have hy : (copyF l m n)[i]? = some c := by
    rw [← List.getElem?_take_of_lt hlt, copy_take, List.getElem?_take_of_lt hlt]; exact hi
   exact ⟨⟨c, List.mem_of_getElem? hy, rfl⟩, looks_of hf hfc hi rfl hy rfl fun k => ((copy_sv hS m n k).1 (i + 1) (by omega)).symm⟩
  ·have hy : ∃ y, (copyF l m n)[i + 1]? = some y ∧ y.number = c.number := by
    by_cases e : i = posC l n
    ·subst e
     exact ⟨_, (show (copyF l m n)[posC l n + 1]? = some { c with moves := (cpKs (cpAt l n) (cpWant l m)).foldl (restP fun k => mvOf k (lookE (cpAt l n) k)) c.moves } by unfold copyF; rw [copyTo_next, hi]; rfl), rfl⟩
    ·refine ⟨c, ?_, rfl⟩
     have := congrArg (fun l => l[i - (posC l n + 1)]?) (copy_drop (l := l) m n)
     simp only [List.getElem?_drop] at this
     have h1 : ((copyF l m n).drop (posC l n + 2))[i - (posC l n + 1)]? = (l.drop (posC l n + 1))[i - (posC l n + 1)]? := by rw [copy_drop]
     rw [List.getElem?_drop, List.getElem?_drop, show posC l n + 2 + (i - (posC l n + 1)) = i + 1 by omega, show posC l n + 1 + (i - (posC l n + 1)) = i by omega] at h1
     rw [h1]; exact hi
   obtain ⟨y, hy, hyn⟩ := hy
   exact ⟨⟨y, List.mem_of_getElem? hy, hyn⟩, looks_of hf hfc hi rfl hy hyn fun k => ((copy_sv hS m n k).2.2 (i + 1) (by omega) (by omega)).symm⟩
theorem chkE_some {α : Type} {f : Nat → α → Int} : ∀ (l : List α) (i : Nat), ¬ chkE f l i = 0 → ∃ j x, l[j]? = some x ∧ chkE f l i = f (i + j) x
 | [], i, h => absurd rfl h
 | y :: l, i, h => by
  rw [chkE] at h ⊢
  by_cases q : f i y = 0
  ·rw [if_pos q] at h ⊢
   obtain ⟨j, x, h1, h2⟩ := chkE_some l (i + 1) h
   exact ⟨j + 1, x, by simpa using h1, by rw [h2]; congr 1; omega⟩
  ·rw [if_neg q]; exact ⟨0, y, rfl, rfl⟩
theorem cueF_two {l : List CueD} {i : Nat} {c : CueD} (h1 : headOk c) (h2 : 0 < i → (pv l i).number < c.number) (h3 : movesF c.moves = 0) : cueF l i c = 0 ∨ cueF l i c = 2 := by
 by_cases hl : c.moves.length ≤ 2000
 ·exact .inl ((cueF_zero l i c).2 ⟨h1, h2, hl, h3⟩)
 ·refine .inr ?_
  obtain ⟨q1, q2, q3, q4⟩ := h1
  have hi : decide (0 < (i : Int)) = decide (0 < i) := decide_eq_decide.2 (by omega)
  have : (decide (0 < i) && decide (c.number ≤ (pv l i).number)) = false := by
   by_cases h0 : 0 < i
   ·have := h2 h0
    simp [h0]; omega
   ·simp [h0]
  unfold cueF
  rw [hi, q1, q2, q3, q4, this]
  simp; omega
theorem formF_two {o : List CueD} (h1 : o.length ≤ 300) (h2 : ∀ c ∈ o, headOk c ∧ movesF c.moves = 0) (h3 : o.Pairwise fun a b => a.number < b.number) : formF o = 0 ∨ formF o = 2 := by
 unfold formF
 rw [if_neg (by omega)]
 by_cases hc : chkE (cueF o) o 0 = 0
 ·rw [if_neg (by simp [hc])]
  split
  ·exact .inr rfl
  ·exact .inl rfl
 ·rw [if_pos hc]
  obtain ⟨j, x, hx, e⟩ := chkE_some o 0 hc
  rw [e, Nat.zero_add]
  obtain ⟨q1, q2⟩ := h2 x (List.mem_of_getElem? hx)
  refine cueF_two q1 (fun h0 => ?_) q2
  obtain ⟨i, rfl⟩ : ∃ i, j = i + 1 := ⟨j - 1, by omega⟩
  rw [pv_succ]
  have hj := (List.getElem?_eq_some_iff.1 hx).1
  have hy : o[i]? = some o[i] := List.getElem?_eq_getElem (by omega)
  rw [hy, Option.getD_some]
  have := List.pairwise_iff_getElem.1 h3 i (i + 1) (by omega) hj (by omega)
  rwa [(List.getElem?_eq_some_iff.1 hx).2] at this
theorem mem_merge : ∀ (gone : List MoveD) {ms : List MoveD} {x : MoveD}, x ∈ mergeM ms gone → x ∈ ms ∨ x ∈ gone
 | [], _, _, h => .inl h
 | m :: gone, ms, x, h => by
  have e : mergeM ms (m :: gone) = mergeM (if hasM ms m.key = true then ms else putM ms m) gone := rfl
  rw [e] at h
  rcases mem_merge gone h with h | h
  ·split at h
   ·exact .inl h
   ·rcases mem_put h with h | rfl
    ·exact .inl h
    ·exact .inr (by simp)
  ·exact .inr (List.mem_cons_of_mem _ h)
theorem del_fault {l : List CueD} (hf : formF l = 0) {n : Int} (hh : hasC l n = true) : (delRes l n 2).2 = 0 ∨ (delRes l n 2).2 = 2 := by
 unfold delRes
 rw [if_neg (by simp [hf]), hh, if_neg (by decide), if_neg (by simp), doneF_pair]
 show formF _ = 0 ∨ formF _ = 2
 obtain ⟨k1, k2, k3, k4⟩ := formF_zero.1 hf
 have hg := good_of hf
 obtain ⟨x, hx, hxn⟩ := hasC_at hg hh
 generalize posC l n = a at hx ⊢
 have hal := (List.getElem?_eq_some_iff.1 hx).1
 have hel : (l.eraseIdx a).length = l.length - 1 := by rw [List.length_eraseIdx, if_pos hal]
 have hsub : (l.eraseIdx a).Sublist l := List.eraseIdx_sublist l a
 have hpe := k3.sublist hsub
 have hxm := k2 x (List.mem_of_getElem? hx)
 rw [delF_only hx]
 split
 case isFalse =>
  exact formF_two (by omega) (fun c hc => ⟨(k2 c (hsub.subset hc)).1, (k2 c (hsub.subset hc)).2.2⟩) hpe
 case isTrue =>
  refine formF_two (by rw [setMv_len]; omega) (fun c hc => ?_) ?_
  ·obtain ⟨i, hi⟩ := List.mem_iff_getElem?.1 hc
   rw [setMv_get] at hi
   split at hi
   ·obtain ⟨y, hy, rfl⟩ := Option.map_eq_some_iff.1 hi
    have hym := k2 y (hsub.subset (List.mem_of_getElem? hy))
    refine ⟨hym.1, ?_⟩
    show movesF (mergeM y.moves x.moves) = 0
    obtain ⟨p1, p2⟩ := movesF_zero.1 hym.2.2
    obtain ⟨p3, p4⟩ := movesF_zero.1 hxm.2.2
    refine movesF_zero.2 ⟨fun m hm => ?_, merge_srt _ p2⟩
    rcases mem_merge _ hm with hm | hm
    ·exact p1 m hm
    ·exact p3 m hm
   ·have hcm := k2 c (hsub.subset (List.mem_of_getElem? hi))
    exact ⟨hcm.1, hcm.2.2⟩
  ·have hmap : (setMv (l.eraseIdx a) a fun ms => mergeM ms x.moves).map (·.number) = (l.eraseIdx a).map (·.number) := by
    apply List.ext_getElem?
    intro i
    rw [List.getElem?_map, List.getElem?_map, setMv_get]
    split
    ·cases (l.eraseIdx a)[i]? <;> rfl
    ·rfl
   have h1 : ((l.eraseIdx a).map (·.number)).Pairwise (· < ·) := List.pairwise_map.2 hpe
   rw [← hmap] at h1
   exact List.pairwise_map.1 h1
theorem looks_trans {a b c : List CueD} {n : Int} (h1 : LooksAs a b n) (h2 : LooksAs b c n) : LooksAs a c n := ⟨h1.1, h2.2.1, h1.2.2.trans h2.2.2⟩
theorem h_W5_CueCopiesLookAlike {l : List CueD} {m n : Int} {σ : Heap} (h : okL okCue l ∧ inI m ∧ inI n) : m_W5_CueCopiesLookAlike [sl 11 cCue l, .int .i64 m, .int .i64 n] σ = some (.bool true, σ) := by
 obtain ⟨hl, hm, hn⟩ := h
 have run : r_W5_CueCopiesLookAlike (sl 11 cCue l) (.int .i64 m) (.int .i64 n) σ = some (.bool true, σ) := by
  unfold r_W5_CueCopiesLookAlike
  have hcok := copyRes_ok hl m hn
  have hsok := shiftRes_ok hl m hn
  rw [Copy_t hl hm hn σ, Option.bind_some, ext0, Option.bind_some, ext1, Option.bind_some, aNeI, Option.bind_some]
  by_cases hz : (copyRes l m n).2 = 0
  case neg =>
   rw [decide_eq_true hz, cnd_t, lenS_sl, Option.bind_some, copy_none hz, aEq, Option.bind_some]
   exact fin_same _ _
  obtain ⟨hf, hhm, hhn, hfc, e1⟩ := copy_fine hz
  obtain ⟨s1, s2, s3, s4⟩ := copy_looks hz
  have hsh : shiftRes l m n = delRes (copyF l m n) m 2 := by
   unfold shiftRes
   rw [if_neg (by simp [hz]), e1]
  rw [e1] at hcok
  rw [hsh] at hsok
  rw [e1, decide_eq_false (by simp [hz]), cnd_f, values_t hl hm, Option.bind_some, ext0, Option.bind_some, ext1, Option.bind_some, values_t hcok hn, Option.bind_some, ext0, Option.bind_some, ext1, Option.bind_some, decide_eq_true s1, decide_eq_true s2, s3]
  simp only [gdF, gdT, gdFx, gdTx, pkF, pkT, notT, notF, Option.bind_some]
  rw [equalE_t _ (valsR_bd _ _)]
  simp only [gdF, gdT, gdFx, gdTx, pkF, pkT, notT, notF, Option.bind_some]
  rw [quiet_of (asBefore_t hl hcok 0 0 (fun c hc _ _ => (s4 c hc).2) σ)]
  simp only [gdF, gdT, gdFx, gdTx, pkF, pkT, notT, notF, Option.bind_some]
  rw [cnd_f, Shift_t hl hm hn σ, Option.bind_some, ext0, Option.bind_some, ext1, Option.bind_some, aNeI, Option.bind_some, hsh]
  have hmn : ¬ n = m := fun e => by subst e; rw [hhm] at hhn; cases hhn
  obtain ⟨x, hx, hxn⟩ := hasC_at (good_of hf) hhm
  obtain ⟨⟨y, hy, hyn⟩, _⟩ := s4 x (List.mem_of_getElem? hx)
  have hcm : hasC (copyF l m n) m = true := List.any_eq_true.2 ⟨y, hy, by simp [hyn, hxn]⟩
  by_cases hd : (delRes (copyF l m n) m 2).2 = 0
  case neg =>
   have h2 := (del_fault hfc hcm).resolve_left hd
   rw [decide_eq_true hd, cnd_t, aEq, Option.bind_some, decide_eq_true h2]
   exact fin_same _ _
  obtain ⟨d1, d2, d3⟩ := leave_looks hd
  have hat : (copyF l m n)[posC l n]? = _ := copyTo_at (l := l) m n _
  obtain ⟨_, d4, d5⟩ := d3 _ (List.mem_of_getElem? hat) hmn
  have d4 : (stateRes (delRes (copyF l m n) m 2).1 n).2 = 0 := d4
  have d5 : valsR (copyF l m n) n = valsR (delRes (copyF l m n) m 2).1 n := d5
  have hlen : (copyF l m n).length = l.length + 1 := copyTo_len m n _
  rw [decide_eq_false (by simp [hd]), cnd_f, values_t hsok hn, Option.bind_some, ext0, Option.bind_some, ext1, Option.bind_some, decide_eq_true d4, ← d5, s3]
  simp only [gdF, gdT, gdFx, gdTx, pkF, pkT, notT, notF, Option.bind_some]
  rw [equalE_t _ (valsR_bd _ _)]
  simp only [gdF, gdT, gdFx, gdTx, pkF, pkT, notT, notF, Option.bind_some]
  rw [quiet_of (asBefore_t hl hsok m 0 (fun c hc h1 _ => by
   obtain ⟨⟨y, hy, hyn⟩, q⟩ := s4 c hc
   have := d3 y hy (by rw [hyn]; exact h1)
   rw [hyn] at this
   exact looks_trans q this) σ)]
  simp only [gdF, gdT, gdFx, gdTx, pkF, pkT, notT, notF, Option.bind_some]
  rw [lenS_sl, lenS_sl]
  simp only [gdF, gdT, gdFx, gdTx, pkF, pkT, notT, notF, Option.bind_some]
  rw [aEq, decide_eq_true (by rw [d1, hlen]; omega)]
  simp only [gdF, gdT, gdFx, gdTx, pkF, pkT, notT, notF, Option.bind_some]
  exact fin_same _ _
 refine wrap_eq rfl ?_ rfl
 rw [show A.nnL [Sh.e 11 [.k, .k, .k, .k, .k, .k, .k, .s 2, .k, .k, .s 8]] [sl 11 cCue l, .int .i64 m, .int .i64 n] = [sl 11 cCue l, .int .i64 m, .int .i64 n] from nn_arg1 l _]
 exact run
theorem cueCopiesLookAlike_true (l : List CueD) (m n : Int) (hl : okL okCue l) (hm : inI m) (hn : inI n) : okL okCue l ∧ inI m ∧ inI n := ⟨hl, hm, hn⟩
end Go.Proofs.Ytphgchakmkankaa

namespace Go.Proofs.Ytphgchakmkankaa
set_option linter.unusedSectionVars false
set_option linter.unusedSimpArgs false
set_option linter.unusedVariables false
open Go.ChangeShapes Go.WideShapes Go.ChangeAt Go.RowKit

theorem own : ownKnob Try.prog.godebug = none := by kernel_rfl
theorem laidOut : laidOutB Try.prog = true := by kernel_rfl

theorem trodAll_below {H : Type} {enc : TypeId × Value → H} {P : Program} (hl : laidOutB P = true) {W W' : World} (hb : Below W.heap.size W W') :
  ∀ {ts : List TypeId} {vs : List Value} {ds : List (DataW H)} {ps : List MemPlace}, (ts.all fun t => P.readableRec t && decide (t < P.types.size)) = true →
   DataW.TrodAll enc P W 0 (fun _ => true) true ts vs ds ps → (∀ x ∈ ps, x.block < W.heap.size) → DataW.TrodAll enc P W' 0 (fun b => decide (b < W.heap.size)) true ts vs ds ps
 | [], [], [], _, _, h, _ => h
 | t :: ts, v :: vs, d :: ds, ps, hts, h, hlt => by
  obtain ⟨p, q, h1, h2, rfl⟩ := h
  simp only [List.all_cons, Bool.and_eq_true, decide_eq_true_eq] at hts
  exact ⟨p, q, Below.trod hl hts.1.1 hts.1.2 h1 hb (fun x hx => hlt x (List.mem_append_left _ hx)),
   trodAll_below hl hb (by simpa using hts.2) h2 (fun x hx => hlt x (List.mem_append_right _ hx)), rfl⟩
 | [], _ :: _, _, _, _, h, _ => h.elim
 | [], [], _ :: _, _, _, h, _ => h.elim
 | _ :: _, [], _, _, _, h, _ => h.elim
 | _ :: _, _ :: _, [], _, _, h, _ => h.elim

theorem law_post {H : Type} {enc : TypeId × Value → H} {f : Func} {s : ChangeSpec} {W W' : World} {args : Array Value} {ds gs : List (DataW H)} {before : List MemPlace} {t : TypeId}
  (hts : (f.params.toList.all fun t => Try.prog.readableRec t && decide (t < Try.prog.types.size)) = true) (hrt : f.resultTypes = #[t]) (ht : Try.prog.underlying t = some .bool) (hvs : s.vars = [])
  (hW : DataW.Whole enc Try.prog f.params.toList s.vars false W args.toList ds gs before) (hb : Below W.heap.size W W')
  (hspec : s.fn H (ds ++ gs) = { results := [.lit (.bool true)], args := ds }) :
  s.post enc Try.prog f false true false false W args (.bool true) W' := by
 have hW' := hW
 obtain ⟨p, q, hA, hV, rfl, hfz, hnd⟩ := hW
 have hlt : ∀ x ∈ p ++ q, x.block < W.heap.size := fun x hx => hW'.lt x hx
 refine ⟨ds, gs, p ++ q, [], p, [], hW', ?_, ?_, ?_, hb.frame _, fun h => by cases h⟩
 ·rw [hspec, hrt]
  exact trodAll_cons_mk (shut_bool ht _) trodAll_mk0
 ·rw [hspec]
  exact trodAll_below laidOut hb hts hA (fun x hx => hlt x (List.mem_append_left _ hx))
 ·rw [hspec, hvs]
  exact rfl
end Go.Proofs.Ytphgchakmkankaa

namespace Go.Proofs.Ytphgchakmkankaa
set_option linter.unusedSectionVars false
open Go.RowKit
set_option linter.unusedVariables false
set_option linter.unusedSimpArgs false

def Gr (w w' : World) : Prop := Below w.heap.size w w'
theorem Gr.refl (w : World) : Gr w w := Below.refl _ _
theorem Gr.below {w w' : World} (h : Gr w w') : Below w.heap.size w w' := h
theorem Gr.of {w w' : World} (h : Below w.heap.size w w') : Gr w w' := h
theorem Gr.trans {a b c : World} (h : Gr a b) (k : Gr b c) : Gr a c := Below.trans h (Below.mono k (Below.size h))
theorem Gr.alloc {a b : World} (h : Gr a b) (o : Obj) : Gr a (b.alloc o) := Below.alloc h (Below.size h) o
theorem Gr.drew {a b : World} (h : Gr a b) : Gr a b.drew := Below.drew h
theorem Gr.drewN {a b : World} (h : Gr a b) (n : Nat) : Gr a (b.drewN n) := ⟨h.os, h.tape, h.output, h.size, h.block⟩
theorem Gr.set {a b : World} (h : Gr a b) {k o : Nat} (hp : a.heap.size ≤ k) (u : Value) : Gr a (b.setCell ⟨k, o, none⟩ u) := Below.setCell h hp u
theorem Gr.put {a b : World} {k o : Nat} (hp : a.heap.size ≤ k) (h : Gr a b) (u : Value) : Gr a (b.setCell ⟨k, o, none⟩ u) := Below.setCell h hp u
theorem Gr.after {a b c : World} (k : Gr b c) (h : Gr a b) : Gr a c := h.trans k
theorem Gr.size {a b : World} (h : Gr a b) : a.heap.size ≤ b.heap.size := Below.size h
theorem Gr.cell {a b : World} (h : Gr a b) {p : Addr} {v : Value} (hc : a.cell? p = some v) : b.cell? p = some v := by
 by_cases hp : p.block < a.heap.size
 ·rw [Below.cell h hp]; exact hc
 ·have : a.heap[p.block]? = none := Array.getElem?_eq_none (by omega)
  simp [World.cell?, this] at hc
theorem Gr.free {a b : World} (h : Gr a b) {p : Addr} (hp : p.block < a.heap.size) {x : Bool} (hc : a.frozen? p = x) : b.frozen? p = x := by
 rw [Below.frozen h hp]; exact hc
theorem Gr.lt {w w1 : World} {o : Obj} (h : Gr (w.alloc o) w1) : w.heap.size < w1.heap.size := by have := h.size; simp at this; omega
abbrev Box1 (w : World) (b : Nat) (v0 : Value) : Prop := (w.cell? ⟨b, 0, none⟩ = some v0) ∧ (w.frozen? ⟨b, 0, none⟩ = false) ∧ b < w.heap.size
theorem Box1.mono {w w1 : World} {b : Nat} {v0 : Value} (k : Box1 w b v0) (h : Gr w w1) : Box1 w1 b v0 := by
 obtain ⟨k0, f0, hlt⟩ := k
 exact ⟨h.cell k0, h.free (by exact hlt) f0, Nat.lt_of_lt_of_le hlt h.size⟩
theorem Box1.of {w : World} {b : Nat} {v0 : Value} {t : TypeId} (h : w.heap[b]? = some (.cells #[v0] t (0, 0))) : Box1 w b v0 := by
 have hlt : b < w.heap.size := (Array.getElem?_eq_some_iff.1 h).1
 refine ⟨?_, ?_, hlt⟩ <;> simp [World.cell?, World.frozen?, h]
theorem Box1.at {w w1 : World} {b : Nat} {v0 : Value} {t : TypeId} (g : Gr w w1) (h : w.heap[b]? = some (.cells #[v0] t (0, 0))) : Box1 w1 b v0 := (Box1.of h).mono g
abbrev Box2 (w : World) (b : Nat) (v0 v1 : Value) : Prop := (w.cell? ⟨b, 0, none⟩ = some v0 ∧ w.cell? ⟨b, 1, none⟩ = some v1) ∧ (w.frozen? ⟨b, 0, none⟩ = false ∧ w.frozen? ⟨b, 1, none⟩ = false) ∧ b < w.heap.size
theorem Box2.mono {w w1 : World} {b : Nat} {v0 v1 : Value} (k : Box2 w b v0 v1) (h : Gr w w1) : Box2 w1 b v0 v1 := by
 obtain ⟨⟨k0, k1⟩, ⟨f0, f1⟩, hlt⟩ := k
 exact ⟨⟨h.cell k0, h.cell k1⟩, ⟨h.free (by exact hlt) f0, h.free (by exact hlt) f1⟩, Nat.lt_of_lt_of_le hlt h.size⟩
theorem Box2.of {w : World} {b : Nat} {v0 v1 : Value} {t : TypeId} (h : w.heap[b]? = some (.cells #[v0, v1] t (0, 0))) : Box2 w b v0 v1 := by
 have hlt : b < w.heap.size := (Array.getElem?_eq_some_iff.1 h).1
 refine ⟨⟨?_, ?_⟩, ⟨?_, ?_⟩, hlt⟩ <;> simp [World.cell?, World.frozen?, h]
theorem Box2.at {w w1 : World} {b : Nat} {v0 v1 : Value} {t : TypeId} (g : Gr w w1) (h : w.heap[b]? = some (.cells #[v0, v1] t (0, 0))) : Box2 w1 b v0 v1 := (Box2.of h).mono g
abbrev Box3 (w : World) (b : Nat) (v0 v1 v2 : Value) : Prop := (w.cell? ⟨b, 0, none⟩ = some v0 ∧ w.cell? ⟨b, 1, none⟩ = some v1 ∧ w.cell? ⟨b, 2, none⟩ = some v2) ∧ (w.frozen? ⟨b, 0, none⟩ = false ∧ w.frozen? ⟨b, 1, none⟩ = false ∧ w.frozen? ⟨b, 2, none⟩ = false) ∧ b < w.heap.size
theorem Box3.mono {w w1 : World} {b : Nat} {v0 v1 v2 : Value} (k : Box3 w b v0 v1 v2) (h : Gr w w1) : Box3 w1 b v0 v1 v2 := by
 obtain ⟨⟨k0, k1, k2⟩, ⟨f0, f1, f2⟩, hlt⟩ := k
 exact ⟨⟨h.cell k0, h.cell k1, h.cell k2⟩, ⟨h.free (by exact hlt) f0, h.free (by exact hlt) f1, h.free (by exact hlt) f2⟩, Nat.lt_of_lt_of_le hlt h.size⟩
theorem Box3.of {w : World} {b : Nat} {v0 v1 v2 : Value} {t : TypeId} (h : w.heap[b]? = some (.cells #[v0, v1, v2] t (0, 0))) : Box3 w b v0 v1 v2 := by
 have hlt : b < w.heap.size := (Array.getElem?_eq_some_iff.1 h).1
 refine ⟨⟨?_, ?_, ?_⟩, ⟨?_, ?_, ?_⟩, hlt⟩ <;> simp [World.cell?, World.frozen?, h]
theorem Box3.at {w w1 : World} {b : Nat} {v0 v1 v2 : Value} {t : TypeId} (g : Gr w w1) (h : w.heap[b]? = some (.cells #[v0, v1, v2] t (0, 0))) : Box3 w1 b v0 v1 v2 := (Box3.of h).mono g
abbrev Box4 (w : World) (b : Nat) (v0 v1 v2 v3 : Value) : Prop := (w.cell? ⟨b, 0, none⟩ = some v0 ∧ w.cell? ⟨b, 1, none⟩ = some v1 ∧ w.cell? ⟨b, 2, none⟩ = some v2 ∧ w.cell? ⟨b, 3, none⟩ = some v3) ∧ (w.frozen? ⟨b, 0, none⟩ = false ∧ w.frozen? ⟨b, 1, none⟩ = false ∧ w.frozen? ⟨b, 2, none⟩ = false ∧ w.frozen? ⟨b, 3, none⟩ = false) ∧ b < w.heap.size
theorem Box4.mono {w w1 : World} {b : Nat} {v0 v1 v2 v3 : Value} (k : Box4 w b v0 v1 v2 v3) (h : Gr w w1) : Box4 w1 b v0 v1 v2 v3 := by
 obtain ⟨⟨k0, k1, k2, k3⟩, ⟨f0, f1, f2, f3⟩, hlt⟩ := k
 exact ⟨⟨h.cell k0, h.cell k1, h.cell k2, h.cell k3⟩, ⟨h.free (by exact hlt) f0, h.free (by exact hlt) f1, h.free (by exact hlt) f2, h.free (by exact hlt) f3⟩, Nat.lt_of_lt_of_le hlt h.size⟩
theorem Box4.of {w : World} {b : Nat} {v0 v1 v2 v3 : Value} {t : TypeId} (h : w.heap[b]? = some (.cells #[v0, v1, v2, v3] t (0, 0))) : Box4 w b v0 v1 v2 v3 := by
 have hlt : b < w.heap.size := (Array.getElem?_eq_some_iff.1 h).1
 refine ⟨⟨?_, ?_, ?_, ?_⟩, ⟨?_, ?_, ?_, ?_⟩, hlt⟩ <;> simp [World.cell?, World.frozen?, h]
theorem Box4.at {w w1 : World} {b : Nat} {v0 v1 v2 v3 : Value} {t : TypeId} (g : Gr w w1) (h : w.heap[b]? = some (.cells #[v0, v1, v2, v3] t (0, 0))) : Box4 w1 b v0 v1 v2 v3 := (Box4.of h).mono g
abbrev Box5 (w : World) (b : Nat) (v0 v1 v2 v3 v4 : Value) : Prop := (w.cell? ⟨b, 0, none⟩ = some v0 ∧ w.cell? ⟨b, 1, none⟩ = some v1 ∧ w.cell? ⟨b, 2, none⟩ = some v2 ∧ w.cell? ⟨b, 3, none⟩ = some v3 ∧ w.cell? ⟨b, 4, none⟩ = some v4) ∧ (w.frozen? ⟨b, 0, none⟩ = false ∧ w.frozen? ⟨b, 1, none⟩ = false ∧ w.frozen? ⟨b, 2, none⟩ = false ∧ w.frozen? ⟨b, 3, none⟩ = false ∧ w.frozen? ⟨b, 4, none⟩ = false) ∧ b < w.heap.size
theorem Box5.mono {w w1 : World} {b : Nat} {v0 v1 v2 v3 v4 : Value} (k : Box5 w b v0 v1 v2 v3 v4) (h : Gr w w1) : Box5 w1 b v0 v1 v2 v3 v4 := by
 obtain ⟨⟨k0, k1, k2, k3, k4⟩, ⟨f0, f1, f2, f3, f4⟩, hlt⟩ := k
 exact ⟨⟨h.cell k0, h.cell k1, h.cell k2, h.cell k3, h.cell k4⟩, ⟨h.free (by exact hlt) f0, h.free (by exact hlt) f1, h.free (by exact hlt) f2, h.free (by exact hlt) f3, h.free (by exact hlt) f4⟩, Nat.lt_of_lt_of_le hlt h.size⟩
theorem Box5.of {w : World} {b : Nat} {v0 v1 v2 v3 v4 : Value} {t : TypeId} (h : w.heap[b]? = some (.cells #[v0, v1, v2, v3, v4] t (0, 0))) : Box5 w b v0 v1 v2 v3 v4 := by
 have hlt : b < w.heap.size := (Array.getElem?_eq_some_iff.1 h).1
 refine ⟨⟨?_, ?_, ?_, ?_, ?_⟩, ⟨?_, ?_, ?_, ?_, ?_⟩, hlt⟩ <;> simp [World.cell?, World.frozen?, h]
theorem Box5.at {w w1 : World} {b : Nat} {v0 v1 v2 v3 v4 : Value} {t : TypeId} (g : Gr w w1) (h : w.heap[b]? = some (.cells #[v0, v1, v2, v3, v4] t (0, 0))) : Box5 w1 b v0 v1 v2 v3 v4 := (Box5.of h).mono g
abbrev Box6 (w : World) (b : Nat) (v0 v1 v2 v3 v4 v5 : Value) : Prop := (w.cell? ⟨b, 0, none⟩ = some v0 ∧ w.cell? ⟨b, 1, none⟩ = some v1 ∧ w.cell? ⟨b, 2, none⟩ = some v2 ∧ w.cell? ⟨b, 3, none⟩ = some v3 ∧ w.cell? ⟨b, 4, none⟩ = some v4 ∧ w.cell? ⟨b, 5, none⟩ = some v5) ∧ (w.frozen? ⟨b, 0, none⟩ = false ∧ w.frozen? ⟨b, 1, none⟩ = false ∧ w.frozen? ⟨b, 2, none⟩ = false ∧ w.frozen? ⟨b, 3, none⟩ = false ∧ w.frozen? ⟨b, 4, none⟩ = false ∧ w.frozen? ⟨b, 5, none⟩ = false) ∧ b < w.heap.size
theorem Box6.mono {w w1 : World} {b : Nat} {v0 v1 v2 v3 v4 v5 : Value} (k : Box6 w b v0 v1 v2 v3 v4 v5) (h : Gr w w1) : Box6 w1 b v0 v1 v2 v3 v4 v5 := by
 obtain ⟨⟨k0, k1, k2, k3, k4, k5⟩, ⟨f0, f1, f2, f3, f4, f5⟩, hlt⟩ := k
 exact ⟨⟨h.cell k0, h.cell k1, h.cell k2, h.cell k3, h.cell k4, h.cell k5⟩, ⟨h.free (by exact hlt) f0, h.free (by exact hlt) f1, h.free (by exact hlt) f2, h.free (by exact hlt) f3, h.free (by exact hlt) f4, h.free (by exact hlt) f5⟩, Nat.lt_of_lt_of_le hlt h.size⟩
theorem Box6.of {w : World} {b : Nat} {v0 v1 v2 v3 v4 v5 : Value} {t : TypeId} (h : w.heap[b]? = some (.cells #[v0, v1, v2, v3, v4, v5] t (0, 0))) : Box6 w b v0 v1 v2 v3 v4 v5 := by
 have hlt : b < w.heap.size := (Array.getElem?_eq_some_iff.1 h).1
 refine ⟨⟨?_, ?_, ?_, ?_, ?_, ?_⟩, ⟨?_, ?_, ?_, ?_, ?_, ?_⟩, hlt⟩ <;> simp [World.cell?, World.frozen?, h]
theorem Box6.at {w w1 : World} {b : Nat} {v0 v1 v2 v3 v4 v5 : Value} {t : TypeId} (g : Gr w w1) (h : w.heap[b]? = some (.cells #[v0, v1, v2, v3, v4, v5] t (0, 0))) : Box6 w1 b v0 v1 v2 v3 v4 v5 := (Box6.of h).mono g
abbrev Box7 (w : World) (b : Nat) (v0 v1 v2 v3 v4 v5 v6 : Value) : Prop := (w.cell? ⟨b, 0, none⟩ = some v0 ∧ w.cell? ⟨b, 1, none⟩ = some v1 ∧ w.cell? ⟨b, 2, none⟩ = some v2 ∧ w.cell? ⟨b, 3, none⟩ = some v3 ∧ w.cell? ⟨b, 4, none⟩ = some v4 ∧ w.cell? ⟨b, 5, none⟩ = some v5 ∧ w.cell? ⟨b, 6, none⟩ = some v6) ∧ (w.frozen? ⟨b, 0, none⟩ = false ∧ w.frozen? ⟨b, 1, none⟩ = false ∧ w.frozen? ⟨b, 2, none⟩ = false ∧ w.frozen? ⟨b, 3, none⟩ = false ∧ w.frozen? ⟨b, 4, none⟩ = false ∧ w.frozen? ⟨b, 5, none⟩ = false ∧ w.frozen? ⟨b, 6, none⟩ = false) ∧ b < w.heap.size
theorem Box7.mono {w w1 : World} {b : Nat} {v0 v1 v2 v3 v4 v5 v6 : Value} (k : Box7 w b v0 v1 v2 v3 v4 v5 v6) (h : Gr w w1) : Box7 w1 b v0 v1 v2 v3 v4 v5 v6 := by
 obtain ⟨⟨k0, k1, k2, k3, k4, k5, k6⟩, ⟨f0, f1, f2, f3, f4, f5, f6⟩, hlt⟩ := k
 exact ⟨⟨h.cell k0, h.cell k1, h.cell k2, h.cell k3, h.cell k4, h.cell k5, h.cell k6⟩, ⟨h.free (by exact hlt) f0, h.free (by exact hlt) f1, h.free (by exact hlt) f2, h.free (by exact hlt) f3, h.free (by exact hlt) f4, h.free (by exact hlt) f5, h.free (by exact hlt) f6⟩, Nat.lt_of_lt_of_le hlt h.size⟩
theorem Box7.of {w : World} {b : Nat} {v0 v1 v2 v3 v4 v5 v6 : Value} {t : TypeId} (h : w.heap[b]? = some (.cells #[v0, v1, v2, v3, v4, v5, v6] t (0, 0))) : Box7 w b v0 v1 v2 v3 v4 v5 v6 := by
 have hlt : b < w.heap.size := (Array.getElem?_eq_some_iff.1 h).1
 refine ⟨⟨?_, ?_, ?_, ?_, ?_, ?_, ?_⟩, ⟨?_, ?_, ?_, ?_, ?_, ?_, ?_⟩, hlt⟩ <;> simp [World.cell?, World.frozen?, h]
theorem Box7.at {w w1 : World} {b : Nat} {v0 v1 v2 v3 v4 v5 v6 : Value} {t : TypeId} (g : Gr w w1) (h : w.heap[b]? = some (.cells #[v0, v1, v2, v3, v4, v5, v6] t (0, 0))) : Box7 w1 b v0 v1 v2 v3 v4 v5 v6 := (Box7.of h).mono g
abbrev Box8 (w : World) (b : Nat) (v0 v1 v2 v3 v4 v5 v6 v7 : Value) : Prop := (w.cell? ⟨b, 0, none⟩ = some v0 ∧ w.cell? ⟨b, 1, none⟩ = some v1 ∧ w.cell? ⟨b, 2, none⟩ = some v2 ∧ w.cell? ⟨b, 3, none⟩ = some v3 ∧ w.cell? ⟨b, 4, none⟩ = some v4 ∧ w.cell? ⟨b, 5, none⟩ = some v5 ∧ w.cell? ⟨b, 6, none⟩ = some v6 ∧ w.cell? ⟨b, 7, none⟩ = some v7) ∧ (w.frozen? ⟨b, 0, none⟩ = false ∧ w.frozen? ⟨b, 1, none⟩ = false ∧ w.frozen? ⟨b, 2, none⟩ = false ∧ w.frozen? ⟨b, 3, none⟩ = false ∧ w.frozen? ⟨b, 4, none⟩ = false ∧ w.frozen? ⟨b, 5, none⟩ = false ∧ w.frozen? ⟨b, 6, none⟩ = false ∧ w.frozen? ⟨b, 7, none⟩ = false) ∧ b < w.heap.size
theorem Box8.mono {w w1 : World} {b : Nat} {v0 v1 v2 v3 v4 v5 v6 v7 : Value} (k : Box8 w b v0 v1 v2 v3 v4 v5 v6 v7) (h : Gr w w1) : Box8 w1 b v0 v1 v2 v3 v4 v5 v6 v7 := by
 obtain ⟨⟨k0, k1, k2, k3, k4, k5, k6, k7⟩, ⟨f0, f1, f2, f3, f4, f5, f6, f7⟩, hlt⟩ := k
 exact ⟨⟨h.cell k0, h.cell k1, h.cell k2, h.cell k3, h.cell k4, h.cell k5, h.cell k6, h.cell k7⟩, ⟨h.free (by exact hlt) f0, h.free (by exact hlt) f1, h.free (by exact hlt) f2, h.free (by exact hlt) f3, h.free (by exact hlt) f4, h.free (by exact hlt) f5, h.free (by exact hlt) f6, h.free (by exact hlt) f7⟩, Nat.lt_of_lt_of_le hlt h.size⟩
theorem Box8.of {w : World} {b : Nat} {v0 v1 v2 v3 v4 v5 v6 v7 : Value} {t : TypeId} (h : w.heap[b]? = some (.cells #[v0, v1, v2, v3, v4, v5, v6, v7] t (0, 0))) : Box8 w b v0 v1 v2 v3 v4 v5 v6 v7 := by
 have hlt : b < w.heap.size := (Array.getElem?_eq_some_iff.1 h).1
 refine ⟨⟨?_, ?_, ?_, ?_, ?_, ?_, ?_, ?_⟩, ⟨?_, ?_, ?_, ?_, ?_, ?_, ?_, ?_⟩, hlt⟩ <;> simp [World.cell?, World.frozen?, h]
theorem Box8.at {w w1 : World} {b : Nat} {v0 v1 v2 v3 v4 v5 v6 v7 : Value} {t : TypeId} (g : Gr w w1) (h : w.heap[b]? = some (.cells #[v0, v1, v2, v3, v4, v5, v6, v7] t (0, 0))) : Box8 w1 b v0 v1 v2 v3 v4 v5 v6 v7 := (Box8.of h).mono g
abbrev Box9 (w : World) (b : Nat) (v0 v1 v2 v3 v4 v5 v6 v7 v8 : Value) : Prop := (w.cell? ⟨b, 0, none⟩ = some v0 ∧ w.cell? ⟨b, 1, none⟩ = some v1 ∧ w.cell? ⟨b, 2, none⟩ = some v2 ∧ w.cell? ⟨b, 3, none⟩ = some v3 ∧ w.cell? ⟨b, 4, none⟩ = some v4 ∧ w.cell? ⟨b, 5, none⟩ = some v5 ∧ w.cell? ⟨b, 6, none⟩ = some v6 ∧ w.cell? ⟨b, 7, none⟩ = some v7 ∧ w.cell? ⟨b, 8, none⟩ = some v8) ∧ (w.frozen? ⟨b, 0, none⟩ = false ∧ w.frozen? ⟨b, 1, none⟩ = false ∧ w.frozen? ⟨b, 2, none⟩ = false ∧ w.frozen? ⟨b, 3, none⟩ = false ∧ w.frozen? ⟨b, 4, none⟩ = false ∧ w.frozen? ⟨b, 5, none⟩ = false ∧ w.frozen? ⟨b, 6, none⟩ = false ∧ w.frozen? ⟨b, 7, none⟩ = false ∧ w.frozen? ⟨b, 8, none⟩ = false) ∧ b < w.heap.size
theorem Box9.mono {w w1 : World} {b : Nat} {v0 v1 v2 v3 v4 v5 v6 v7 v8 : Value} (k : Box9 w b v0 v1 v2 v3 v4 v5 v6 v7 v8) (h : Gr w w1) : Box9 w1 b v0 v1 v2 v3 v4 v5 v6 v7 v8 := by
 obtain ⟨⟨k0, k1, k2, k3, k4, k5, k6, k7, k8⟩, ⟨f0, f1, f2, f3, f4, f5, f6, f7, f8⟩, hlt⟩ := k
 exact ⟨⟨h.cell k0, h.cell k1, h.cell k2, h.cell k3, h.cell k4, h.cell k5, h.cell k6, h.cell k7, h.cell k8⟩, ⟨h.free (by exact hlt) f0, h.free (by exact hlt) f1, h.free (by exact hlt) f2, h.free (by exact hlt) f3, h.free (by exact hlt) f4, h.free (by exact hlt) f5, h.free (by exact hlt) f6, h.free (by exact hlt) f7, h.free (by exact hlt) f8⟩, Nat.lt_of_lt_of_le hlt h.size⟩
theorem Box9.of {w : World} {b : Nat} {v0 v1 v2 v3 v4 v5 v6 v7 v8 : Value} {t : TypeId} (h : w.heap[b]? = some (.cells #[v0, v1, v2, v3, v4, v5, v6, v7, v8] t (0, 0))) : Box9 w b v0 v1 v2 v3 v4 v5 v6 v7 v8 := by
 have hlt : b < w.heap.size := (Array.getElem?_eq_some_iff.1 h).1
 refine ⟨⟨?_, ?_, ?_, ?_, ?_, ?_, ?_, ?_, ?_⟩, ⟨?_, ?_, ?_, ?_, ?_, ?_, ?_, ?_, ?_⟩, hlt⟩ <;> simp [World.cell?, World.frozen?, h]
theorem Box9.at {w w1 : World} {b : Nat} {v0 v1 v2 v3 v4 v5 v6 v7 v8 : Value} {t : TypeId} (g : Gr w w1) (h : w.heap[b]? = some (.cells #[v0, v1, v2, v3, v4, v5, v6, v7, v8] t (0, 0))) : Box9 w1 b v0 v1 v2 v3 v4 v5 v6 v7 v8 := (Box9.of h).mono g
abbrev Box10 (w : World) (b : Nat) (v0 v1 v2 v3 v4 v5 v6 v7 v8 v9 : Value) : Prop := (w.cell? ⟨b, 0, none⟩ = some v0 ∧ w.cell? ⟨b, 1, none⟩ = some v1 ∧ w.cell? ⟨b, 2, none⟩ = some v2 ∧ w.cell? ⟨b, 3, none⟩ = some v3 ∧ w.cell? ⟨b, 4, none⟩ = some v4 ∧ w.cell? ⟨b, 5, none⟩ = some v5 ∧ w.cell? ⟨b, 6, none⟩ = some v6 ∧ w.cell? ⟨b, 7, none⟩ = some v7 ∧ w.cell? ⟨b, 8, none⟩ = some v8 ∧ w.cell? ⟨b, 9, none⟩ = some v9) ∧ (w.frozen? ⟨b, 0, none⟩ = false ∧ w.frozen? ⟨b, 1, none⟩ = false ∧ w.frozen? ⟨b, 2, none⟩ = false ∧ w.frozen? ⟨b, 3, none⟩ = false ∧ w.frozen? ⟨b, 4, none⟩ = false ∧ w.frozen? ⟨b, 5, none⟩ = false ∧ w.frozen? ⟨b, 6, none⟩ = false ∧ w.frozen? ⟨b, 7, none⟩ = false ∧ w.frozen? ⟨b, 8, none⟩ = false ∧ w.frozen? ⟨b, 9, none⟩ = false) ∧ b < w.heap.size
theorem Box10.mono {w w1 : World} {b : Nat} {v0 v1 v2 v3 v4 v5 v6 v7 v8 v9 : Value} (k : Box10 w b v0 v1 v2 v3 v4 v5 v6 v7 v8 v9) (h : Gr w w1) : Box10 w1 b v0 v1 v2 v3 v4 v5 v6 v7 v8 v9 := by
 obtain ⟨⟨k0, k1, k2, k3, k4, k5, k6, k7, k8, k9⟩, ⟨f0, f1, f2, f3, f4, f5, f6, f7, f8, f9⟩, hlt⟩ := k
 exact ⟨⟨h.cell k0, h.cell k1, h.cell k2, h.cell k3, h.cell k4, h.cell k5, h.cell k6, h.cell k7, h.cell k8, h.cell k9⟩, ⟨h.free (by exact hlt) f0, h.free (by exact hlt) f1, h.free (by exact hlt) f2, h.free (by exact hlt) f3, h.free (by exact hlt) f4, h.free (by exact hlt) f5, h.free (by exact hlt) f6, h.free (by exact hlt) f7, h.free (by exact hlt) f8, h.free (by exact hlt) f9⟩, Nat.lt_of_lt_of_le hlt h.size⟩
theorem Box10.of {w : World} {b : Nat} {v0 v1 v2 v3 v4 v5 v6 v7 v8 v9 : Value} {t : TypeId} (h : w.heap[b]? = some (.cells #[v0, v1, v2, v3, v4, v5, v6, v7, v8, v9] t (0, 0))) : Box10 w b v0 v1 v2 v3 v4 v5 v6 v7 v8 v9 := by
 have hlt : b < w.heap.size := (Array.getElem?_eq_some_iff.1 h).1
 refine ⟨⟨?_, ?_, ?_, ?_, ?_, ?_, ?_, ?_, ?_, ?_⟩, ⟨?_, ?_, ?_, ?_, ?_, ?_, ?_, ?_, ?_, ?_⟩, hlt⟩ <;> simp [World.cell?, World.frozen?, h]
theorem Box10.at {w w1 : World} {b : Nat} {v0 v1 v2 v3 v4 v5 v6 v7 v8 v9 : Value} {t : TypeId} (g : Gr w w1) (h : w.heap[b]? = some (.cells #[v0, v1, v2, v3, v4, v5, v6, v7, v8, v9] t (0, 0))) : Box10 w1 b v0 v1 v2 v3 v4 v5 v6 v7 v8 v9 := (Box10.of h).mono g
abbrev Box11 (w : World) (b : Nat) (v0 v1 v2 v3 v4 v5 v6 v7 v8 v9 v10 : Value) : Prop := (w.cell? ⟨b, 0, none⟩ = some v0 ∧ w.cell? ⟨b, 1, none⟩ = some v1 ∧ w.cell? ⟨b, 2, none⟩ = some v2 ∧ w.cell? ⟨b, 3, none⟩ = some v3 ∧ w.cell? ⟨b, 4, none⟩ = some v4 ∧ w.cell? ⟨b, 5, none⟩ = some v5 ∧ w.cell? ⟨b, 6, none⟩ = some v6 ∧ w.cell? ⟨b, 7, none⟩ = some v7 ∧ w.cell? ⟨b, 8, none⟩ = some v8 ∧ w.cell? ⟨b, 9, none⟩ = some v9 ∧ w.cell? ⟨b, 10, none⟩ = some v10) ∧ (w.frozen? ⟨b, 0, none⟩ = false ∧ w.frozen? ⟨b, 1, none⟩ = false ∧ w.frozen? ⟨b, 2, none⟩ = false ∧ w.frozen? ⟨b, 3, none⟩ = false ∧ w.frozen? ⟨b, 4, none⟩ = false ∧ w.frozen? ⟨b, 5, none⟩ = false ∧ w.frozen? ⟨b, 6, none⟩ = false ∧ w.frozen? ⟨b, 7, none⟩ = false ∧ w.frozen? ⟨b, 8, none⟩ = false ∧ w.frozen? ⟨b, 9, none⟩ = false ∧ w.frozen? ⟨b, 10, none⟩ = false) ∧ b < w.heap.size
theorem Box11.mono {w w1 : World} {b : Nat} {v0 v1 v2 v3 v4 v5 v6 v7 v8 v9 v10 : Value} (k : Box11 w b v0 v1 v2 v3 v4 v5 v6 v7 v8 v9 v10) (h : Gr w w1) : Box11 w1 b v0 v1 v2 v3 v4 v5 v6 v7 v8 v9 v10 := by
 obtain ⟨⟨k0, k1, k2, k3, k4, k5, k6, k7, k8, k9, k10⟩, ⟨f0, f1, f2, f3, f4, f5, f6, f7, f8, f9, f10⟩, hlt⟩ := k
 exact ⟨⟨h.cell k0, h.cell k1, h.cell k2, h.cell k3, h.cell k4, h.cell k5, h.cell k6, h.cell k7, h.cell k8, h.cell k9, h.cell k10⟩, ⟨h.free (by exact hlt) f0, h.free (by exact hlt) f1, h.free (by exact hlt) f2, h.free (by exact hlt) f3, h.free (by exact hlt) f4, h.free (by exact hlt) f5, h.free (by exact hlt) f6, h.free (by exact hlt) f7, h.free (by exact hlt) f8, h.free (by exact hlt) f9, h.free (by exact hlt) f10⟩, Nat.lt_of_lt_of_le hlt h.size⟩
theorem Box11.of {w : World} {b : Nat} {v0 v1 v2 v3 v4 v5 v6 v7 v8 v9 v10 : Value} {t : TypeId} (h : w.heap[b]? = some (.cells #[v0, v1, v2, v3, v4, v5, v6, v7, v8, v9, v10] t (0, 0))) : Box11 w b v0 v1 v2 v3 v4 v5 v6 v7 v8 v9 v10 := by
 have hlt : b < w.heap.size := (Array.getElem?_eq_some_iff.1 h).1
 refine ⟨⟨?_, ?_, ?_, ?_, ?_, ?_, ?_, ?_, ?_, ?_, ?_⟩, ⟨?_, ?_, ?_, ?_, ?_, ?_, ?_, ?_, ?_, ?_, ?_⟩, hlt⟩ <;> simp [World.cell?, World.frozen?, h]
theorem Box11.at {w w1 : World} {b : Nat} {v0 v1 v2 v3 v4 v5 v6 v7 v8 v9 v10 : Value} {t : TypeId} (g : Gr w w1) (h : w.heap[b]? = some (.cells #[v0, v1, v2, v3, v4, v5, v6, v7, v8, v9, v10] t (0, 0))) : Box11 w1 b v0 v1 v2 v3 v4 v5 v6 v7 v8 v9 v10 := (Box11.of h).mono g
abbrev Box12 (w : World) (b : Nat) (v0 v1 v2 v3 v4 v5 v6 v7 v8 v9 v10 v11 : Value) : Prop := (w.cell? ⟨b, 0, none⟩ = some v0 ∧ w.cell? ⟨b, 1, none⟩ = some v1 ∧ w.cell? ⟨b, 2, none⟩ = some v2 ∧ w.cell? ⟨b, 3, none⟩ = some v3 ∧ w.cell? ⟨b, 4, none⟩ = some v4 ∧ w.cell? ⟨b, 5, none⟩ = some v5 ∧ w.cell? ⟨b, 6, none⟩ = some v6 ∧ w.cell? ⟨b, 7, none⟩ = some v7 ∧ w.cell? ⟨b, 8, none⟩ = some v8 ∧ w.cell? ⟨b, 9, none⟩ = some v9 ∧ w.cell? ⟨b, 10, none⟩ = some v10 ∧ w.cell? ⟨b, 11, none⟩ = some v11) ∧ (w.frozen? ⟨b, 0, none⟩ = false ∧ w.frozen? ⟨b, 1, none⟩ = false ∧ w.frozen? ⟨b, 2, none⟩ = false ∧ w.frozen? ⟨b, 3, none⟩ = false ∧ w.frozen? ⟨b, 4, none⟩ = false ∧ w.frozen? ⟨b, 5, none⟩ = false ∧ w.frozen? ⟨b, 6, none⟩ = false ∧ w.frozen? ⟨b, 7, none⟩ = false ∧ w.frozen? ⟨b, 8, none⟩ = false ∧ w.frozen? ⟨b, 9, none⟩ = false ∧ w.frozen? ⟨b, 10, none⟩ = false ∧ w.frozen? ⟨b, 11, none⟩ = false) ∧ b < w.heap.size
theorem Box12.mono {w w1 : World} {b : Nat} {v0 v1 v2 v3 v4 v5 v6 v7 v8 v9 v10 v11 : Value} (k : Box12 w b v0 v1 v2 v3 v4 v5 v6 v7 v8 v9 v10 v11) (h : Gr w w1) : Box12 w1 b v0 v1 v2 v3 v4 v5 v6 v7 v8 v9 v10 v11 := by
 obtain ⟨⟨k0, k1, k2, k3, k4, k5, k6, k7, k8, k9, k10, k11⟩, ⟨f0, f1, f2, f3, f4, f5, f6, f7, f8, f9, f10, f11⟩, hlt⟩ := k
 exact ⟨⟨h.cell k0, h.cell k1, h.cell k2, h.cell k3, h.cell k4, h.cell k5, h.cell k6, h.cell k7, h.cell k8, h.cell k9, h.cell k10, h.cell k11⟩, ⟨h.free (by exact hlt) f0, h.free (by exact hlt) f1, h.free (by exact hlt) f2, h.free (by exact hlt) f3, h.free (by exact hlt) f4, h.free (by exact hlt) f5, h.free (by exact hlt) f6, h.free (by exact hlt) f7, h.free (by exact hlt) f8, h.free (by exact hlt) f9, h.free (by exact hlt) f10, h.free (by exact hlt) f11⟩, Nat.lt_of_lt_of_le hlt h.size⟩
theorem Box12.of {w : World} {b : Nat} {v0 v1 v2 v3 v4 v5 v6 v7 v8 v9 v10 v11 : Value} {t : TypeId} (h : w.heap[b]? = some (.cells #[v0, v1, v2, v3, v4, v5, v6, v7, v8, v9, v10, v11] t (0, 0))) : Box12 w b v0 v1 v2 v3 v4 v5 v6 v7 v8 v9 v10 v11 := by
 have hlt : b < w.heap.size := (Array.getElem?_eq_some_iff.1 h).1
 refine ⟨⟨?_, ?_, ?_, ?_, ?_, ?_, ?_, ?_, ?_, ?_, ?_, ?_⟩, ⟨?_, ?_, ?_, ?_, ?_, ?_, ?_, ?_, ?_, ?_, ?_, ?_⟩, hlt⟩ <;> simp [World.cell?, World.frozen?, h]
theorem Box12.at {w w1 : World} {b : Nat} {v0 v1 v2 v3 v4 v5 v6 v7 v8 v9 v10 v11 : Value} {t : TypeId} (g : Gr w w1) (h : w.heap[b]? = some (.cells #[v0, v1, v2, v3, v4, v5, v6, v7, v8, v9, v10, v11] t (0, 0))) : Box12 w1 b v0 v1 v2 v3 v4 v5 v6 v7 v8 v9 v10 v11 := (Box12.of h).mono g
abbrev Box13 (w : World) (b : Nat) (v0 v1 v2 v3 v4 v5 v6 v7 v8 v9 v10 v11 v12 : Value) : Prop := (w.cell? ⟨b, 0, none⟩ = some v0 ∧ w.cell? ⟨b, 1, none⟩ = some v1 ∧ w.cell? ⟨b, 2, none⟩ = some v2 ∧ w.cell? ⟨b, 3, none⟩ = some v3 ∧ w.cell? ⟨b, 4, none⟩ = some v4 ∧ w.cell? ⟨b, 5, none⟩ = some v5 ∧ w.cell? ⟨b, 6, none⟩ = some v6 ∧ w.cell? ⟨b, 7, none⟩ = some v7 ∧ w.cell? ⟨b, 8, none⟩ = some v8 ∧ w.cell? ⟨b, 9, none⟩ = some v9 ∧ w.cell? ⟨b, 10, none⟩ = some v10 ∧ w.cell? ⟨b, 11, none⟩ = some v11 ∧ w.cell? ⟨b, 12, none⟩ = some v12) ∧ (w.frozen? ⟨b, 0, none⟩ = false ∧ w.frozen? ⟨b, 1, none⟩ = false ∧ w.frozen? ⟨b, 2, none⟩ = false ∧ w.frozen? ⟨b, 3, none⟩ = false ∧ w.frozen? ⟨b, 4, none⟩ = false ∧ w.frozen? ⟨b, 5, none⟩ = false ∧ w.frozen? ⟨b, 6, none⟩ = false ∧ w.frozen? ⟨b, 7, none⟩ = false ∧ w.frozen? ⟨b, 8, none⟩ = false ∧ w.frozen? ⟨b, 9, none⟩ = false ∧ w.frozen? ⟨b, 10, none⟩ = false ∧ w.frozen? ⟨b, 11, none⟩ = false ∧ w.frozen? ⟨b, 12, none⟩ = false) ∧ b < w.heap.size
theorem Box13.mono {w w1 : World} {b : Nat} {v0 v1 v2 v3 v4 v5 v6 v7 v8 v9 v10 v11 v12 : Value} (k : Box13 w b v0 v1 v2 v3 v4 v5 v6 v7 v8 v9 v10 v11 v12) (h : Gr w w1) : Box13 w1 b v0 v1 v2 v3 v4 v5 v6 v7 v8 v9 v10 v11 v12 := by
 obtain ⟨⟨k0, k1, k2, k3, k4, k5, k6, k7, k8, k9, k10, k11, k12⟩, ⟨f0, f1, f2, f3, f4, f5, f6, f7, f8, f9, f10, f11, f12⟩, hlt⟩ := k
 exact ⟨⟨h.cell k0, h.cell k1, h.cell k2, h.cell k3, h.cell k4, h.cell k5, h.cell k6, h.cell k7, h.cell k8, h.cell k9, h.cell k10, h.cell k11, h.cell k12⟩, ⟨h.free (by exact hlt) f0, h.free (by exact hlt) f1, h.free (by exact hlt) f2, h.free (by exact hlt) f3, h.free (by exact hlt) f4, h.free (by exact hlt) f5, h.free (by exact hlt) f6, h.free (by exact hlt) f7, h.free (by exact hlt) f8, h.free (by exact hlt) f9, h.free (by exact hlt) f10, h.free (by exact hlt) f11, h.free (by exact hlt) f12⟩, Nat.lt_of_lt_of_le hlt h.size⟩
theorem Box13.of {w : World} {b : Nat} {v0 v1 v2 v3 v4 v5 v6 v7 v8 v9 v10 v11 v12 : Value} {t : TypeId} (h : w.heap[b]? = some (.cells #[v0, v1, v2, v3, v4, v5, v6, v7, v8, v9, v10, v11, v12] t (0, 0))) : Box13 w b v0 v1 v2 v3 v4 v5 v6 v7 v8 v9 v10 v11 v12 := by
 have hlt : b < w.heap.size := (Array.getElem?_eq_some_iff.1 h).1
 refine ⟨⟨?_, ?_, ?_, ?_, ?_, ?_, ?_, ?_, ?_, ?_, ?_, ?_, ?_⟩, ⟨?_, ?_, ?_, ?_, ?_, ?_, ?_, ?_, ?_, ?_, ?_, ?_, ?_⟩, hlt⟩ <;> simp [World.cell?, World.frozen?, h]
theorem Box13.at {w w1 : World} {b : Nat} {v0 v1 v2 v3 v4 v5 v6 v7 v8 v9 v10 v11 v12 : Value} {t : TypeId} (g : Gr w w1) (h : w.heap[b]? = some (.cells #[v0, v1, v2, v3, v4, v5, v6, v7, v8, v9, v10, v11, v12] t (0, 0))) : Box13 w1 b v0 v1 v2 v3 v4 v5 v6 v7 v8 v9 v10 v11 v12 := (Box13.of h).mono g
abbrev Box14 (w : World) (b : Nat) (v0 v1 v2 v3 v4 v5 v6 v7 v8 v9 v10 v11 v12 v13 : Value) : Prop := (w.cell? ⟨b, 0, none⟩ = some v0 ∧ w.cell? ⟨b, 1, none⟩ = some v1 ∧ w.cell? ⟨b, 2, none⟩ = some v2 ∧ w.cell? ⟨b, 3, none⟩ = some v3 ∧ w.cell? ⟨b, 4, none⟩ = some v4 ∧ w.cell? ⟨b, 5, none⟩ = some v5 ∧ w.cell? ⟨b, 6, none⟩ = some v6 ∧ w.cell? ⟨b, 7, none⟩ = some v7 ∧ w.cell? ⟨b, 8, none⟩ = some v8 ∧ w.cell? ⟨b, 9, none⟩ = some v9 ∧ w.cell? ⟨b, 10, none⟩ = some v10 ∧ w.cell? ⟨b, 11, none⟩ = some v11 ∧ w.cell? ⟨b, 12, none⟩ = some v12 ∧ w.cell? ⟨b, 13, none⟩ = some v13) ∧ (w.frozen? ⟨b, 0, none⟩ = false ∧ w.frozen? ⟨b, 1, none⟩ = false ∧ w.frozen? ⟨b, 2, none⟩ = false ∧ w.frozen? ⟨b, 3, none⟩ = false ∧ w.frozen? ⟨b, 4, none⟩ = false ∧ w.frozen? ⟨b, 5, none⟩ = false ∧ w.frozen? ⟨b, 6, none⟩ = false ∧ w.frozen? ⟨b, 7, none⟩ = false ∧ w.frozen? ⟨b, 8, none⟩ = false ∧ w.frozen? ⟨b, 9, none⟩ = false ∧ w.frozen? ⟨b, 10, none⟩ = false ∧ w.frozen? ⟨b, 11, none⟩ = false ∧ w.frozen? ⟨b, 12, none⟩ = false ∧ w.frozen? ⟨b, 13, none⟩ = false) ∧ b < w.heap.size
theorem Box14.mono {w w1 : World} {b : Nat} {v0 v1 v2 v3 v4 v5 v6 v7 v8 v9 v10 v11 v12 v13 : Value} (k : Box14 w b v0 v1 v2 v3 v4 v5 v6 v7 v8 v9 v10 v11 v12 v13) (h : Gr w w1) : Box14 w1 b v0 v1 v2 v3 v4 v5 v6 v7 v8 v9 v10 v11 v12 v13 := by
 obtain ⟨⟨k0, k1, k2, k3, k4, k5, k6, k7, k8, k9, k10, k11, k12, k13⟩, ⟨f0, f1, f2, f3, f4, f5, f6, f7, f8, f9, f10, f11, f12, f13⟩, hlt⟩ := k
 exact ⟨⟨h.cell k0, h.cell k1, h.cell k2, h.cell k3, h.cell k4, h.cell k5, h.cell k6, h.cell k7, h.cell k8, h.cell k9, h.cell k10, h.cell k11, h.cell k12, h.cell k13⟩, ⟨h.free (by exact hlt) f0, h.free (by exact hlt) f1, h.free (by exact hlt) f2, h.free (by exact hlt) f3, h.free (by exact hlt) f4, h.free (by exact hlt) f5, h.free (by exact hlt) f6, h.free (by exact hlt) f7, h.free (by exact hlt) f8, h.free (by exact hlt) f9, h.free (by exact hlt) f10, h.free (by exact hlt) f11, h.free (by exact hlt) f12, h.free (by exact hlt) f13⟩, Nat.lt_of_lt_of_le hlt h.size⟩
theorem Box14.of {w : World} {b : Nat} {v0 v1 v2 v3 v4 v5 v6 v7 v8 v9 v10 v11 v12 v13 : Value} {t : TypeId} (h : w.heap[b]? = some (.cells #[v0, v1, v2, v3, v4, v5, v6, v7, v8, v9, v10, v11, v12, v13] t (0, 0))) : Box14 w b v0 v1 v2 v3 v4 v5 v6 v7 v8 v9 v10 v11 v12 v13 := by
 have hlt : b < w.heap.size := (Array.getElem?_eq_some_iff.1 h).1
 refine ⟨⟨?_, ?_, ?_, ?_, ?_, ?_, ?_, ?_, ?_, ?_, ?_, ?_, ?_, ?_⟩, ⟨?_, ?_, ?_, ?_, ?_, ?_, ?_, ?_, ?_, ?_, ?_, ?_, ?_, ?_⟩, hlt⟩ <;> simp [World.cell?, World.frozen?, h]
theorem Box14.at {w w1 : World} {b : Nat} {v0 v1 v2 v3 v4 v5 v6 v7 v8 v9 v10 v11 v12 v13 : Value} {t : TypeId} (g : Gr w w1) (h : w.heap[b]? = some (.cells #[v0, v1, v2, v3, v4, v5, v6, v7, v8, v9, v10, v11, v12, v13] t (0, 0))) : Box14 w1 b v0 v1 v2 v3 v4 v5 v6 v7 v8 v9 v10 v11 v12 v13 := (Box14.of h).mono g
end Go.Proofs.Ytphgchakmkankaa

namespace Go.Proofs.Ytphgchakmkankaa
set_option linter.unusedSectionVars false
open Go.RowKit Go.Deep
set_option linter.unusedVariables false
set_option linter.unusedSimpArgs false

theorem Gr.cells {w w' : World} (g : Gr w w') {a : Addr} {n : Nat} {cs : List Value} (h : ∀ i, i < n → w.cell? (a.add i) = cs[i]?) (hl : cs.length = n) : ∀ i, i < n → w'.cell? (a.add i) = cs[i]? := by
 intro i hi
 have h1 := h i hi
 rw [List.getElem?_eq_getElem (by omega)] at h1 ⊢
 exact g.cell h1

structure Cod (α : Type) where
 size : Nat
 is : World → List Value → α → Prop
 len : ∀ {w cs a}, is w cs a → cs.length = size
 mono : ∀ {w w' cs a}, is w cs a → Gr w w' → is w' cs a
 bulk : α → Nat

def intC : Cod Int where
 size := 1
 is := fun _ cs n => cs = [.int .i64 n] ∧ -9223372036854775808 ≤ n ∧ n ≤ 9223372036854775807
 len := fun h => by rw [h.1]; rfl
 mono := fun h _ => h
 bulk := fun _ => 1
def boolC : Cod Bool where
 size := 1
 is := fun _ cs b => cs = [.bool b]
 len := fun h => by rw [h]; rfl
 mono := fun h _ => h
 bulk := fun _ => 1
def strC : Cod ByteArray where
 size := 1
 is := fun _ cs s => cs = [.string s] ∧ s.size ≤ maxLen
 len := fun h => by rw [h.1]; rfl
 mono := fun h _ => h
 bulk := fun s => s.size + 1
def Cod.pair {α β : Type} (c : Cod α) (d : Cod β) : Cod (α × β) where
 size := c.size + d.size
 is := fun w cs x => c.is w (cs.take c.size) x.1 ∧ d.is w (cs.drop c.size) x.2
 len := fun {w cs a} h => by
  have h1 := c.len h.1
  have h2 := d.len h.2
  simp at h1 h2
  omega
 mono := fun h g => ⟨c.mono h.1 g, d.mono h.2 g⟩
 bulk := fun x => c.bulk x.1 + d.bulk x.2
def sliceC {α : Type} (c : Cod α) : Cod (List α) where
 size := 1
 is := fun w cs l => (cs = [.slice none 0 0] ∧ l = []) ∨ ∃ (b off : Nat) (sp : Option Nat) (cap : Nat), cs = [.slice (some ⟨b, off, sp⟩) l.length cap] ∧ l.length ≤ cap ∧ cap ≤ maxLen ∧
  ∀ i (h : i < l.length), sp = none ∧ ∃ cs', (∀ j, j < c.size → w.cell? ⟨b, off + (i * c.size + j), none⟩ = cs'[j]?) ∧ c.is w cs' l[i]
 len := fun h => by
  rcases h with ⟨rfl, _⟩ | ⟨b, off, sp, cap, rfl, _⟩ <;> rfl
 mono := fun {w w' cs l} h g => by
  rcases h with h | ⟨b, off, sp, cap, h1, h2, h3, h4⟩
  ·exact .inl h
  ·refine .inr ⟨b, off, sp, cap, h1, h2, h3, fun i hi => ?_⟩
   obtain ⟨e, cs', h5, h6⟩ := h4 i hi
   refine ⟨e, cs', fun j hj => ?_, c.mono h6 g⟩
   have h7 := h5 j hj
   have hl := c.len h6
   rw [List.getElem?_eq_getElem (by omega)] at h7 ⊢
   exact g.cell h7
 bulk := fun l => (l.map c.bulk).sum + 1

def ReadsF {α : Type} (F : Nat → Prop) (P : Program) (c : Cod α) (t : TypeId) : Prop :=
 ∀ ⦃H : Type⦄ ⦃enc : TypeId × Value → H⦄ ⦃w : World⦄ ⦃base : Nat⦄ ⦃spare : Nat → Bool⦄ ⦃held : Bool⦄ ⦃fuel : Nat⦄ ⦃cs : List Value⦄ ⦃x : DataW H × List MemPlace⦄, F fuel →
  DataW.trod enc P w base spare held fuel t cs = some x → ∃ a, c.is w cs a ∧ c.bulk a ≤ Rows.uptoBulk x.1
abbrev Reads {α : Type} (P : Program) (c : Cod α) (t : TypeId) : Prop := ReadsF (fun _ => True) P c t
theorem bulkAll_sum {H : Type} (l : List (DataW H)) : Rows.uptoBulkAll l = (l.map Rows.uptoBulk).sum := by
 induction l with
 | nil => rfl
 | cons x r ih => simp only [Rows.uptoBulkAll, List.map_cons, List.sum_cons, ih]
theorem sum_le_range {α : Type} (f : α → Nat) (D : Nat → Nat) : ∀ (l : List α) (o : Nat), (∀ i (h : i < l.length), f l[i] ≤ D (o + i)) → (l.map f).sum ≤ ((List.range' o l.length).map D).sum
 | [], _, _ => by simp
 | x :: r, o, h => by
  simp only [List.length_cons, List.range'_succ, List.map_cons, List.sum_cons]
  have h0 := h 0 (by simp)
  have := sum_le_range f D r (o + 1) (fun i hi => by have := h (i + 1) (by simp; omega); simp only [List.getElem_cons_succ] at this; rw [show o + 1 + i = o + (i + 1) by omega]; exact this)
  simp at h0
  omega

theorem wf_i64 {n : Int} (h : (Lit.int .i64 n).wf = true) : -9223372036854775808 ≤ n ∧ n ≤ 9223372036854775807 := by
 simpa [Lit.wf, IntKind.min, IntKind.max, IntKind.signed, IntKind.bits] using h
theorem bulk_pos {H : Type} (d : DataW H) : 1 ≤ Rows.uptoBulk d := by
 cases d with
 | lit l => cases l <;> simp [Rows.uptoBulk]
 | _ => simp [Rows.uptoBulk]
theorem reads_int {F : Nat → Prop} {P : Program} {t : TypeId} (ht : P.underlying t = some (.int .i64)) : ReadsF F P intC t := by
 intro H enc w base spare held fuel cs x _ h
 obtain ⟨n, rfl, _, hw⟩ := DataW.trod_int ht h
 exact ⟨n, ⟨rfl, wf_i64 hw⟩, bulk_pos _⟩
theorem reads_bool {F : Nat → Prop} {P : Program} {t : TypeId} (ht : P.underlying t = some .bool) : ReadsF F P boolC t := by
 intro H enc w base spare held fuel cs x _ h
 obtain ⟨n, rfl, _⟩ := DataW.trod_bool ht h
 exact ⟨n, rfl, bulk_pos _⟩
theorem reads_str {F : Nat → Prop} {P : Program} {t : TypeId} (ht : P.underlying t = some .string) : ReadsF F P strC t := by
 intro H enc w base spare held fuel cs x _ h
 obtain ⟨n, rfl, hx, hw⟩ := DataW.trod_string ht h
 refine ⟨n, ⟨rfl, hw⟩, ?_⟩
 subst hx
 simp only [Rows.uptoBulk, strC]
 first | (simp; done) | omega
theorem reads_slice {F : Nat → Prop} {P : Program} {α : Type} {c : Cod α} {t e : TypeId} (ht : P.underlying t = some (.slice e)) (hz : P.cellsOf e = c.size) (hp : 0 < c.size) (hr : ReadsF (fun m => F (m + 1)) P c e) : ReadsF F P (sliceC c) t := by
 intro H enc w base spare held fuel cs x hF h
 rcases DataW.trod_slice ht h with ⟨rfl, rfl⟩ | ⟨a, len, cap, elems, rest, n, hfu, rfl, hxe, hb, hl, hm, hlen, hel, h8, h9⟩
 ·exact ⟨[], .inl ⟨rfl, rfl⟩, by simp [sliceC, Rows.uptoBulk]⟩
 ·obtain ⟨D, hD⟩ : ∃ D : Nat → DataW H, D = fun i => (elems.getD i (.nil, [])).1 := ⟨_, rfl⟩
  have key : ∀ i, i < len → ∃ (y : α) (cs' : List Value), (∀ j, j < c.size → w.cell? (a.add (i * c.size + j)) = cs'[j]?) ∧ c.is w cs' y ∧ c.bulk y ≤ Rows.uptoBulk (D i) := by
   intro i hi
   have hk := hel i hi
   rw [List.getElem?_eq_getElem (by omega)] at hk
   obtain ⟨cs', h1, h2⟩ := Option.bind_eq_some_iff.1 hk
   obtain ⟨y, hy, hyb⟩ := hr (by subst hfu; exact hF) h2
   have hyb : c.bulk y ≤ Rows.uptoBulk (D i) := by
    rw [hD]
    simpa [List.getD, List.getElem?_eq_getElem (show i < elems.length by omega)] using hyb
   obtain ⟨_, h3, h4⟩ := World.cells?_some h1
   refine ⟨y, cs', fun j hj => ?_, hy, hyb⟩
   have := h4 j (by rw [hz]; exact hj)
   rw [hz] at this
   rw [← this, add_add]
  obtain ⟨ys, hys⟩ : ∃ ys : List α, ys.length = len ∧ ∀ i (h : i < ys.length), c.bulk ys[i] ≤ Rows.uptoBulk (D i) ∧ ∃ cs', (∀ j, j < c.size → w.cell? (a.add (i * c.size + j)) = cs'[j]?) ∧ c.is w cs' ys[i] := by
   clear hel hlen h hl hxe h8 h9
   induction len with
   | zero => exact ⟨[], rfl, fun i h => by simp at h⟩
   | succ k ih =>
    obtain ⟨ys, h1, h2⟩ := ih (fun i hi => key i (by omega))
    obtain ⟨y, cs', h3, h4, h4b⟩ := key k (by omega)
    refine ⟨ys ++ [y], by simp [h1], fun i hi => ?_⟩
    by_cases hk : i < ys.length
    ·rw [List.getElem_append_left hk]; exact h2 i hk
    ·have : i = k := by simp at hi; omega
     subst this
     rw [List.getElem_append_right (by omega)]
     simp only [h1, Nat.sub_self, List.getElem_cons_zero]
     exact ⟨h4b, cs', h3, h4⟩
  obtain ⟨h1, h2⟩ := hys
  obtain ⟨b, off, sp⟩ := a
  refine ⟨ys, .inr ⟨b, off, sp, cap, by rw [h1], by omega, hm, fun i hi => ?_⟩, ?_⟩
  ·have hs : sp = none := by
    cases sp with
    | none => rfl
    | some q =>
     exfalso
     obtain ⟨_, cs', h3, h4⟩ := h2 0 (by omega)
     have h5 := h3 0 hp
     have hl := c.len h4
     rw [List.getElem?_eq_getElem (by omega)] at h5
     simp only [Nat.zero_mul, Nat.zero_add, World.cell?, Addr.add] at h5
     split at h5 <;> simp at h5
   obtain ⟨_, cs', h3, h4⟩ := h2 i hi
   subst hs
   refine ⟨rfl, cs', fun j hj => ?_, h4⟩
   have h6 := h3 j hj
   rw [← h6]
   congr 1
   simp only [Addr.add]
   split
   ·rename_i h7; simp only [h7, Nat.add_zero]
   ·rfl
  ·subst hxe
   simp only [sliceC, Rows.uptoBulk, bulkAll_sum, List.map_map]
   have := sum_le_range c.bulk (fun i => Rows.uptoBulk (D i)) ys 0 (fun i hi => by simpa using (h2 i hi).1)
   rw [h1, ← List.range_eq_range'] at this
   have e : List.map (Rows.uptoBulk ∘ fun x => x.1) elems = List.map (fun i => Rows.uptoBulk (D i)) (List.range len) := by
    rw [← hlen, hD]
    apply List.ext_getElem (by simp)
    intro i h3 h4
    simp at h3
    simp [List.getD, List.getElem?_eq_getElem h3]
   rw [e]
   omega
theorem take_drop_all {α : Type} (l : List α) (o n : Nat) (h : l.length = o + n) : (l.drop o).take n = l.drop o := List.take_of_length_le (by simp; omega)

theorem list_of_len2 {α : Type} (l : List α) (h : l.length = 2) : ∃ x0 x1, l = [x0, x1] := by
 match l, h with
 | [x0, x1], _ => exact ⟨x0, x1, rfl⟩
theorem reads_struct2 {F : Nat → Prop} {P : Program} {α0 α1 : Type} {t : TypeId} {f0 f1 : Field} {c0 : Cod α0} {c1 : Cod α1} (ht : P.underlying t = some (.struct #[f0, f1])) (hz : P.cellsOf t = c0.size + c1.size) (o0 : f0.offset = 0) (o1 : f1.offset = c0.size) (z0 : P.cellsOf f0.type = c0.size) (z1 : P.cellsOf f1.type = c1.size) (r0 : ReadsF (fun m => F (m + 1)) P c0 f0.type) (r1 : ReadsF (fun m => F (m + 1)) P c1 f1.type) : ReadsF F P (c0.pair c1) t := by
 intro H enc w base spare held fuel cs x hF h
 obtain ⟨xs, m, hfu, hxx, hlen, hxl, hf⟩ := DataW.trod_struct ht h
 rw [hz] at hlen
 have hxl : xs.length = 2 := hxl
 have h0 := hf 0 f0 rfl
 rw [o0, z0, List.getElem?_eq_getElem (show 0 < xs.length by omega)] at h0
 obtain ⟨a0, k0, b0⟩ := r0 (by subst hfu; exact hF) h0
 have h1 := hf 1 f1 rfl
 rw [o1, z1, List.getElem?_eq_getElem (show 1 < xs.length by omega)] at h1
 obtain ⟨a1, k1, b1⟩ := r1 (by subst hfu; exact hF) h1
 rw [take_drop_all cs (c0.size) c1.size (by omega)] at k1
 refine ⟨(a0, a1), ?_, ?_⟩
 ·exact ⟨by simpa using k0, (by simpa [List.drop_drop, Nat.add_assoc] using k1)⟩
 ·subst hxx
  simp only [Rows.uptoBulk, bulkAll_sum, Cod.pair]
  have hs : (List.map Rows.uptoBulk (xs.map (·.1))).sum = Rows.uptoBulk xs[0].1 + (Rows.uptoBulk xs[1].1) := by
   obtain ⟨x0, x1, rfl⟩ := list_of_len2 xs hxl
   simp
  rw [hs]
  exact Nat.le_succ_of_le (Nat.add_le_add b0 b1)
theorem list_of_len6 {α : Type} (l : List α) (h : l.length = 6) : ∃ x0 x1 x2 x3 x4 x5, l = [x0, x1, x2, x3, x4, x5] := by
 match l, h with
 | [x0, x1, x2, x3, x4, x5], _ => exact ⟨x0, x1, x2, x3, x4, x5, rfl⟩
theorem reads_struct6 {F : Nat → Prop} {P : Program} {α0 α1 α2 α3 α4 α5 : Type} {t : TypeId} {f0 f1 f2 f3 f4 f5 : Field} {c0 : Cod α0} {c1 : Cod α1} {c2 : Cod α2} {c3 : Cod α3} {c4 : Cod α4} {c5 : Cod α5} (ht : P.underlying t = some (.struct #[f0, f1, f2, f3, f4, f5])) (hz : P.cellsOf t = c0.size + c1.size + c2.size + c3.size + c4.size + c5.size) (o0 : f0.offset = 0) (o1 : f1.offset = c0.size) (o2 : f2.offset = c0.size + c1.size) (o3 : f3.offset = c0.size + c1.size + c2.size) (o4 : f4.offset = c0.size + c1.size + c2.size + c3.size) (o5 : f5.offset = c0.size + c1.size + c2.size + c3.size + c4.size) (z0 : P.cellsOf f0.type = c0.size) (z1 : P.cellsOf f1.type = c1.size) (z2 : P.cellsOf f2.type = c2.size) (z3 : P.cellsOf f3.type = c3.size) (z4 : P.cellsOf f4.type = c4.size) (z5 : P.cellsOf f5.type = c5.size) (r0 : ReadsF (fun m => F (m + 1)) P c0 f0.type) (r1 : ReadsF (fun m => F (m + 1)) P c1 f1.type) (r2 : ReadsF (fun m => F (m + 1)) P c2 f2.type) (r3 : ReadsF (fun m => F (m + 1)) P c3 f3.type) (r4 : ReadsF (fun m => F (m + 1)) P c4 f4.type) (r5 : ReadsF (fun m => F (m + 1)) P c5 f5.type) : ReadsF F P (c0.pair (c1.pair (c2.pair (c3.pair (c4.pair c5))))) t := by
 intro H enc w base spare held fuel cs x hF h
 obtain ⟨xs, m, hfu, hxx, hlen, hxl, hf⟩ := DataW.trod_struct ht h
 rw [hz] at hlen
 have hxl : xs.length = 6 := hxl
 have h0 := hf 0 f0 rfl
 rw [o0, z0, List.getElem?_eq_getElem (show 0 < xs.length by omega)] at h0
 obtain ⟨a0, k0, b0⟩ := r0 (by subst hfu; exact hF) h0
 have h1 := hf 1 f1 rfl
 rw [o1, z1, List.getElem?_eq_getElem (show 1 < xs.length by omega)] at h1
 obtain ⟨a1, k1, b1⟩ := r1 (by subst hfu; exact hF) h1
 have h2 := hf 2 f2 rfl
 rw [o2, z2, List.getElem?_eq_getElem (show 2 < xs.length by omega)] at h2
 obtain ⟨a2, k2, b2⟩ := r2 (by subst hfu; exact hF) h2
 have h3 := hf 3 f3 rfl
 rw [o3, z3, List.getElem?_eq_getElem (show 3 < xs.length by omega)] at h3
 obtain ⟨a3, k3, b3⟩ := r3 (by subst hfu; exact hF) h3
 have h4 := hf 4 f4 rfl
 rw [o4, z4, List.getElem?_eq_getElem (show 4 < xs.length by omega)] at h4
 obtain ⟨a4, k4, b4⟩ := r4 (by subst hfu; exact hF) h4
 have h5 := hf 5 f5 rfl
 rw [o5, z5, List.getElem?_eq_getElem (show 5 < xs.length by omega)] at h5
 obtain ⟨a5, k5, b5⟩ := r5 (by subst hfu; exact hF) h5
 rw [take_drop_all cs (c0.size + c1.size + c2.size + c3.size + c4.size) c5.size (by omega)] at k5
 refine ⟨(a0, (a1, (a2, (a3, (a4, a5))))), ?_, ?_⟩
 ·exact ⟨by simpa using k0, ⟨by simpa [List.drop_drop, Nat.add_assoc] using k1, ⟨by simpa [List.drop_drop, Nat.add_assoc] using k2, ⟨by simpa [List.drop_drop, Nat.add_assoc] using k3, ⟨by simpa [List.drop_drop, Nat.add_assoc] using k4, (by simpa [List.drop_drop, Nat.add_assoc] using k5)⟩⟩⟩⟩⟩
 ·subst hxx
  simp only [Rows.uptoBulk, bulkAll_sum, Cod.pair]
  have hs : (List.map Rows.uptoBulk (xs.map (·.1))).sum = Rows.uptoBulk xs[0].1 + (Rows.uptoBulk xs[1].1 + (Rows.uptoBulk xs[2].1 + (Rows.uptoBulk xs[3].1 + (Rows.uptoBulk xs[4].1 + (Rows.uptoBulk xs[5].1))))) := by
   obtain ⟨x0, x1, x2, x3, x4, x5, rfl⟩ := list_of_len6 xs hxl
   simp
  rw [hs]
  exact Nat.le_succ_of_le (Nat.add_le_add b0 (Nat.add_le_add b1 (Nat.add_le_add b2 (Nat.add_le_add b3 (Nat.add_le_add b4 b5)))))
theorem list_of_len10 {α : Type} (l : List α) (h : l.length = 10) : ∃ x0 x1 x2 x3 x4 x5 x6 x7 x8 x9, l = [x0, x1, x2, x3, x4, x5, x6, x7, x8, x9] := by
 match l, h with
 | [x0, x1, x2, x3, x4, x5, x6, x7, x8, x9], _ => exact ⟨x0, x1, x2, x3, x4, x5, x6, x7, x8, x9, rfl⟩
theorem reads_struct10 {F : Nat → Prop} {P : Program} {α0 α1 α2 α3 α4 α5 α6 α7 α8 α9 : Type} {t : TypeId} {f0 f1 f2 f3 f4 f5 f6 f7 f8 f9 : Field} {c0 : Cod α0} {c1 : Cod α1} {c2 : Cod α2} {c3 : Cod α3} {c4 : Cod α4} {c5 : Cod α5} {c6 : Cod α6} {c7 : Cod α7} {c8 : Cod α8} {c9 : Cod α9} (ht : P.underlying t = some (.struct #[f0, f1, f2, f3, f4, f5, f6, f7, f8, f9])) (hz : P.cellsOf t = c0.size + c1.size + c2.size + c3.size + c4.size + c5.size + c6.size + c7.size + c8.size + c9.size) (o0 : f0.offset = 0) (o1 : f1.offset = c0.size) (o2 : f2.offset = c0.size + c1.size) (o3 : f3.offset = c0.size + c1.size + c2.size) (o4 : f4.offset = c0.size + c1.size + c2.size + c3.size) (o5 : f5.offset = c0.size + c1.size + c2.size + c3.size + c4.size) (o6 : f6.offset = c0.size + c1.size + c2.size + c3.size + c4.size + c5.size) (o7 : f7.offset = c0.size + c1.size + c2.size + c3.size + c4.size + c5.size + c6.size) (o8 : f8.offset = c0.size + c1.size + c2.size + c3.size + c4.size + c5.size + c6.size + c7.size) (o9 : f9.offset = c0.size + c1.size + c2.size + c3.size + c4.size + c5.size + c6.size + c7.size + c8.size) (z0 : P.cellsOf f0.type = c0.size) (z1 : P.cellsOf f1.type = c1.size) (z2 : P.cellsOf f2.type = c2.size) (z3 : P.cellsOf f3.type = c3.size) (z4 : P.cellsOf f4.type = c4.size) (z5 : P.cellsOf f5.type = c5.size) (z6 : P.cellsOf f6.type = c6.size) (z7 : P.cellsOf f7.type = c7.size) (z8 : P.cellsOf f8.type = c8.size) (z9 : P.cellsOf f9.type = c9.size) (r0 : ReadsF (fun m => F (m + 1)) P c0 f0.type) (r1 : ReadsF (fun m => F (m + 1)) P c1 f1.type) (r2 : ReadsF (fun m => F (m + 1)) P c2 f2.type) (r3 : ReadsF (fun m => F (m + 1)) P c3 f3.type) (r4 : ReadsF (fun m => F (m + 1)) P c4 f4.type) (r5 : ReadsF (fun m => F (m + 1)) P c5 f5.type) (r6 : ReadsF (fun m => F (m + 1)) P c6 f6.type) (r7 : ReadsF (fun m => F (m + 1)) P c7 f7.type) (r8 : ReadsF (fun m => F (m + 1)) P c8 f8.type) (r9 : ReadsF (fun m => F (m + 1)) P c9 f9.type) : ReadsF F P (c0.pair (c1.pair (c2.pair (c3.pair (c4.pair (c5.pair (c6.pair (c7.pair (c8.pair c9))))))))) t := by
 intro H enc w base spare held fuel cs x hF h
 obtain ⟨xs, m, hfu, hxx, hlen, hxl, hf⟩ := DataW.trod_struct ht h
 rw [hz] at hlen
 have hxl : xs.length = 10 := hxl
 have h0 := hf 0 f0 rfl
 rw [o0, z0, List.getElem?_eq_getElem (show 0 < xs.length by omega)] at h0
 obtain ⟨a0, k0, b0⟩ := r0 (by subst hfu; exact hF) h0
 have h1 := hf 1 f1 rfl
 rw [o1, z1, List.getElem?_eq_getElem (show 1 < xs.length by omega)] at h1
 obtain ⟨a1, k1, b1⟩ := r1 (by subst hfu; exact hF) h1
 have h2 := hf 2 f2 rfl
 rw [o2, z2, List.getElem?_eq_getElem (show 2 < xs.length by omega)] at h2
 obtain ⟨a2, k2, b2⟩ := r2 (by subst hfu; exact hF) h2
 have h3 := hf 3 f3 rfl
 rw [o3, z3, List.getElem?_eq_getElem (show 3 < xs.length by omega)] at h3
 obtain ⟨a3, k3, b3⟩ := r3 (by subst hfu; exact hF) h3
 have h4 := hf 4 f4 rfl
 rw [o4, z4, List.getElem?_eq_getElem (show 4 < xs.length by omega)] at h4
 obtain ⟨a4, k4, b4⟩ := r4 (by subst hfu; exact hF) h4
 have h5 := hf 5 f5 rfl
 rw [o5, z5, List.getElem?_eq_getElem (show 5 < xs.length by omega)] at h5
 obtain ⟨a5, k5, b5⟩ := r5 (by subst hfu; exact hF) h5
 have h6 := hf 6 f6 rfl
 rw [o6, z6, List.getElem?_eq_getElem (show 6 < xs.length by omega)] at h6
 obtain ⟨a6, k6, b6⟩ := r6 (by subst hfu; exact hF) h6
 have h7 := hf 7 f7 rfl
 rw [o7, z7, List.getElem?_eq_getElem (show 7 < xs.length by omega)] at h7
 obtain ⟨a7, k7, b7⟩ := r7 (by subst hfu; exact hF) h7
 have h8 := hf 8 f8 rfl
 rw [o8, z8, List.getElem?_eq_getElem (show 8 < xs.length by omega)] at h8
 obtain ⟨a8, k8, b8⟩ := r8 (by subst hfu; exact hF) h8
 have h9 := hf 9 f9 rfl
 rw [o9, z9, List.getElem?_eq_getElem (show 9 < xs.length by omega)] at h9
 obtain ⟨a9, k9, b9⟩ := r9 (by subst hfu; exact hF) h9
 rw [take_drop_all cs (c0.size + c1.size + c2.size + c3.size + c4.size + c5.size + c6.size + c7.size + c8.size) c9.size (by omega)] at k9
 refine ⟨(a0, (a1, (a2, (a3, (a4, (a5, (a6, (a7, (a8, a9))))))))), ?_, ?_⟩
 ·exact ⟨by simpa using k0, ⟨by simpa [List.drop_drop, Nat.add_assoc] using k1, ⟨by simpa [List.drop_drop, Nat.add_assoc] using k2, ⟨by simpa [List.drop_drop, Nat.add_assoc] using k3, ⟨by simpa [List.drop_drop, Nat.add_assoc] using k4, ⟨by simpa [List.drop_drop, Nat.add_assoc] using k5, ⟨by simpa [List.drop_drop, Nat.add_assoc] using k6, ⟨by simpa [List.drop_drop, Nat.add_assoc] using k7, ⟨by simpa [List.drop_drop, Nat.add_assoc] using k8, (by simpa [List.drop_drop, Nat.add_assoc] using k9)⟩⟩⟩⟩⟩⟩⟩⟩⟩
 ·subst hxx
  simp only [Rows.uptoBulk, bulkAll_sum, Cod.pair]
  have hs : (List.map Rows.uptoBulk (xs.map (·.1))).sum = Rows.uptoBulk xs[0].1 + (Rows.uptoBulk xs[1].1 + (Rows.uptoBulk xs[2].1 + (Rows.uptoBulk xs[3].1 + (Rows.uptoBulk xs[4].1 + (Rows.uptoBulk xs[5].1 + (Rows.uptoBulk xs[6].1 + (Rows.uptoBulk xs[7].1 + (Rows.uptoBulk xs[8].1 + (Rows.uptoBulk xs[9].1))))))))) := by
   obtain ⟨x0, x1, x2, x3, x4, x5, x6, x7, x8, x9, rfl⟩ := list_of_len10 xs hxl
   simp
  rw [hs]
  exact Nat.le_succ_of_le (Nat.add_le_add b0 (Nat.add_le_add b1 (Nat.add_le_add b2 (Nat.add_le_add b3 (Nat.add_le_add b4 (Nat.add_le_add b5 (Nat.add_le_add b6 (Nat.add_le_add b7 (Nat.add_le_add b8 b9)))))))))
end Go.Proofs.Ytphgchakmkankaa

namespace Go.Proofs.Ytphgchakmkankaa
set_option linter.unusedSectionVars false
open Go.RowKit Go.Deep
set_option linter.unusedVariables false
set_option linter.unusedSimpArgs false

theorem ReadsF.imp {F : Nat → Prop} {P : Program} {α β : Type} {c : Cod α} {d : Cod β} {t : TypeId} (h : ReadsF F P c t) (k : ∀ w cs a, c.is w cs a → ∃ b, d.is w cs b ∧ d.bulk b ≤ c.bulk a) : ReadsF F P d t := by
 intro H enc w base spare held fuel cs x hF h1
 obtain ⟨a, ha, hb⟩ := h hF h1
 obtain ⟨b, h2, h3⟩ := k _ _ _ ha
 exact ⟨b, h2, Nat.le_trans h3 hb⟩
theorem cells_split {α : Type} {cs a b : List α} {n : Nat} (h1 : cs.take n = a) (h2 : cs.drop n = b) : cs = a ++ b := by rw [← h1, ← h2, List.take_append_drop]
def pointC : Cod PointD where
 size := 2
 is := fun w cs x => cs = [.int .i64 x.time, .int .i64 x.way] ∧ inI x.time ∧ inI x.way
 len := fun h => by obtain ⟨rfl, _⟩ := h; rfl
 mono := fun h _ => h
 bulk := fun x => intC.bulk x.time + (intC.bulk x.way)
theorem reads_point : Reads Try.prog pointC 133 :=
 (reads_struct2 (F := fun _ => True) Try.underlying133 (c0 := intC) (c1 := intC) (by kernel_rfl) rfl rfl (by kernel_rfl) (by kernel_rfl) (reads_int Try.underlying3) (reads_int Try.underlying3)).imp fun w cs a h => by
  obtain ⟨a0, a1⟩ := a
  obtain ⟨h0, h1⟩ := h
  obtain ⟨e0, b0⟩ := h0
  obtain ⟨e1, b1⟩ := h1
  have e100 := cells_split e0 e1
  exact ⟨⟨a0, a1⟩, ⟨by rw [e100]; rfl, b0, b1⟩, Nat.le_refl _⟩
theorem reads_points : Reads Try.prog (sliceC pointC) 40 := reads_slice Try.underlying40 (c := pointC) (by kernel_rfl) (by decide) reads_point
def curveC : Cod CurveD where
 size := 2
 is := fun w cs x => ∃ v0 : Value, cs = [.int .i64 x.kind, v0] ∧ inI x.kind ∧ (sliceC pointC).is w [v0] x.points
 len := fun h => by obtain ⟨v0, rfl, _⟩ := h; rfl
 mono := fun {w w' cs x} h g => by obtain ⟨v0, e, h0, h1⟩ := h; exact ⟨v0, e, h0, ((sliceC pointC)).mono h1 g⟩
 bulk := fun x => intC.bulk x.kind + ((sliceC pointC).bulk x.points)
theorem reads_curve : Reads Try.prog curveC 42 :=
 (reads_struct2 (F := fun _ => True) Try.underlying42 (c0 := intC) (c1 := (sliceC pointC)) (by kernel_rfl) rfl rfl (by kernel_rfl) (by kernel_rfl) (reads_int Try.underlying3) reads_points).imp fun w cs a h => by
  obtain ⟨a0, a1⟩ := a
  obtain ⟨h0, h1⟩ := h
  obtain ⟨e0, b0⟩ := h0
  obtain ⟨s1, e1⟩ := List.length_eq_one_iff.1 (((sliceC pointC)).len h1); rw [e1] at h1
  have e100 := cells_split e0 e1
  exact ⟨⟨a0, a1⟩, ⟨s1, by rw [e100]; rfl, b0, h1⟩, Nat.le_refl _⟩
def keyC : Cod KeyD where
 size := 2
 is := fun w cs x => cs = [.int .i64 x.unit, .string x.param] ∧ inI x.unit ∧ x.param.size ≤ maxLen
 len := fun h => by obtain ⟨rfl, _⟩ := h; rfl
 mono := fun h _ => h
 bulk := fun x => intC.bulk x.unit + (strC.bulk x.param)
theorem reads_key : Reads Try.prog keyC 49 :=
 (reads_struct2 (F := fun _ => True) Try.underlying49 (c0 := intC) (c1 := strC) (by kernel_rfl) rfl rfl (by kernel_rfl) (by kernel_rfl) (reads_int Try.underlying3) (reads_str Try.underlying9)).imp fun w cs a h => by
  obtain ⟨a0, a1⟩ := a
  obtain ⟨h0, h1⟩ := h
  obtain ⟨e0, b0⟩ := h0
  obtain ⟨e1, b1⟩ := h1
  have e100 := cells_split e0 e1
  exact ⟨⟨a0, a1⟩, ⟨by rw [e100]; rfl, b0, b1⟩, Nat.le_refl _⟩
def valueC : Cod ValueD where
 size := 2
 is := fun w cs x => cs = [.int .i64 x.level, .int .i64 x.preset] ∧ inI x.level ∧ inI x.preset
 len := fun h => by obtain ⟨rfl, _⟩ := h; rfl
 mono := fun h _ => h
 bulk := fun x => intC.bulk x.level + (intC.bulk x.preset)
theorem reads_value : Reads Try.prog valueC 64 :=
 (reads_struct2 (F := fun _ => True) Try.underlying64 (c0 := intC) (c1 := intC) (by kernel_rfl) rfl rfl (by kernel_rfl) (by kernel_rfl) (reads_int Try.underlying3) (reads_int Try.underlying3)).imp fun w cs a h => by
  obtain ⟨a0, a1⟩ := a
  obtain ⟨h0, h1⟩ := h
  obtain ⟨e0, b0⟩ := h0
  obtain ⟨e1, b1⟩ := h1
  have e100 := cells_split e0 e1
  exact ⟨⟨a0, a1⟩, ⟨by rw [e100]; rfl, b0, b1⟩, Nat.le_refl _⟩
def moveC : Cod MoveD where
 size := 8
 is := fun w cs x => cs = [.int .i64 x.key.unit, .string x.key.param, .int .i64 x.value.level, .int .i64 x.value.preset, .bool x.release, .bool x.timed, .int .i64 x.delay, .int .i64 x.time] ∧ inI x.key.unit ∧ x.key.param.size ≤ maxLen ∧ inI x.value.level ∧ inI x.value.preset ∧ inI x.delay ∧ inI x.time
 len := fun h => by obtain ⟨rfl, _⟩ := h; rfl
 mono := fun h _ => h
 bulk := fun x => keyC.bulk x.key + (valueC.bulk x.value + (boolC.bulk x.release + (boolC.bulk x.timed + (intC.bulk x.delay + (intC.bulk x.time)))))
theorem reads_move : Reads Try.prog moveC 66 :=
 (reads_struct6 (F := fun _ => True) Try.underlying66 (c0 := keyC) (c1 := valueC) (c2 := boolC) (c3 := boolC) (c4 := intC) (c5 := intC) (by kernel_rfl) rfl rfl rfl rfl rfl rfl (by kernel_rfl) (by kernel_rfl) (by kernel_rfl) (by kernel_rfl) (by kernel_rfl) (by kernel_rfl) reads_key reads_value (reads_bool Try.underlying4) (reads_bool Try.underlying4) (reads_int Try.underlying3) (reads_int Try.underlying3)).imp fun w cs a h => by
  obtain ⟨a0, a1, a2, a3, a4, a5⟩ := a
  obtain ⟨h0, h1, h2, h3, h4, h5⟩ := h
  obtain ⟨e0, b0⟩ := h0
  obtain ⟨b0_0, b0_1⟩ := b0
  obtain ⟨e1, b1⟩ := h1
  obtain ⟨b1_0, b1_1⟩ := b1
  have e2 := h2; simp only [boolC] at e2
  have e3 := h3; simp only [boolC] at e3
  obtain ⟨e4, b4⟩ := h4
  obtain ⟨e5, b5⟩ := h5
  have e104 := cells_split e4 e5
  have e103 := cells_split e3 e104
  have e102 := cells_split e2 e103
  have e101 := cells_split e1 e102
  have e100 := cells_split e0 e101
  exact ⟨⟨a0, a1, a2, a3, a4, a5⟩, ⟨by rw [e100]; rfl, b0_0, b0_1, b1_0, b1_1, b4, b5⟩, Nat.le_refl _⟩
theorem reads_moves : Reads Try.prog (sliceC moveC) 31 := reads_slice Try.underlying31 (c := moveC) (by kernel_rfl) (by decide) reads_move
def cueC : Cod CueD where
 size := 11
 is := fun w cs x => ∃ v0 v1 : Value, cs = [.int .i64 x.number, .string x.title, .int .i64 x.delay, .int .i64 x.up, .int .i64 x.down, .int .i64 x.other, .int .i64 x.curve.kind, v0, .bool x.block, .int .i64 x.follow, v1] ∧ inI x.number ∧ x.title.size ≤ maxLen ∧ inI x.delay ∧ inI x.up ∧ inI x.down ∧ inI x.other ∧ inI x.curve.kind ∧ (sliceC pointC).is w [v0] x.curve.points ∧ inI x.follow ∧ (sliceC moveC).is w [v1] x.moves
 len := fun h => by obtain ⟨v0, v1, rfl, _⟩ := h; rfl
 mono := fun {w w' cs x} h g => by obtain ⟨v0, v1, e, h0, h1, h2, h3, h4, h5, h6, h7, h8, h9⟩ := h; exact ⟨v0, v1, e, h0, h1, h2, h3, h4, h5, h6, ((sliceC pointC)).mono h7 g, h8, ((sliceC moveC)).mono h9 g⟩
 bulk := fun x => intC.bulk x.number + (strC.bulk x.title + (intC.bulk x.delay + (intC.bulk x.up + (intC.bulk x.down + (intC.bulk x.other + (curveC.bulk x.curve + (boolC.bulk x.block + (intC.bulk x.follow + ((sliceC moveC).bulk x.moves)))))))))
theorem reads_cue : Reads Try.prog cueC 44 :=
 (reads_struct10 (F := fun _ => True) Try.underlying44 (c0 := intC) (c1 := strC) (c2 := intC) (c3 := intC) (c4 := intC) (c5 := intC) (c6 := curveC) (c7 := boolC) (c8 := intC) (c9 := (sliceC moveC)) (by kernel_rfl) rfl rfl rfl rfl rfl rfl rfl rfl rfl rfl (by kernel_rfl) (by kernel_rfl) (by kernel_rfl) (by kernel_rfl) (by kernel_rfl) (by kernel_rfl) (by kernel_rfl) (by kernel_rfl) (by kernel_rfl) (by kernel_rfl) (reads_int Try.underlying3) (reads_str Try.underlying9) (reads_int Try.underlying3) (reads_int Try.underlying3) (reads_int Try.underlying3) (reads_int Try.underlying3) reads_curve (reads_bool Try.underlying4) (reads_int Try.underlying3) reads_moves).imp fun w cs a h => by
  obtain ⟨a0, a1, a2, a3, a4, a5, a6, a7, a8, a9⟩ := a
  obtain ⟨h0, h1, h2, h3, h4, h5, h6, h7, h8, h9⟩ := h
  obtain ⟨e0, b0⟩ := h0
  obtain ⟨e1, b1⟩ := h1
  obtain ⟨e2, b2⟩ := h2
  obtain ⟨e3, b3⟩ := h3
  obtain ⟨e4, b4⟩ := h4
  obtain ⟨e5, b5⟩ := h5
  obtain ⟨s6_0, e6, b6⟩ := h6
  obtain ⟨b6_0, b6_1⟩ := b6
  have e7 := h7; simp only [boolC] at e7
  obtain ⟨e8, b8⟩ := h8
  obtain ⟨s9, e9⟩ := List.length_eq_one_iff.1 (((sliceC moveC)).len h9); rw [e9] at h9
  have e108 := cells_split e8 e9
  have e107 := cells_split e7 e108
  have e106 := cells_split e6 e107
  have e105 := cells_split e5 e106
  have e104 := cells_split e4 e105
  have e103 := cells_split e3 e104
  have e102 := cells_split e2 e103
  have e101 := cells_split e1 e102
  have e100 := cells_split e0 e101
  exact ⟨⟨a0, a1, a2, a3, a4, a5, a6, a7, a8, a9⟩, ⟨s6_0, s9, by rw [e100]; rfl, b0, b1, b2, b3, b4, b5, b6_0, b6_1, b8, h9⟩, Nat.le_refl _⟩
theorem reads_cues : Reads Try.prog (sliceC cueC) 22 := reads_slice Try.underlying22 (c := cueC) (by kernel_rfl) (by decide) reads_cue
end Go.Proofs.Ytphgchakmkankaa

namespace Go.Proofs.Ytphgchakmkankaa
set_option linter.unusedSectionVars false
open Go.RowKit Go.Deep
set_option linter.unusedVariables false
set_option linter.unusedSimpArgs false
section
variable {c : RC}
theorem repL_nil : RepL c [] [] := by simp [RepL]
theorem repL_cons {a : AV} {v : Value} {l : List AV} {vs : List Value} (h : Rep c a v) (k : RepL c l vs) : RepL c (a :: l) (v :: vs) := by
 simp only [RepL]; exact ⟨v, vs, rfl, h, k⟩
theorem rep_int (k : IntKind) (n : Int) : Rep c (.int k n) (.int k n) := by simp [Rep]
theorem rep_bool (b : Bool) : Rep c (.bool b) (.bool b) := by simp [Rep]
theorem rep_str (s : ByteArray) : Rep c (.str s) (.string s) := by simp [Rep]
def RP {α : Type} (c : RC) (d : Cod α) (e : α → List AV) (ok : α → Prop) : Prop := ∀ cs x, d.is c.w cs x → RepL c (e x) cs ∧ ok x ∧ (∀ v ∈ cs, one1 v = true)
theorem repL_len : ∀ {l : List AV} {vs : List Value}, RepL c l vs → l.length = vs.length
 | [], vs, h => by simp only [RepL] at h; subst h; rfl
 | a :: l, vs, h => by
  simp only [RepL] at h
  obtain ⟨v, vs', rfl, _, h⟩ := h
  simp [repL_len h]
theorem repCs_of {b : Nat} : ∀ {l : List AV} {vs : List Value} {off : Nat}, RepL c l vs → (∀ v ∈ vs, one1 v = true) → (∀ j, j < vs.length → c.w.cell? ⟨b, off + j, none⟩ = vs[j]?) → RepCs c b off l
 | [], vs, off, h, _, _ => by simp [RepCs]
 | a :: l, vs, off, h, ho, hc => by
  simp only [RepL] at h
  obtain ⟨v, vs', rfl, h1, h2⟩ := h
  simp only [RepCs]
  refine ⟨⟨v, by simpa using hc 0 (by simp), ho v (by simp), h1⟩, repCs_of h2 (fun v hv => ho v (by simp [hv])) fun j hj => ?_⟩
  have := hc (j + 1) (by simpa using hj)
  rw [show off + 1 + j = off + (j + 1) by omega]
  simpa using this
theorem repEs_of {α : Type} {d : Cod α} {e : α → List AV} {ok : α → Prop} (H : RP c d e ok) {b sz : Nat} (hsz : d.size = sz) : ∀ {l : List α} {off : Nat}, (∀ (i : Nat) (x : α), l[i]? = some x → ∃ cs', (∀ j, j < d.size → c.w.cell? ⟨b, off + (i * d.size + j), none⟩ = cs'[j]?) ∧ d.is c.w cs' x) → RepEs c sz b off (l.map e) ∧ ∀ x ∈ l, ok x
 | [], off, h => by simp [RepEs]
 | x :: l, off, h => by
  obtain ⟨cs, h1, h2⟩ := h 0 x rfl
  obtain ⟨k1, k2, k3⟩ := H cs x h2
  have hl : cs.length = d.size := d.len h2
  obtain ⟨r1, r2⟩ := repEs_of H hsz (l := l) (off := off + sz) (fun i y hy => by
   obtain ⟨cs', q1, q2⟩ := h (i + 1) y (by simpa using hy)
   refine ⟨cs', fun j hj => ?_, q2⟩
   have := q1 j hj
   rw [← hsz]
   rwa [show off + d.size + (i * d.size + j) = off + ((i + 1) * d.size + j) by rw [Nat.succ_mul]; omega])
  refine ⟨?_, fun y hy => ?_⟩
  ·simp only [List.map_cons, RepEs]
   refine ⟨by rw [repL_len k1, hl, hsz], repCs_of k1 k3 fun j hj => ?_, r1⟩
   have := h1 j (by rw [← hl]; exact hj)
   simpa using this
  ·rcases List.mem_cons.1 hy with rfl | hy
   ·exact k2
   ·exact r2 y hy
theorem cell_in {w : World} {b off : Nat} {v : Value} (h : w.cell? ⟨b, off, none⟩ = some v) : b < w.heap.size := by
 rcases Nat.lt_or_ge b w.heap.size with k | k
 ·exact k
 ·simp [World.cell?, Array.getElem?_eq_none k] at h
theorem rp_slice {α : Type} {d : Cod α} {e : α → List AV} {ok : α → Prop} (hX : ∀ b, ¬ c.X b) (H : RP c d e ok) {sz : Nat} (hsz : d.size = sz) (h0 : 0 < sz) {v : Value} {l : List α} (h : (sliceC d).is c.w [v] l) : Rep c (sl sz e l) v ∧ okL ok l ∧ one1 v = true := by
 rcases h with ⟨h1, rfl⟩ | ⟨b, off, sp, cap, h1, h2, h3, h4⟩
 ·simp only [List.cons.injEq, and_true] at h1
  subst h1
  exact ⟨by simp [sl, Rep, h0], ⟨by simp, by simp⟩, rfl⟩
 ·simp only [List.cons.injEq, and_true] at h1
  subst h1
  have hes : sp = none ∨ l = [] := by
   cases l with
   | nil => exact .inr rfl
   | cons x l => exact .inl (h4 0 (by simp)).1
  have hh : ∀ (i : Nat) (x : α), l[i]? = some x → ∃ cs', (∀ j, j < d.size → c.w.cell? ⟨b, off + (i * d.size + j), none⟩ = cs'[j]?) ∧ d.is c.w cs' x := by
   intro i x hx
   obtain ⟨hi, hx⟩ := List.getElem?_eq_some_iff.1 hx
   subst hx
   exact (h4 i hi).2
  obtain ⟨r1, r2⟩ := repEs_of H hsz hh
  refine ⟨?_, ⟨by unfold maxLen at h3; unfold mxl; omega, r2⟩, rfl⟩
  simp only [sl, Rep]
  refine ⟨some ⟨b, off, sp⟩, cap, by simp, by simpa using h2, h0, ?_⟩
  rcases hes with rfl | rfl
  ·cases l with
   | nil => exact .inl rfl
   | cons x l =>
    refine .inr ⟨b, off, rfl, ?_, hX b, r1⟩
    obtain ⟨cs, q1, q2⟩ := hh 0 x rfl
    have hl : cs.length = d.size := d.len q2
    have := q1 0 (by omega)
    obtain ⟨y, hy⟩ : ∃ y, cs[0]? = some y := ⟨cs[0], List.getElem?_eq_getElem (by omega)⟩
    rw [hy] at this
    exact cell_in this
  ·exact .inl rfl
theorem one_nil : ∀ v ∈ ([] : List Value), one1 v = true := by simp
theorem one_cons {v : Value} {vs : List Value} (h : one1 v = true) (k : ∀ x ∈ vs, one1 x = true) : ∀ x ∈ v :: vs, one1 x = true := by
 intro x hx
 rcases List.mem_cons.1 hx with rfl | hx
 ·exact h
 ·exact k x hx
theorem rp_Point : RP c pointC cPoint okPoint := by
 rintro cs x ⟨rfl, h0, h1⟩
 exact ⟨(repL_cons (rep_int _ _) (repL_cons (rep_int _ _) repL_nil)), ⟨h0, h1⟩, (one_cons rfl (one_cons rfl one_nil))⟩
theorem rp_Move : RP c moveC cMove okMove := by
 rintro cs x ⟨rfl, h0, h1, h2, h3, h6, h7⟩
 exact ⟨(repL_cons (rep_int _ _) (repL_cons (rep_str _) (repL_cons (rep_int _ _) (repL_cons (rep_int _ _) (repL_cons (rep_bool _) (repL_cons (rep_bool _) (repL_cons (rep_int _ _) (repL_cons (rep_int _ _) repL_nil)))))))), ⟨⟨h0, (show okS _ by unfold okS mxl; have := h1; unfold maxLen at this; omega)⟩, ⟨h2, h3⟩, h6, h7⟩, (one_cons rfl (one_cons rfl (one_cons rfl (one_cons rfl (one_cons rfl (one_cons rfl (one_cons rfl (one_cons rfl one_nil))))))))⟩
theorem rp_Cue (hX : ∀ b, ¬ c.X b) : RP c cueC cCue okCue := by
 rintro cs x ⟨v0, v1, rfl, h0, h1, h2, h3, h4, h5, h6, h7, h9, h10⟩
 obtain ⟨r7, o7, n7⟩ := rp_slice hX rp_Point (sz := 2) rfl (by decide) h7
 obtain ⟨r10, o10, n10⟩ := rp_slice hX rp_Move (sz := 8) rfl (by decide) h10
 exact ⟨(repL_cons (rep_int _ _) (repL_cons (rep_str _) (repL_cons (rep_int _ _) (repL_cons (rep_int _ _) (repL_cons (rep_int _ _) (repL_cons (rep_int _ _) (repL_cons (rep_int _ _) (repL_cons r7 (repL_cons (rep_bool _) (repL_cons (rep_int _ _) (repL_cons r10 repL_nil))))))))))), ⟨h0, (show okS _ by unfold okS mxl; have := h1; unfold maxLen at this; omega), h2, h3, h4, h5, ⟨h6, o7⟩, h9, o10⟩, (one_cons rfl (one_cons rfl (one_cons rfl (one_cons rfl (one_cons rfl (one_cons rfl (one_cons rfl (one_cons n7 (one_cons rfl (one_cons rfl (one_cons n10 one_nil)))))))))))⟩
end
end Go.Proofs.Ytphgchakmkankaa

namespace Go.Proofs.Ytphgchakmkankaa
set_option linter.unusedSectionVars false
set_option linter.unusedSimpArgs false
set_option linter.unusedVariables false
open Go.RowKit
noncomputable def base (W : World) : RC := ctx ⟨W, [], fun _ => False, nmT⟩ W [] nopb
theorem base_X (W : World) : ∀ b, ¬ (base W).X b := by
 rintro b (k | ⟨p, hp, _⟩ | ⟨i, k⟩)
 ·exact k
 ·cases hp
 ·cases k
theorem law_run {n : FuncId} {m : List AV → Heap → Option (AV × Heap)} {avs : List AV} (hs : Sound Try.prog nmT n m) (hc : ∀ us w, (callFunc n us).run Try.prog w = .ok (.enter n us) w) (W : World) (vs : Array Value) (hr : RepL (base W) avs vs.toList) (hm : m avs [] = some (.bool true, [])) :
  Calls Try.prog n vs W fun e W' => e = .returned (.bool true) ∧ Below W.heap.size W W' := by
 have hh0 : HeapRel (ctx ⟨W, [], fun _ => False, nmT⟩ W [] nopb) [] := by
  refine ⟨rfl, fun i j p q hp => ?_, fun i p x hp => ?_⟩
  ·simp [ctx] at hp
  ·simp [ctx] at hp
 rcases hs _ _ _ _ hm with ⟨g, h1, h2⟩ | hv
 case inr =>
  obtain ⟨v, w', E', k1, _⟩ := hv ⟨W, [], fun _ => False, nmT⟩ vs rfl (fun b k => k.elim) hh0 hr
  rw [hc] at k1
  injection k1 with k1
  cases k1
 have hg : g = n := by
  have e1 := h1 #[] W
  rw [hc #[] W] at e1
  injection e1 with e1
  injection e1 with e1
  exact e1.symm
 subst hg
 have hh : HeapRel (ctx ⟨W, [], fun _ => False, nmT⟩ W [] nopb) [] := by
  refine ⟨rfl, fun i j p q hp => ?_, fun i p x hp => ?_⟩
  ·simp [ctx] at hp
  ·simp [ctx] at hp
 refine (h2 ⟨W, [], fun _ => False, nmT⟩ vs rfl (fun b k => k.elim) hh hr).mono ?_
 rintro e w' ⟨v, E', rfl, ho, _, hv⟩
 simp only [Rep] at hv
 subst hv
 exact ⟨rfl, ho.os, ho.tape, ho.output, ho.size, fun k hk => ho.stay k hk (fun p hp => by cases hp)⟩
end Go.Proofs.Ytphgchakmkankaa

