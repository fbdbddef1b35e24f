/- Parts of the proof of StampDueIsCut, in order. -/
import Derived.Orders
import Derived.Below
import Derived.WalkKit
import Derived.Laws.StructEq
import Derived.Laws.Append
import Derived.Laws.AppendOwn
import Derived.Test.YtohbeolimnpehaaRows
import Derived.KernelRfl
import Derived.Lib.Bytealg
import Derived.Sort.Defs
import Derived.Lib.BitFns
import Derived.Test.YtohbeolimnpehaaShelf
import Derived.IntWalk
import Derived.Lib.Strings
import Derived.WalkSpells
import Derived.ProofKit
import Derived.OpenShut
import Derived.Lib.Hide
import Derived.Lib.SmallJoins
import Derived.Deep.QuietTactic
import Derived.BigQuiet
import Derived.Deep.RegionHeld3
import Derived.Deep.Slices
import Derived.Test.YtohbeolimnpehaaKStampDueIsCut4
namespace Go.Proofs.Ytohbeolimnpehaa
set_option linter.unusedSectionVars false
set_option linter.unusedVariables false
set_option linter.unusedSimpArgs false
open HP
def Lt (σ : Heap) (sh : Sh) (v t : AV) : Prop := (∃ v', A.frz σ 0 8 v = some v' ∧ A.own v' = false ∧ A.nn sh v' = A.nn sh t) ∧ A.own t = false ∧ (A.own v = false → A.nn sh v = A.nn sh t)
def LtL (σ : Heap) : List Sh → List AV → List AV → Prop
 | _, [], [] => True
 | [], a :: aas, t :: ts => Lt σ .k a t ∧ LtL σ [] aas ts
 | s :: ss, a :: aas, t :: ts => Lt σ s a t ∧ LtL σ ss aas ts
 | _, _, _ => False
theorem nn_k (v : AV) : A.nn .k v = v := by simp [A.nn]
theorem ltL {σ : Heap} : ∀ {ss : List Sh} {aas ts : List AV}, LtL σ ss aas ts → (∃ aas', A.frzL σ 0 8 aas = some aas' ∧ aas'.any A.own = false ∧ A.nnL ss aas' = A.nnL ss ts) ∧ ts.any A.own = false ∧ (aas.any A.own = false → A.nnL ss aas = A.nnL ss ts)
 | ss, [], [], _ => ⟨⟨[], by simp [A.frzL], rfl, rfl⟩, rfl, fun _ => rfl⟩
 | [], a :: aas, t :: ts, h => by
  obtain ⟨⟨⟨v', h1, h2, h3⟩, h4, h5⟩, h6⟩ := h
  obtain ⟨⟨aas', k1, k2, k3⟩, k4, k5⟩ := ltL h6
  rw [nn_k, nn_k] at h3
  simp only [A.nnL] at k3 k5
  refine ⟨⟨v' :: aas', by simp [A.frzL, h1, k1], by simp [h2, k2], by simp [A.nnL, h3, k3]⟩, by simp [h4, k4], fun h => ?_⟩
  simp only [List.any_cons, Bool.or_eq_false_iff] at h
  have := h5 h.1
  rw [nn_k, nn_k] at this
  simp [A.nnL, this, k5 h.2]
 | s :: ss, a :: aas, t :: ts, h => by
  obtain ⟨⟨⟨v', h1, h2, h3⟩, h4, h5⟩, h6⟩ := h
  obtain ⟨⟨aas', k1, k2, k3⟩, k4, k5⟩ := ltL h6
  refine ⟨⟨v' :: aas', by simp [A.frzL, h1, k1], by simp [h2, k2], by simp [A.nnL, h3, k3]⟩, by simp [h4, k4], fun h => ?_⟩
  simp only [List.any_cons, Bool.or_eq_false_iff] at h
  simp [A.nnL, h5 h.1, k5 h.2]
 | _, [], _ :: _, h => by cases h
 | [], _ :: _, [], h => by cases h
 | _ :: _, _ :: _, [], h => by cases h
theorem lent {ain : List Sh} {rout : Sh} {r : List AV → Heap → Option (AV × Heap)} {aas ts : List AV} {σ : Heap} {v : AV} (h : LtL σ ain aas ts) (e : ∀ σ, A.wrap true ain rout r ts σ = some (v, σ)) (hs : A.scal v = true) : A.wrap true ain rout r aas σ = some (v, σ) := by
 obtain ⟨⟨aas', k1, k2, k3⟩, k4, k5⟩ := ltL h
 cases ho : aas.any A.own
 ·rw [wrap_nn (k5 ho) ho k4]; exact e σ
 ·exact wrap_own ho k1 k2 (by rw [wrap_nn k3 k2 k4]; exact e []) hs
section
variable {α : Type} {c : α → List AV} {sz : Nat} {B : Blk → Prop} {σ0 σ : Heap} {R : HP} {v : AV} {l : List α}
structure Cl (p : AV) (F : List AV → HP) : Prop where
 nc : A.nilck p = some p
 ow : A.own p = true
 ld : ∀ {σ0 σ : Heap} {e : List AV} {R : HP}, Hs anyB σ0 σ (F e * R) → A.deref p σ = some e
 fa : ∀ (o : Nat), ∃ q, A.faddr o p = some q ∧ (∀ {σ0 σ : Heap} {e : List AV} {R : HP}, Hs anyB σ0 σ (F e * R) → A.deref q σ = some (e.drop o)) ∧
  ∀ {σ0 σ : Heap} {e : List AV} {R : HP} {new e' : List AV}, Hs anyB σ0 σ (F e * R) → A.splice o new e = some e' → ∃ σ', A.storeAt q new σ = some σ' ∧ Hs anyB σ0 σ' (F e' * R)
 st : ∀ {σ0 σ : Heap} {e : List AV} {R : HP} {new e' : List AV}, Hs anyB σ0 σ (F e * R) → A.splice 0 new e = some e' → ∃ σ', A.storeAt p new σ = some σ' ∧ Hs anyB σ0 σ' (F e' * R)
 fc : ∀ (o o' : Nat) (q : AV), A.faddr o p = some q → A.faddr o' q = A.faddr (o + o') p
end
section
variable {α : Type} {E : List AV → α → HP} {sz : Nat} {σ0 σ : Heap} {R : HP} {v : AV} {l : List α}
end
section
variable {B : Blk → Prop} {σ0 σ : Heap} {R : HP} {M : AV → List MoveD → HP} {e : List AV} {x : CueD}
variable {v : AV} {l : List CueD}
end
end Go.Proofs.Ytohbeolimnpehaa

namespace Go.Proofs.Ytohbeolimnpehaa
set_option linter.unusedSectionVars false
set_option linter.unusedVariables false
set_option linter.unusedSimpArgs false
open HP
theorem loop_hs {α : Type} {f : List AV → Heap → Option LS} {Q : LS → Prop} (l : List α) (I : Nat → List AV → Heap → Prop) {v0 : List AV} {σ : Heap}
  (hstep : ∀ i x v σ, l[i]? = some x → I i v σ → ∃ v' σ', f v σ = some (.normal, v', σ') ∧ I (i + 1) v' σ')
  (hend : ∀ v σ, I l.length v σ → ∃ q, f v σ = some q ∧ q.1 ≠ .normal ∧ Q q) (h0 : I 0 v0 σ) : ∃ q, A.loop f v0 σ = some q ∧ Q q := by
 have key : ∀ (k i : Nat) v σ, l.length - i ≤ k → i ≤ l.length → I i v σ → ∃ q, (∃ n, A.iter f n v σ = some q) ∧ Q q := by
  intro k
  induction k with
  | zero =>
   intro i v σ hk hle hI
   have : i = l.length := by omega
   subst this
   obtain ⟨q, h1, h2, h3⟩ := hend v σ hI
   exact ⟨q, loop_done h1 h2, h3⟩
  | succ k ih =>
   intro i v σ hk hle hI
   by_cases hi : i < l.length
   ·obtain ⟨v', σ', h1, h2⟩ := hstep i _ v σ (List.getElem?_eq_getElem hi) hI
    obtain ⟨q, hq, hQ⟩ := ih (i + 1) v' σ' (by omega) (by omega) h2
    exact ⟨q, loop_step h1 hq, hQ⟩
   ·have : i = l.length := by omega
    subst this
    obtain ⟨q, h1, h2, h3⟩ := hend v σ hI
    exact ⟨q, loop_done h1 h2, h3⟩
 obtain ⟨q, ⟨n, hn⟩, hQ⟩ := key _ 0 v0 σ (Nat.le_refl _) (Nat.zero_le _) h0
 exact ⟨q, loop_of_iter hn, hQ⟩
theorem loop_k {β : Type} {f : List AV → Heap → Option LS} {K : LS → Option β} {v0 : List AV} {σ : Heap} {P : β → Prop} {Q : LS → Prop} (h : ∃ q, A.loop f v0 σ = some q ∧ Q q) (k : ∀ q, Q q → ∃ b, K q = some b ∧ P b) : ∃ b, (A.loop f v0 σ).bind K = some b ∧ P b := by
 obtain ⟨q, h1, h2⟩ := h
 obtain ⟨b, h3, h4⟩ := k q h2
 exact ⟨b, by rw [h1]; exact h3, h4⟩
section
variable {α : Type} {c : α → List AV} {sz : Nat} {B : Blk → Prop} {σ0 σ : Heap} {R : HP} {v : AV} {l : List α}
end
section
variable {σ0 σ : Heap} {R : HP}
end
end Go.Proofs.Ytohbeolimnpehaa

namespace Go.Proofs.Ytohbeolimnpehaa
set_option linter.unusedSectionVars false
set_option linter.unusedVariables false
set_option linter.unusedSimpArgs false
theorem events_in {s : SetupD} {r : Int} {l : List EventD} (h : eventsF s r l = 0) : (∀ e ∈ l, 0 ≤ e.att ∧ e.att < dayF r) ∧ l.Pairwise fun a b => a.att ≤ b.att := by
 obtain ⟨_, hc, hs⟩ := eventsF_len h
 have hd : 0 < dayF r ∧ dayF r ≤ 10000000 := by
  rcases rate_cases hc with rfl | rfl | rfl | rfl <;> decide
 unfold eventsF at h
 rw [if_neg (by simp [hs]), if_neg hc] at h
 split at h
 ·cases h
 have key : ∀ i e, l[i]? = some e → (0 ≤ e.att ∧ e.att < dayF r) ∧ (0 < i → (pv l i).att ≤ e.att) := by
  intro i e he
  have := (chkE_zero l 0).1 h i e he
  rw [Nat.zero_add] at this
  unfold eventF at this
  split at this
  ·cases this
  rename_i h1
  split at this
  ·cases this
  rename_i h2
  rw [wrap64 (by unfold inI; omega)] at h1
  have h1' : withinB e.att 0 (dayF r - 1) = true := by simpa using h1
  unfold withinB at h1'
  have h1' := of_decide_eq_true h1'
  refine ⟨⟨h1'.1, by omega⟩, fun hi => ?_⟩
  have hi' : decide (0 < (i : Int)) = true := decide_eq_true (by omega)
  rw [hi', Bool.true_and, decide_eq_true_eq] at h2
  omega
 refine ⟨fun e he => ?_, ?_⟩
 ·obtain ⟨i, hi⟩ := List.mem_iff_getElem?.1 he
  exact (key i e hi).1
 ·refine srt_of_step (r := fun a b : EventD => a.att ≤ b.att) (fun a b c => Int.le_trans) l fun i x hx => ?_
  rw [← pv_succ]
  exact (key (i + 1) x hx).2 (by omega)
theorem due_cat {a b c : Int} (h1 : a ≤ b) (h2 : b ≤ c) : ∀ {l : List EventD}, l.Pairwise (fun x y => x.att ≤ y.att) → dueL a b l ++ dueL b c l = dueL a c l
 | [], _ => rfl
 | e :: l, hp => by
  have ih := due_cat (a := a) (b := b) (c := c) h1 h2 (List.pairwise_cons.1 hp).2
  have hle := (List.pairwise_cons.1 hp).1
  unfold dueL at ih ⊢
  rw [List.filter_cons, List.filter_cons, List.filter_cons]
  by_cases h3 : a ≤ e.att
  ·by_cases h4 : e.att < b
   ·have h5 : ¬ b ≤ e.att := by omega
    have h6 : e.att < c := by omega
    simp only [h3, h4, h5, h6, decide_true, decide_false, Bool.and_self, Bool.false_and, if_true, Bool.false_eq_true, if_false, List.cons_append]
    rw [ih]
   ·have h5 : b ≤ e.att := by omega
    have hnil : l.filter (fun e => decide (a ≤ e.att) && decide (e.att < b)) = [] := by
     rw [List.filter_eq_nil_iff]
     intro x hx
     have := hle x hx
     simp; intro _; omega
    rw [hnil] at ih ⊢
    by_cases h6 : e.att < c
    ·simp only [h3, h4, h5, h6, decide_true, decide_false, Bool.and_self, Bool.and_false, if_true, Bool.false_eq_true, if_false, List.nil_append] at ih ⊢
     rw [ih]
    ·simp only [h3, h4, h5, h6, decide_true, decide_false, Bool.and_self, Bool.and_false, if_true, Bool.false_eq_true, if_false, List.nil_append] at ih ⊢
     exact ih
  ·have h4 : ¬ b ≤ e.att := by omega
   simp only [h3, h4, decide_false, Bool.false_and, Bool.false_eq_true, if_false]
   exact ih
theorem due_all {r : Int} {l : List EventD} (h : ∀ e ∈ l, 0 ≤ e.att ∧ e.att < dayF r) : dueL 0 (dayF r) l = l := by
 unfold dueL
 rw [List.filter_eq_self]
 intro e he
 have := h e he
 simp [this.1, this.2]
theorem ext0' (a b : AV) : A.ext 0 (.tup [a, b]) = some a := rfl
theorem ext1' (a b : AV) : A.ext 1 (.tup [a, b]) = some b := rfl
theorem grow_0 (σ : Heap) : m_slices_Grow_api_Event [.nsl, .int .i64 0] σ = some (.nsl, σ) := by
 unfold m_slices_Grow_api_Event A.wrap
 rw [Bool.false_and, cond_false]
 show (r_slices_Grow_api_Event .nsl (.int .i64 0) σ).map _ = _
 rw [show r_slices_Grow_api_Event .nsl (.int .i64 0) σ = some (.nsl, σ) from rfl]
 simp [A.nn]
def zsE : List AV := [(AV.int .i64 0), (AV.int .i64 0), (AV.int .i64 0), (AV.int .i64 0), (AV.int .i64 0), (AV.int .i64 0)]
theorem grow_n {n : Nat} (h0 : 0 < n) (h1 : n ≤ 2932031007402) (σ : Heap) : m_slices_Grow_api_Event [.nsl, .int .i64 (n : Int)] σ = some (.os σ.length n 6 0 0, σ ++ [.arr n 6 (List.replicate n zsE)]) := by
 unfold m_slices_Grow_api_Event A.wrap
 rw [Bool.false_and, cond_false]
 show (r_slices_Grow_api_Event .nsl (.int .i64 (n : Int)) σ).map _ = _
 have run : r_slices_Grow_api_Event .nsl (.int .i64 (n : Int)) σ = some (.os σ.length n 6 0 0, σ ++ [.arr n 6 (List.replicate n zsE)]) := by
  unfold r_slices_Grow_api_Event
  have hc : ∀ {k : AV → Option (AV × Heap)} {u : Option (AV × Heap)}, A.capM (A.capN .nsl) k u = k (.int .i64 0) := rfl
  have hc2 : ∀ {k : AV → Option (List AV × Heap)} {u : Option (List AV × Heap)}, A.capM (A.capN .nsl) k u = k (.int .i64 0) := rfl
  have e1 : A.lss (.int .i64 (n : Int)) (.int .i64 0) = some (.bool false) := by rw [aLss, decide_eq_false (by omega)]
  have e2 : A.sub (.int .i64 (n : Int)) (.int .i64 0) = some (.int .i64 (n : Int)) := by rw [aSub, Int.sub_zero, wrap64 (by unfold inI; omega)]
  have e3 : A.gtr (.int .i64 (n : Int)) (.int .i64 0) = some (.bool true) := by simp [A.gtr]; omega
  rw [e1, Option.bind_some, cnd_f, Option.bind_some, hc, show A.lenS .nsl = some (.int .i64 0) from rfl, Option.bind_some, show A.sub (.int .i64 0) (.int .i64 0) = some (.int .i64 0) from rfl, Option.bind_some, e2, Option.bind_some, e3, Option.bind_some, cnd_t, hc2]
  have e4 : A.sliceS 6 .nsl none (some (.int .i64 0)) σ = some .nsl := by simp [A.sliceS, A.bound]
  have e5 : A.appendZ 6 (140737488355328 / 48) zsE .nsl (.int .i64 (n : Int)) σ = some (.os σ.length n 6 0 n, σ ++ [.arr n 6 (List.replicate n zsE)]) := by
   have q : (0 : Int) ≤ (n : Int) ∧ (n : Int) ≤ ((140737488355328 / 48 : Nat) : Int) := by omega
   simp only [A.appendZ, if_pos q, A.appendL, Int.toNat_natCast, List.length_replicate]
   rw [if_neg (by intro h; have := congrArg List.length h; simp at this; omega), if_pos (by omega)]
  have e6 : (σ ++ [Blk.arr n 6 (List.replicate n zsE)])[σ.length]? = some (.arr n 6 (List.replicate n zsE)) := by simp
  simp only
  rw [e4, Option.bind_some, show [(AV.int .i64 0), (AV.int .i64 0), (AV.int .i64 0), (AV.int .i64 0), (AV.int .i64 0), (AV.int .i64 0)] = zsE from rfl, e5, Option.bind_some, Option.bind_some, show (AV.int .i64 0) = .int .i64 ((0 : Nat) : Int) from rfl, slo (room_arr e6 (by simp)) (bnd_s (k := 0) (by omega)) bnd_n, Option.bind_some]
  rfl
 rw [run]
 simp [A.nn]
def cRow (x : List (List AV)) : List AV := [.sl 6 x]
def tot (L : List (List (List AV))) : Nat := L.flatten.length
theorem tot_take {L : List (List (List AV))} {i : Nat} {x : List (List AV)} (h : L[i]? = some x) : (L.take (i + 1)).flatten = (L.take i).flatten ++ x := by
 rw [List.take_add_one, h]; simp
theorem tot_le {L : List (List (List AV))} (i : Nat) : tot (L.take i) ≤ tot L := by
 have : L = L.take i ++ L.drop i := (List.take_append_drop _ _).symm
 unfold tot
 conv => rhs; rw [this, List.flatten_append, List.length_append]
 omega
theorem concat_r {L : List (List (List AV))} (hl : L.length ≤ mxl) (h : tot L ≤ 2932031007402) (hz : ∀ r ∈ L.flatten, FzL r) (σ : Heap) : ∃ b : AV × Heap, r_slices_Concat_api_Event (sl 1 cRow L) σ = some b ∧ b.2 = σ ∧ A.nn (.s 6) b.1 = .sl 6 L.flatten := by
 unfold r_slices_Concat_api_Event
 rw [lenS_sl, Option.bind_some]
 refine loop_k (Q := fun q => ∃ w, q = (.exit 0, [.int .i64 (tot L : Int), w], σ)) (loop_hs L (fun i v s => v = [.int .i64 (tot (L.take i) : Int), .int .i64 (i : Int)] ∧ s = σ) ?_ ?_ ⟨rfl, rfl⟩) ?_
 ·rintro i x v s hx ⟨rfl, rfl⟩
  have hle := tot_le (L := L) (i + 1)
  have hs : tot (L.take (i + 1)) = tot (L.take i) + x.length := by unfold tot; rw [tot_take hx, List.length_append]
  simp only [List.getD_cons_zero, List.getD_cons_succ]
  rw [ix_lt hx, Option.bind_some, cnd_t, ix_for hx, Option.bind_some]
  simp only [A.deref, Option.bind_some]
  rw [show A.part1 0 (cRow x) = some (.sl 6 x) from rfl, Option.bind_some, show A.lenS (.sl 6 x) = some (.int .i64 (x.length : Int)) from rfl, Option.bind_some, tadd (by omega), Option.bind_some]
  rw [show A.lss (.int .i64 ((tot (L.take i) + x.length : Nat) : Int)) (.int .i64 0) = some (.bool false) by rw [aLss, decide_eq_false (by omega)], Option.bind_some, cnd_f, Option.bind_some, ix_inc hx hl, Option.bind_some]
  exact ⟨_, _, rfl, by rw [hs], rfl⟩
 ·rintro v s ⟨rfl, rfl⟩
  simp only [List.getD_cons_zero, List.getD_cons_succ]
  rw [ix_end, Option.bind_some, cnd_f]
  refine ⟨_, rfl, by simp, .int .i64 (L.length : Int), ?_⟩
  rw [List.take_length]
 ·rintro q ⟨w, rfl⟩
  simp only [exb, List.getD_cons_zero]
  by_cases h0 : tot L = 0
  ·have hnil : L.flatten = [] := List.eq_nil_of_length_eq_zero h0
   rw [h0, show (((0 : Nat) : Int)) = 0 from rfl, grow_0, Option.bind_some, Option.bind_some]
   refine loop_k (Q := fun q => ∃ w, q = (.exit 2, [.nsl, w], σ)) (loop_hs L (fun i v s => v = [.nsl, .int .i64 (i : Int)] ∧ s = σ) ?_ ?_ ⟨rfl, rfl⟩) ?_
   ·rintro i x v s hx ⟨rfl, rfl⟩
    have hxn : x = [] := by
     have := List.flatten_eq_nil_iff.1 hnil x (List.mem_of_getElem? hx)
     exact this
    subst hxn
    simp only [List.getD_cons_zero, List.getD_cons_succ]
    rw [ix_lt hx, Option.bind_some, cnd_t, ix_for hx, Option.bind_some]
    simp only [A.deref, Option.bind_some]
    rw [show A.part1 0 (cRow []) = some (.sl 6 []) from rfl, Option.bind_some, show A.append 6 (140737488355328 / 48) .nsl (.sl 6 []) s = some (.nsl, s) by simp [A.append, A.elems, A.appendL], Option.bind_some, ix_inc hx hl, Option.bind_some]
    exact ⟨_, _, rfl, rfl, rfl⟩
   ·rintro v s ⟨rfl, rfl⟩
    simp only [List.getD_cons_zero, List.getD_cons_succ]
    rw [ix_end, Option.bind_some, cnd_f]
    exact ⟨_, rfl, by simp, _, rfl⟩
   ·rintro q ⟨w, rfl⟩
    refine ⟨_, fin_same _ _, rfl, ?_⟩
    rw [hnil]; rfl
  ·have hpos : 0 < tot L := by omega
   rw [grow_n hpos (by omega), Option.bind_some, Option.bind_some]
   obtain ⟨n, hn⟩ : ∃ n, n = tot L := ⟨_, rfl⟩
   rw [← hn] at hpos h ⊢
   refine loop_k (Q := fun q => ∃ w, q = (.exit 2, [.os σ.length n 6 0 n, w], σ ++ [.arr n 6 L.flatten])) (loop_hs L (fun i v s => v = [.os σ.length n 6 0 (tot (L.take i)), .int .i64 (i : Int)] ∧ s = σ ++ [.arr n 6 ((L.take i).flatten ++ List.replicate (n - tot (L.take i)) zsE)]) ?_ ?_ ⟨rfl, by simp [tot]⟩) ?_
   ·rintro i x v s hx ⟨rfl, rfl⟩
    have hle := tot_le (L := L) (i + 1)
    have hs : tot (L.take (i + 1)) = tot (L.take i) + x.length := by unfold tot; rw [tot_take hx, List.length_append]
    obtain ⟨k, hk⟩ : ∃ k, k = tot (L.take i) := ⟨_, rfl⟩
    have hfl : (L.take i).flatten.length = k := hk.symm
    simp only [List.getD_cons_zero, List.getD_cons_succ]
    rw [ix_lt hx, Option.bind_some, cnd_t, ix_for hx, Option.bind_some]
    simp only [A.deref, Option.bind_some]
    rw [show A.part1 0 (cRow x) = some (.sl 6 x) from rfl, Option.bind_some]
    rw [hs, tot_take hx, ← hk]
    have hg : (σ ++ [Blk.arr n 6 ((L.take i).flatten ++ List.replicate (n - k) zsE)])[σ.length]? = some (.arr n 6 ((L.take i).flatten ++ List.replicate (n - k) zsE)) := by simp
    have happ : A.append 6 (140737488355328 / 48) (.os σ.length n 6 0 k) (.sl 6 x) (σ ++ [.arr n 6 ((L.take i).flatten ++ List.replicate (n - k) zsE)]) = some (.os σ.length n 6 0 (k + x.length), σ ++ [.arr n 6 ((L.take i).flatten ++ x ++ List.replicate (n - (k + x.length)) zsE)]) := by
     simp only [A.append, A.elems, if_true, Option.bind_some, A.appendL, hg]
     rw [if_pos (by simp [hfl]; omega)]
     by_cases hx0 : x = []
     ·subst hx0; simp
     ·rw [if_neg hx0, if_pos (by simp [hfl]; omega)]
      congr 2
      rw [List.set_append_right _ _ (Nat.le_refl _), Nat.sub_self]
      simp only [List.set_cons_zero, Nat.zero_add]
      congr 3
      rw [List.take_append_of_le_length (by omega), List.take_of_length_le (by omega)]
      congr 1
      rw [List.drop_append, List.drop_of_length_le (by omega), List.nil_append, hfl, List.drop_replicate]
      congr 1; omega
    rw [happ, Option.bind_some, ix_inc hx hl, Option.bind_some]
    exact ⟨_, _, rfl, rfl, rfl⟩
   ·rintro v s ⟨rfl, rfl⟩
    simp only [List.getD_cons_zero, List.getD_cons_succ]
    rw [ix_end, Option.bind_some, cnd_f]
    refine ⟨_, rfl, by simp, .int .i64 (L.length : Int), ?_⟩
    rw [List.take_length, ← hn]; simp
   ·rintro q ⟨w, rfl⟩
    have hfl : L.flatten.length = n := hn.symm
    have hfz : A.frz (σ ++ [.arr n 6 L.flatten]) σ.length 8 (.os σ.length n 6 0 n) = some (.sl 6 L.flatten) := by
     have hg : (σ ++ [Blk.arr n 6 L.flatten])[σ.length]? = some (.arr n 6 L.flatten) := by simp
     have key : ∀ (rows : List (List AV)), (∀ r ∈ rows, FzL r) → ∀ (s : Heap) m d, A.frzLL s m d rows = some rows := by
      intro rows
      induction rows with
      | nil => intro _ s m d; simp [A.frzLL]
      | cons r rows ih => intro hr s m d; simp [A.frzLL, hr r (by simp) s m d, ih (fun y hy => hr y (by simp [hy])) s m d]
     simp only [A.frz, Nat.lt_irrefl, if_false, hg]
     rw [if_pos (by rw [hfl]; simp), List.drop_zero, List.take_of_length_le (Nat.le_of_eq hfl), frzLL_eq, key _ hz]
     rfl
    refine ⟨(.sl 6 L.flatten, σ), ?_, rfl, rfl⟩
    show A.fin σ (.os σ.length n 6 0 n) (σ ++ [.arr n 6 L.flatten]) = _
    unfold A.fin
    rw [if_neg (by simp), if_pos (by simp), hfz]; rfl
theorem concat2 {a b : List EventD} (h : a.length + b.length ≤ 2932031007402) (σ : Heap) : m_slices_Concat_api_Event [.sl 1 [[sl 6 cEvent a], [sl 6 cEvent b]]] σ = some (sl 6 cEvent (a ++ b), σ) := by
 obtain ⟨⟨v, s⟩, h1, h2, h3⟩ := concat_r (L := [a.map cEvent, b.map cEvent]) (by simp [mxl]) (by simp [tot]; omega) (by
  intro r hr
  simp only [List.flatten_cons, List.flatten_nil, List.append_nil, List.mem_append, List.mem_map] at hr
  rcases hr with ⟨x, _, rfl⟩ | ⟨x, _, rfl⟩ <;> exact fz_cEvent x) σ
 simp only at h2 h3
 subst h2
 refine wrap_eq rfl h1 ?_
 rw [h3]
 simp [sl]
theorem h_W8_StampDueIsCut {s : SetupD} {r : Int} {l : List EventD} {a b c : Int} {σ : Heap} (h : okSetup s ∧ okL okEvent l) : m_W8_StampDueIsCut [.agg (cSetup s), .int .i64 r, sl 6 cEvent l, .int .i64 a, .int .i64 b, .int .i64 c] σ = some (.bool true, σ) := by
 obtain ⟨hs, hl⟩ := h
 have due : ∀ x y : Int, m_stamp_Due [.agg (cSetup s), .int .i64 r, sl 6 cEvent l, .int .i64 x, .int .i64 y] σ = some (.tup [sl 6 cEvent (dueF s r l x y).1, .int .i64 (dueF s r l x y).2], σ) := fun x y => h_stamp_Due (Due_t s hs r l hl.1 x y)
 have run : r_W8_StampDueIsCut (.agg (cSetup s)) (.int .i64 r) (sl 6 cEvent l) (.int .i64 a) (.int .i64 b) (.int .i64 c) σ = some (.bool true, σ) := by
  unfold r_W8_StampDueIsCut
  rw [ce_cSetup, Option.bind_some, pA_cSetup, Option.bind_some, due a b, Option.bind_some, ext0', Option.bind_some, ext1', Option.bind_some, Option.bind_some, due b c, Option.bind_some, ext0', Option.bind_some, ext1', Option.bind_some, Option.bind_some, due a c, Option.bind_some, ext0', Option.bind_some, ext1', Option.bind_some, aNe, Option.bind_some]
  by_cases hf : (dueF s r l a b).2 = 0
  case neg =>
   rw [decide_eq_true hf]
   simp only [A.guard, show (true == false) = false from rfl, cond_false, Option.bind_some, A.pick, cond_true, cnd_t]
   exact fin_same _ _
  rw [decide_eq_false (by simp [hf])]
  simp only [A.guard, beq_self_eq_true, cond_true, Option.bind_some]
  rw [aNe]
  simp only [Option.bind_some, A.pick, cond_false]
  by_cases hgz : (dueF s r l b c).2 = 0
  case neg =>
   rw [decide_eq_true hgz, cnd_t]
   exact fin_same _ _
  rw [decide_eq_false (by simp [hgz]), cnd_f]
  -- all is right
  have he : eventsF s r l = 0 := by
   unfold dueF at hf
   split at hf
   ·rename_i h; exact absurd hf h
   ·rename_i h; exact Decidable.not_not.1 h
  obtain ⟨h2000, hcnt, _⟩ := eventsF_len he
  obtain ⟨hin, hsrt⟩ := events_in he
  have d1 : dueF s r l a b = (dueL a b l, 0) ∧ 0 ≤ a ∧ a ≤ b ∧ b ≤ dayF r := by
   unfold dueF at hf ⊢
   rw [if_neg (by simp [he])] at hf ⊢
   by_cases hq : 0 ≤ a ∧ a ≤ b ∧ b ≤ dayF r
   ·rw [if_pos hq]; exact ⟨rfl, hq⟩
   ·rw [if_neg hq] at hf; cases hf
  have d2 : dueF s r l b c = (dueL b c l, 0) ∧ 0 ≤ b ∧ b ≤ c ∧ c ≤ dayF r := by
   unfold dueF at hgz ⊢
   rw [if_neg (by simp [he])] at hgz ⊢
   by_cases hq : 0 ≤ b ∧ b ≤ c ∧ c ≤ dayF r
   ·rw [if_pos hq]; exact ⟨rfl, hq⟩
   ·rw [if_neg hq] at hgz; cases hgz
  have hday : 0 ≤ dayF r := by rcases rate_cases hcnt with rfl | rfl | rfl | rfl <;> decide
  have d3 : dueF s r l a c = (dueL a c l, 0) := by
   unfold dueF
   rw [if_neg (by simp [he]), if_pos (by omega)]
  have d4 : dueF s r l 0 (dayF r) = (l, 0) := by
   unfold dueF
   rw [if_neg (by simp [he]), if_pos (by omega), due_all hin]
  have hmode : modeF r = 0 := by unfold modeF; rw [if_neg hcnt]
  have hcat := due_cat d1.2.2.1 d2.2.2.1 hsrt
  rw [h_stamp_Day (Day_t r), hmode, if_pos rfl, Option.bind_some, ext0', Option.bind_some, ext1', Option.bind_some, due 0 (dayF r), Option.bind_some, ext0', Option.bind_some, ext1', Option.bind_some, d1.1, d2.1, d3, d4]
  have hlen : (dueL a b l).length + (dueL b c l).length ≤ 2000 := by
   rw [← List.length_append, hcat]
   exact Nat.le_trans (List.length_filter_le _ _) h2000
  simp only [aEq, decide_true, Option.bind_some, A.guard, beq_self_eq_true, cond_true]
  have hrow : ∀ x y : List EventD, (((((A.cell (sl 6 cEvent x)).bind fun v => some [v]).bind fun c28 => (A.splice 0 c28 [AV.nsl, AV.nsl]).bind fun c29 => ((A.cell (sl 6 cEvent y)).bind fun v => some [v]).bind fun c30 => (A.splice 1 c30 c29).bind fun c31 => some c31).bind fun cs => some (AV.sl 1 (chunks 1 2 cs)))) = some (.sl 1 [[sl 6 cEvent x], [sl 6 cEvent y]]) := fun _ _ => rfl
  have hm : ∀ x : List EventD, x.length ≤ 2000 → x.length ≤ mxl := fun x hx => by unfold mxl; omega
  rw [hrow, Option.bind_some, quiet_of (concat2 (by omega) σ), Option.bind_some, hcat, quiet_of (h_slices_Equal_api_Event (EqualE_t (dueL a c l) (hm _ (Nat.le_trans (List.length_filter_le _ _) h2000)))), Option.bind_some]
  simp only [A.pick, cond_true, Option.bind_some, A.guard, beq_self_eq_true, aEq, decide_true]
  rw [quiet_of (h_slices_Equal_api_Event (EqualE_t _ hl.1))]
  try simp only [Option.bind_some]
  exact fin_same _ _
 exact wrap_eq rfl run rfl
theorem stampDueIsCut_true (s : SetupD) (r : Int) (l : List EventD) (a b c : Int) (hs : okSetup s) (_ : inI r) (hl : okL okEvent l) (_ : inI a) (_ : inI b) (_ : inI c) : okSetup s ∧ okL okEvent l := ⟨hs, hl⟩
end Go.Proofs.Ytohbeolimnpehaa

namespace Go.Proofs.Ytohbeolimnpehaa
set_option linter.unusedSectionVars false
set_option linter.unusedSimpArgs false
set_option linter.unusedVariables false
open Go.ChangeShapes Go.WideShapes Go.ChangeAt Go.RowKit

theorem own : ownKnob Try.prog.godebug = none := by kernel_rfl
theorem laidOut : laidOutB Try.prog = true := by kernel_rfl

theorem trodAll_below {H : Type} {enc : TypeId × Value → H} {P : Program} (hl : laidOutB P = true) {W W' : World} (hb : Below W.heap.size W W') :
  ∀ {ts : List TypeId} {vs : List Value} {ds : List (DataW H)} {ps : List MemPlace}, (ts.all fun t => P.readableRec t && decide (t < P.types.size)) = true →
   DataW.TrodAll enc P W 0 (fun _ => true) true ts vs ds ps → (∀ x ∈ ps, x.block < W.heap.size) → DataW.TrodAll enc P W' 0 (fun b => decide (b < W.heap.size)) true ts vs ds ps
 | [], [], [], _, _, h, _ => h
 | t :: ts, v :: vs, d :: ds, ps, hts, h, hlt => by
  obtain ⟨p, q, h1, h2, rfl⟩ := h
  simp only [List.all_cons, Bool.and_eq_true, decide_eq_true_eq] at hts
  exact ⟨p, q, Below.trod hl hts.1.1 hts.1.2 h1 hb (fun x hx => hlt x (List.mem_append_left _ hx)),
   trodAll_below hl hb (by simpa using hts.2) h2 (fun x hx => hlt x (List.mem_append_right _ hx)), rfl⟩
 | [], _ :: _, _, _, _, h, _ => h.elim
 | [], [], _ :: _, _, _, h, _ => h.elim
 | _ :: _, [], _, _, _, h, _ => h.elim
 | _ :: _, _ :: _, [], _, _, h, _ => h.elim

theorem law_post {H : Type} {enc : TypeId × Value → H} {f : Func} {s : ChangeSpec} {W W' : World} {args : Array Value} {ds gs : List (DataW H)} {before : List MemPlace} {t : TypeId}
  (hts : (f.params.toList.all fun t => Try.prog.readableRec t && decide (t < Try.prog.types.size)) = true) (hrt : f.resultTypes = #[t]) (ht : Try.prog.underlying t = some .bool) (hvs : s.vars = [])
  (hW : DataW.Whole enc Try.prog f.params.toList s.vars false W args.toList ds gs before) (hb : Below W.heap.size W W')
  (hspec : s.fn H (ds ++ gs) = { results := [.lit (.bool true)], args := ds }) :
  s.post enc Try.prog f false true false false W args (.bool true) W' := by
 have hW' := hW
 obtain ⟨p, q, hA, hV, rfl, hfz, hnd⟩ := hW
 have hlt : ∀ x ∈ p ++ q, x.block < W.heap.size := fun x hx => hW'.lt x hx
 refine ⟨ds, gs, p ++ q, [], p, [], hW', ?_, ?_, ?_, hb.frame _, fun h => by cases h⟩
 ·rw [hspec, hrt]
  exact trodAll_cons_mk (shut_bool ht _) trodAll_mk0
 ·rw [hspec]
  exact trodAll_below laidOut hb hts hA (fun x hx => hlt x (List.mem_append_left _ hx))
 ·rw [hspec, hvs]
  exact rfl
end Go.Proofs.Ytohbeolimnpehaa

namespace Go.Proofs.Ytohbeolimnpehaa
set_option linter.unusedSectionVars false
open Go.RowKit
set_option linter.unusedVariables false
set_option linter.unusedSimpArgs false

def Gr (w w' : World) : Prop := Below w.heap.size w w'
theorem Gr.refl (w : World) : Gr w w := Below.refl _ _
theorem Gr.below {w w' : World} (h : Gr w w') : Below w.heap.size w w' := h
theorem Gr.of {w w' : World} (h : Below w.heap.size w w') : Gr w w' := h
theorem Gr.trans {a b c : World} (h : Gr a b) (k : Gr b c) : Gr a c := Below.trans h (Below.mono k (Below.size h))
theorem Gr.alloc {a b : World} (h : Gr a b) (o : Obj) : Gr a (b.alloc o) := Below.alloc h (Below.size h) o
theorem Gr.drew {a b : World} (h : Gr a b) : Gr a b.drew := Below.drew h
theorem Gr.set {a b : World} (h : Gr a b) {k o : Nat} (hp : a.heap.size ≤ k) (u : Value) : Gr a (b.setCell ⟨k, o, none⟩ u) := Below.setCell h hp u
theorem Gr.put {a b : World} {k o : Nat} (hp : a.heap.size ≤ k) (h : Gr a b) (u : Value) : Gr a (b.setCell ⟨k, o, none⟩ u) := Below.setCell h hp u
theorem Gr.after {a b c : World} (k : Gr b c) (h : Gr a b) : Gr a c := h.trans k
theorem Gr.size {a b : World} (h : Gr a b) : a.heap.size ≤ b.heap.size := Below.size h
theorem Gr.cell {a b : World} (h : Gr a b) {p : Addr} {v : Value} (hc : a.cell? p = some v) : b.cell? p = some v := by
 by_cases hp : p.block < a.heap.size
 ·rw [Below.cell h hp]; exact hc
 ·have : a.heap[p.block]? = none := Array.getElem?_eq_none (by omega)
  simp [World.cell?, this] at hc
theorem Gr.free {a b : World} (h : Gr a b) {p : Addr} (hp : p.block < a.heap.size) {x : Bool} (hc : a.frozen? p = x) : b.frozen? p = x := by
 rw [Below.frozen h hp]; exact hc
theorem Gr.lt {w w1 : World} {o : Obj} (h : Gr (w.alloc o) w1) : w.heap.size < w1.heap.size := by have := h.size; simp at this; omega
abbrev Box1 (w : World) (b : Nat) (v0 : Value) : Prop := (w.cell? ⟨b, 0, none⟩ = some v0) ∧ (w.frozen? ⟨b, 0, none⟩ = false) ∧ b < w.heap.size
theorem Box1.mono {w w1 : World} {b : Nat} {v0 : Value} (k : Box1 w b v0) (h : Gr w w1) : Box1 w1 b v0 := by
 obtain ⟨k0, f0, hlt⟩ := k
 exact ⟨h.cell k0, h.free (by exact hlt) f0, Nat.lt_of_lt_of_le hlt h.size⟩
theorem Box1.of {w : World} {b : Nat} {v0 : Value} {t : TypeId} (h : w.heap[b]? = some (.cells #[v0] t (0, 0))) : Box1 w b v0 := by
 have hlt : b < w.heap.size := (Array.getElem?_eq_some_iff.1 h).1
 refine ⟨?_, ?_, hlt⟩ <;> simp [World.cell?, World.frozen?, h]
theorem Box1.at {w w1 : World} {b : Nat} {v0 : Value} {t : TypeId} (g : Gr w w1) (h : w.heap[b]? = some (.cells #[v0] t (0, 0))) : Box1 w1 b v0 := (Box1.of h).mono g
abbrev Box2 (w : World) (b : Nat) (v0 v1 : Value) : Prop := (w.cell? ⟨b, 0, none⟩ = some v0 ∧ w.cell? ⟨b, 1, none⟩ = some v1) ∧ (w.frozen? ⟨b, 0, none⟩ = false ∧ w.frozen? ⟨b, 1, none⟩ = false) ∧ b < w.heap.size
theorem Box2.mono {w w1 : World} {b : Nat} {v0 v1 : Value} (k : Box2 w b v0 v1) (h : Gr w w1) : Box2 w1 b v0 v1 := by
 obtain ⟨⟨k0, k1⟩, ⟨f0, f1⟩, hlt⟩ := k
 exact ⟨⟨h.cell k0, h.cell k1⟩, ⟨h.free (by exact hlt) f0, h.free (by exact hlt) f1⟩, Nat.lt_of_lt_of_le hlt h.size⟩
theorem Box2.of {w : World} {b : Nat} {v0 v1 : Value} {t : TypeId} (h : w.heap[b]? = some (.cells #[v0, v1] t (0, 0))) : Box2 w b v0 v1 := by
 have hlt : b < w.heap.size := (Array.getElem?_eq_some_iff.1 h).1
 refine ⟨⟨?_, ?_⟩, ⟨?_, ?_⟩, hlt⟩ <;> simp [World.cell?, World.frozen?, h]
theorem Box2.at {w w1 : World} {b : Nat} {v0 v1 : Value} {t : TypeId} (g : Gr w w1) (h : w.heap[b]? = some (.cells #[v0, v1] t (0, 0))) : Box2 w1 b v0 v1 := (Box2.of h).mono g
abbrev Box3 (w : World) (b : Nat) (v0 v1 v2 : Value) : Prop := (w.cell? ⟨b, 0, none⟩ = some v0 ∧ w.cell? ⟨b, 1, none⟩ = some v1 ∧ w.cell? ⟨b, 2, none⟩ = some v2) ∧ (w.frozen? ⟨b, 0, none⟩ = false ∧ w.frozen? ⟨b, 1, none⟩ = false ∧ w.frozen? ⟨b, 2, none⟩ = false) ∧ b < w.heap.size
theorem Box3.mono {w w1 : World} {b : Nat} {v0 v1 v2 : Value} (k : Box3 w b v0 v1 v2) (h : Gr w w1) : Box3 w1 b v0 v1 v2 := by
 obtain ⟨⟨k0, k1, k2⟩, ⟨f0, f1, f2⟩, hlt⟩ := k
 exact ⟨⟨h.cell k0, h.cell k1, h.cell k2⟩, ⟨h.free (by exact hlt) f0, h.free (by exact hlt) f1, h.free (by exact hlt) f2⟩, Nat.lt_of_lt_of_le hlt h.size⟩
theorem Box3.of {w : World} {b : Nat} {v0 v1 v2 : Value} {t : TypeId} (h : w.heap[b]? = some (.cells #[v0, v1, v2] t (0, 0))) : Box3 w b v0 v1 v2 := by
 have hlt : b < w.heap.size := (Array.getElem?_eq_some_iff.1 h).1
 refine ⟨⟨?_, ?_, ?_⟩, ⟨?_, ?_, ?_⟩, hlt⟩ <;> simp [World.cell?, World.frozen?, h]
theorem Box3.at {w w1 : World} {b : Nat} {v0 v1 v2 : Value} {t : TypeId} (g : Gr w w1) (h : w.heap[b]? = some (.cells #[v0, v1, v2] t (0, 0))) : Box3 w1 b v0 v1 v2 := (Box3.of h).mono g
abbrev Box4 (w : World) (b : Nat) (v0 v1 v2 v3 : Value) : Prop := (w.cell? ⟨b, 0, none⟩ = some v0 ∧ w.cell? ⟨b, 1, none⟩ = some v1 ∧ w.cell? ⟨b, 2, none⟩ = some v2 ∧ w.cell? ⟨b, 3, none⟩ = some v3) ∧ (w.frozen? ⟨b, 0, none⟩ = false ∧ w.frozen? ⟨b, 1, none⟩ = false ∧ w.frozen? ⟨b, 2, none⟩ = false ∧ w.frozen? ⟨b, 3, none⟩ = false) ∧ b < w.heap.size
theorem Box4.mono {w w1 : World} {b : Nat} {v0 v1 v2 v3 : Value} (k : Box4 w b v0 v1 v2 v3) (h : Gr w w1) : Box4 w1 b v0 v1 v2 v3 := by
 obtain ⟨⟨k0, k1, k2, k3⟩, ⟨f0, f1, f2, f3⟩, hlt⟩ := k
 exact ⟨⟨h.cell k0, h.cell k1, h.cell k2, h.cell k3⟩, ⟨h.free (by exact hlt) f0, h.free (by exact hlt) f1, h.free (by exact hlt) f2, h.free (by exact hlt) f3⟩, Nat.lt_of_lt_of_le hlt h.size⟩
theorem Box4.of {w : World} {b : Nat} {v0 v1 v2 v3 : Value} {t : TypeId} (h : w.heap[b]? = some (.cells #[v0, v1, v2, v3] t (0, 0))) : Box4 w b v0 v1 v2 v3 := by
 have hlt : b < w.heap.size := (Array.getElem?_eq_some_iff.1 h).1
 refine ⟨⟨?_, ?_, ?_, ?_⟩, ⟨?_, ?_, ?_, ?_⟩, hlt⟩ <;> simp [World.cell?, World.frozen?, h]
theorem Box4.at {w w1 : World} {b : Nat} {v0 v1 v2 v3 : Value} {t : TypeId} (g : Gr w w1) (h : w.heap[b]? = some (.cells #[v0, v1, v2, v3] t (0, 0))) : Box4 w1 b v0 v1 v2 v3 := (Box4.of h).mono g
abbrev Box5 (w : World) (b : Nat) (v0 v1 v2 v3 v4 : Value) : Prop := (w.cell? ⟨b, 0, none⟩ = some v0 ∧ w.cell? ⟨b, 1, none⟩ = some v1 ∧ w.cell? ⟨b, 2, none⟩ = some v2 ∧ w.cell? ⟨b, 3, none⟩ = some v3 ∧ w.cell? ⟨b, 4, none⟩ = some v4) ∧ (w.frozen? ⟨b, 0, none⟩ = false ∧ w.frozen? ⟨b, 1, none⟩ = false ∧ w.frozen? ⟨b, 2, none⟩ = false ∧ w.frozen? ⟨b, 3, none⟩ = false ∧ w.frozen? ⟨b, 4, none⟩ = false) ∧ b < w.heap.size
theorem Box5.mono {w w1 : World} {b : Nat} {v0 v1 v2 v3 v4 : Value} (k : Box5 w b v0 v1 v2 v3 v4) (h : Gr w w1) : Box5 w1 b v0 v1 v2 v3 v4 := by
 obtain ⟨⟨k0, k1, k2, k3, k4⟩, ⟨f0, f1, f2, f3, f4⟩, hlt⟩ := k
 exact ⟨⟨h.cell k0, h.cell k1, h.cell k2, h.cell k3, h.cell k4⟩, ⟨h.free (by exact hlt) f0, h.free (by exact hlt) f1, h.free (by exact hlt) f2, h.free (by exact hlt) f3, h.free (by exact hlt) f4⟩, Nat.lt_of_lt_of_le hlt h.size⟩
theorem Box5.of {w : World} {b : Nat} {v0 v1 v2 v3 v4 : Value} {t : TypeId} (h : w.heap[b]? = some (.cells #[v0, v1, v2, v3, v4] t (0, 0))) : Box5 w b v0 v1 v2 v3 v4 := by
 have hlt : b < w.heap.size := (Array.getElem?_eq_some_iff.1 h).1
 refine ⟨⟨?_, ?_, ?_, ?_, ?_⟩, ⟨?_, ?_, ?_, ?_, ?_⟩, hlt⟩ <;> simp [World.cell?, World.frozen?, h]
theorem Box5.at {w w1 : World} {b : Nat} {v0 v1 v2 v3 v4 : Value} {t : TypeId} (g : Gr w w1) (h : w.heap[b]? = some (.cells #[v0, v1, v2, v3, v4] t (0, 0))) : Box5 w1 b v0 v1 v2 v3 v4 := (Box5.of h).mono g
abbrev Box6 (w : World) (b : Nat) (v0 v1 v2 v3 v4 v5 : Value) : Prop := (w.cell? ⟨b, 0, none⟩ = some v0 ∧ w.cell? ⟨b, 1, none⟩ = some v1 ∧ w.cell? ⟨b, 2, none⟩ = some v2 ∧ w.cell? ⟨b, 3, none⟩ = some v3 ∧ w.cell? ⟨b, 4, none⟩ = some v4 ∧ w.cell? ⟨b, 5, none⟩ = some v5) ∧ (w.frozen? ⟨b, 0, none⟩ = false ∧ w.frozen? ⟨b, 1, none⟩ = false ∧ w.frozen? ⟨b, 2, none⟩ = false ∧ w.frozen? ⟨b, 3, none⟩ = false ∧ w.frozen? ⟨b, 4, none⟩ = false ∧ w.frozen? ⟨b, 5, none⟩ = false) ∧ b < w.heap.size
theorem Box6.mono {w w1 : World} {b : Nat} {v0 v1 v2 v3 v4 v5 : Value} (k : Box6 w b v0 v1 v2 v3 v4 v5) (h : Gr w w1) : Box6 w1 b v0 v1 v2 v3 v4 v5 := by
 obtain ⟨⟨k0, k1, k2, k3, k4, k5⟩, ⟨f0, f1, f2, f3, f4, f5⟩, hlt⟩ := k
 exact ⟨⟨h.cell k0, h.cell k1, h.cell k2, h.cell k3, h.cell k4, h.cell k5⟩, ⟨h.free (by exact hlt) f0, h.free (by exact hlt) f1, h.free (by exact hlt) f2, h.free (by exact hlt) f3, h.free (by exact hlt) f4, h.free (by exact hlt) f5⟩, Nat.lt_of_lt_of_le hlt h.size⟩
theorem Box6.of {w : World} {b : Nat} {v0 v1 v2 v3 v4 v5 : Value} {t : TypeId} (h : w.heap[b]? = some (.cells #[v0, v1, v2, v3, v4, v5] t (0, 0))) : Box6 w b v0 v1 v2 v3 v4 v5 := by
 have hlt : b < w.heap.size := (Array.getElem?_eq_some_iff.1 h).1
 refine ⟨⟨?_, ?_, ?_, ?_, ?_, ?_⟩, ⟨?_, ?_, ?_, ?_, ?_, ?_⟩, hlt⟩ <;> simp [World.cell?, World.frozen?, h]
theorem Box6.at {w w1 : World} {b : Nat} {v0 v1 v2 v3 v4 v5 : Value} {t : TypeId} (g : Gr w w1) (h : w.heap[b]? = some (.cells #[v0, v1, v2, v3, v4, v5] t (0, 0))) : Box6 w1 b v0 v1 v2 v3 v4 v5 := (Box6.of h).mono g
abbrev Box7 (w : World) (b : Nat) (v0 v1 v2 v3 v4 v5 v6 : Value) : Prop := (w.cell? ⟨b, 0, none⟩ = some v0 ∧ w.cell? ⟨b, 1, none⟩ = some v1 ∧ w.cell? ⟨b, 2, none⟩ = some v2 ∧ w.cell? ⟨b, 3, none⟩ = some v3 ∧ w.cell? ⟨b, 4, none⟩ = some v4 ∧ w.cell? ⟨b, 5, none⟩ = some v5 ∧ w.cell? ⟨b, 6, none⟩ = some v6) ∧ (w.frozen? ⟨b, 0, none⟩ = false ∧ w.frozen? ⟨b, 1, none⟩ = false ∧ w.frozen? ⟨b, 2, none⟩ = false ∧ w.frozen? ⟨b, 3, none⟩ = false ∧ w.frozen? ⟨b, 4, none⟩ = false ∧ w.frozen? ⟨b, 5, none⟩ = false ∧ w.frozen? ⟨b, 6, none⟩ = false) ∧ b < w.heap.size
theorem Box7.mono {w w1 : World} {b : Nat} {v0 v1 v2 v3 v4 v5 v6 : Value} (k : Box7 w b v0 v1 v2 v3 v4 v5 v6) (h : Gr w w1) : Box7 w1 b v0 v1 v2 v3 v4 v5 v6 := by
 obtain ⟨⟨k0, k1, k2, k3, k4, k5, k6⟩, ⟨f0, f1, f2, f3, f4, f5, f6⟩, hlt⟩ := k
 exact ⟨⟨h.cell k0, h.cell k1, h.cell k2, h.cell k3, h.cell k4, h.cell k5, h.cell k6⟩, ⟨h.free (by exact hlt) f0, h.free (by exact hlt) f1, h.free (by exact hlt) f2, h.free (by exact hlt) f3, h.free (by exact hlt) f4, h.free (by exact hlt) f5, h.free (by exact hlt) f6⟩, Nat.lt_of_lt_of_le hlt h.size⟩
theorem Box7.of {w : World} {b : Nat} {v0 v1 v2 v3 v4 v5 v6 : Value} {t : TypeId} (h : w.heap[b]? = some (.cells #[v0, v1, v2, v3, v4, v5, v6] t (0, 0))) : Box7 w b v0 v1 v2 v3 v4 v5 v6 := by
 have hlt : b < w.heap.size := (Array.getElem?_eq_some_iff.1 h).1
 refine ⟨⟨?_, ?_, ?_, ?_, ?_, ?_, ?_⟩, ⟨?_, ?_, ?_, ?_, ?_, ?_, ?_⟩, hlt⟩ <;> simp [World.cell?, World.frozen?, h]
theorem Box7.at {w w1 : World} {b : Nat} {v0 v1 v2 v3 v4 v5 v6 : Value} {t : TypeId} (g : Gr w w1) (h : w.heap[b]? = some (.cells #[v0, v1, v2, v3, v4, v5, v6] t (0, 0))) : Box7 w1 b v0 v1 v2 v3 v4 v5 v6 := (Box7.of h).mono g
abbrev Box8 (w : World) (b : Nat) (v0 v1 v2 v3 v4 v5 v6 v7 : Value) : Prop := (w.cell? ⟨b, 0, none⟩ = some v0 ∧ w.cell? ⟨b, 1, none⟩ = some v1 ∧ w.cell? ⟨b, 2, none⟩ = some v2 ∧ w.cell? ⟨b, 3, none⟩ = some v3 ∧ w.cell? ⟨b, 4, none⟩ = some v4 ∧ w.cell? ⟨b, 5, none⟩ = some v5 ∧ w.cell? ⟨b, 6, none⟩ = some v6 ∧ w.cell? ⟨b, 7, none⟩ = some v7) ∧ (w.frozen? ⟨b, 0, none⟩ = false ∧ w.frozen? ⟨b, 1, none⟩ = false ∧ w.frozen? ⟨b, 2, none⟩ = false ∧ w.frozen? ⟨b, 3, none⟩ = false ∧ w.frozen? ⟨b, 4, none⟩ = false ∧ w.frozen? ⟨b, 5, none⟩ = false ∧ w.frozen? ⟨b, 6, none⟩ = false ∧ w.frozen? ⟨b, 7, none⟩ = false) ∧ b < w.heap.size
theorem Box8.mono {w w1 : World} {b : Nat} {v0 v1 v2 v3 v4 v5 v6 v7 : Value} (k : Box8 w b v0 v1 v2 v3 v4 v5 v6 v7) (h : Gr w w1) : Box8 w1 b v0 v1 v2 v3 v4 v5 v6 v7 := by
 obtain ⟨⟨k0, k1, k2, k3, k4, k5, k6, k7⟩, ⟨f0, f1, f2, f3, f4, f5, f6, f7⟩, hlt⟩ := k
 exact ⟨⟨h.cell k0, h.cell k1, h.cell k2, h.cell k3, h.cell k4, h.cell k5, h.cell k6, h.cell k7⟩, ⟨h.free (by exact hlt) f0, h.free (by exact hlt) f1, h.free (by exact hlt) f2, h.free (by exact hlt) f3, h.free (by exact hlt) f4, h.free (by exact hlt) f5, h.free (by exact hlt) f6, h.free (by exact hlt) f7⟩, Nat.lt_of_lt_of_le hlt h.size⟩
theorem Box8.of {w : World} {b : Nat} {v0 v1 v2 v3 v4 v5 v6 v7 : Value} {t : TypeId} (h : w.heap[b]? = some (.cells #[v0, v1, v2, v3, v4, v5, v6, v7] t (0, 0))) : Box8 w b v0 v1 v2 v3 v4 v5 v6 v7 := by
 have hlt : b < w.heap.size := (Array.getElem?_eq_some_iff.1 h).1
 refine ⟨⟨?_, ?_, ?_, ?_, ?_, ?_, ?_, ?_⟩, ⟨?_, ?_, ?_, ?_, ?_, ?_, ?_, ?_⟩, hlt⟩ <;> simp [World.cell?, World.frozen?, h]
theorem Box8.at {w w1 : World} {b : Nat} {v0 v1 v2 v3 v4 v5 v6 v7 : Value} {t : TypeId} (g : Gr w w1) (h : w.heap[b]? = some (.cells #[v0, v1, v2, v3, v4, v5, v6, v7] t (0, 0))) : Box8 w1 b v0 v1 v2 v3 v4 v5 v6 v7 := (Box8.of h).mono g
abbrev Box9 (w : World) (b : Nat) (v0 v1 v2 v3 v4 v5 v6 v7 v8 : Value) : Prop := (w.cell? ⟨b, 0, none⟩ = some v0 ∧ w.cell? ⟨b, 1, none⟩ = some v1 ∧ w.cell? ⟨b, 2, none⟩ = some v2 ∧ w.cell? ⟨b, 3, none⟩ = some v3 ∧ w.cell? ⟨b, 4, none⟩ = some v4 ∧ w.cell? ⟨b, 5, none⟩ = some v5 ∧ w.cell? ⟨b, 6, none⟩ = some v6 ∧ w.cell? ⟨b, 7, none⟩ = some v7 ∧ w.cell? ⟨b, 8, none⟩ = some v8) ∧ (w.frozen? ⟨b, 0, none⟩ = false ∧ w.frozen? ⟨b, 1, none⟩ = false ∧ w.frozen? ⟨b, 2, none⟩ = false ∧ w.frozen? ⟨b, 3, none⟩ = false ∧ w.frozen? ⟨b, 4, none⟩ = false ∧ w.frozen? ⟨b, 5, none⟩ = false ∧ w.frozen? ⟨b, 6, none⟩ = false ∧ w.frozen? ⟨b, 7, none⟩ = false ∧ w.frozen? ⟨b, 8, none⟩ = false) ∧ b < w.heap.size
theorem Box9.mono {w w1 : World} {b : Nat} {v0 v1 v2 v3 v4 v5 v6 v7 v8 : Value} (k : Box9 w b v0 v1 v2 v3 v4 v5 v6 v7 v8) (h : Gr w w1) : Box9 w1 b v0 v1 v2 v3 v4 v5 v6 v7 v8 := by
 obtain ⟨⟨k0, k1, k2, k3, k4, k5, k6, k7, k8⟩, ⟨f0, f1, f2, f3, f4, f5, f6, f7, f8⟩, hlt⟩ := k
 exact ⟨⟨h.cell k0, h.cell k1, h.cell k2, h.cell k3, h.cell k4, h.cell k5, h.cell k6, h.cell k7, h.cell k8⟩, ⟨h.free (by exact hlt) f0, h.free (by exact hlt) f1, h.free (by exact hlt) f2, h.free (by exact hlt) f3, h.free (by exact hlt) f4, h.free (by exact hlt) f5, h.free (by exact hlt) f6, h.free (by exact hlt) f7, h.free (by exact hlt) f8⟩, Nat.lt_of_lt_of_le hlt h.size⟩
theorem Box9.of {w : World} {b : Nat} {v0 v1 v2 v3 v4 v5 v6 v7 v8 : Value} {t : TypeId} (h : w.heap[b]? = some (.cells #[v0, v1, v2, v3, v4, v5, v6, v7, v8] t (0, 0))) : Box9 w b v0 v1 v2 v3 v4 v5 v6 v7 v8 := by
 have hlt : b < w.heap.size := (Array.getElem?_eq_some_iff.1 h).1
 refine ⟨⟨?_, ?_, ?_, ?_, ?_, ?_, ?_, ?_, ?_⟩, ⟨?_, ?_, ?_, ?_, ?_, ?_, ?_, ?_, ?_⟩, hlt⟩ <;> simp [World.cell?, World.frozen?, h]
theorem Box9.at {w w1 : World} {b : Nat} {v0 v1 v2 v3 v4 v5 v6 v7 v8 : Value} {t : TypeId} (g : Gr w w1) (h : w.heap[b]? = some (.cells #[v0, v1, v2, v3, v4, v5, v6, v7, v8] t (0, 0))) : Box9 w1 b v0 v1 v2 v3 v4 v5 v6 v7 v8 := (Box9.of h).mono g
abbrev Box10 (w : World) (b : Nat) (v0 v1 v2 v3 v4 v5 v6 v7 v8 v9 : Value) : Prop := (w.cell? ⟨b, 0, none⟩ = some v0 ∧ w.cell? ⟨b, 1, none⟩ = some v1 ∧ w.cell? ⟨b, 2, none⟩ = some v2 ∧ w.cell? ⟨b, 3, none⟩ = some v3 ∧ w.cell? ⟨b, 4, none⟩ = some v4 ∧ w.cell? ⟨b, 5, none⟩ = some v5 ∧ w.cell? ⟨b, 6, none⟩ = some v6 ∧ w.cell? ⟨b, 7, none⟩ = some v7 ∧ w.cell? ⟨b, 8, none⟩ = some v8 ∧ w.cell? ⟨b, 9, none⟩ = some v9) ∧ (w.frozen? ⟨b, 0, none⟩ = false ∧ w.frozen? ⟨b, 1, none⟩ = false ∧ w.frozen? ⟨b, 2, none⟩ = false ∧ w.frozen? ⟨b, 3, none⟩ = false ∧ w.frozen? ⟨b, 4, none⟩ = false ∧ w.frozen? ⟨b, 5, none⟩ = false ∧ w.frozen? ⟨b, 6, none⟩ = false ∧ w.frozen? ⟨b, 7, none⟩ = false ∧ w.frozen? ⟨b, 8, none⟩ = false ∧ w.frozen? ⟨b, 9, none⟩ = false) ∧ b < w.heap.size
theorem Box10.mono {w w1 : World} {b : Nat} {v0 v1 v2 v3 v4 v5 v6 v7 v8 v9 : Value} (k : Box10 w b v0 v1 v2 v3 v4 v5 v6 v7 v8 v9) (h : Gr w w1) : Box10 w1 b v0 v1 v2 v3 v4 v5 v6 v7 v8 v9 := by
 obtain ⟨⟨k0, k1, k2, k3, k4, k5, k6, k7, k8, k9⟩, ⟨f0, f1, f2, f3, f4, f5, f6, f7, f8, f9⟩, hlt⟩ := k
 exact ⟨⟨h.cell k0, h.cell k1, h.cell k2, h.cell k3, h.cell k4, h.cell k5, h.cell k6, h.cell k7, h.cell k8, h.cell k9⟩, ⟨h.free (by exact hlt) f0, h.free (by exact hlt) f1, h.free (by exact hlt) f2, h.free (by exact hlt) f3, h.free (by exact hlt) f4, h.free (by exact hlt) f5, h.free (by exact hlt) f6, h.free (by exact hlt) f7, h.free (by exact hlt) f8, h.free (by exact hlt) f9⟩, Nat.lt_of_lt_of_le hlt h.size⟩
theorem Box10.of {w : World} {b : Nat} {v0 v1 v2 v3 v4 v5 v6 v7 v8 v9 : Value} {t : TypeId} (h : w.heap[b]? = some (.cells #[v0, v1, v2, v3, v4, v5, v6, v7, v8, v9] t (0, 0))) : Box10 w b v0 v1 v2 v3 v4 v5 v6 v7 v8 v9 := by
 have hlt : b < w.heap.size := (Array.getElem?_eq_some_iff.1 h).1
 refine ⟨⟨?_, ?_, ?_, ?_, ?_, ?_, ?_, ?_, ?_, ?_⟩, ⟨?_, ?_, ?_, ?_, ?_, ?_, ?_, ?_, ?_, ?_⟩, hlt⟩ <;> simp [World.cell?, World.frozen?, h]
theorem Box10.at {w w1 : World} {b : Nat} {v0 v1 v2 v3 v4 v5 v6 v7 v8 v9 : Value} {t : TypeId} (g : Gr w w1) (h : w.heap[b]? = some (.cells #[v0, v1, v2, v3, v4, v5, v6, v7, v8, v9] t (0, 0))) : Box10 w1 b v0 v1 v2 v3 v4 v5 v6 v7 v8 v9 := (Box10.of h).mono g
abbrev Box11 (w : World) (b : Nat) (v0 v1 v2 v3 v4 v5 v6 v7 v8 v9 v10 : Value) : Prop := (w.cell? ⟨b, 0, none⟩ = some v0 ∧ w.cell? ⟨b, 1, none⟩ = some v1 ∧ w.cell? ⟨b, 2, none⟩ = some v2 ∧ w.cell? ⟨b, 3, none⟩ = some v3 ∧ w.cell? ⟨b, 4, none⟩ = some v4 ∧ w.cell? ⟨b, 5, none⟩ = some v5 ∧ w.cell? ⟨b, 6, none⟩ = some v6 ∧ w.cell? ⟨b, 7, none⟩ = some v7 ∧ w.cell? ⟨b, 8, none⟩ = some v8 ∧ w.cell? ⟨b, 9, none⟩ = some v9 ∧ w.cell? ⟨b, 10, none⟩ = some v10) ∧ (w.frozen? ⟨b, 0, none⟩ = false ∧ w.frozen? ⟨b, 1, none⟩ = false ∧ w.frozen? ⟨b, 2, none⟩ = false ∧ w.frozen? ⟨b, 3, none⟩ = false ∧ w.frozen? ⟨b, 4, none⟩ = false ∧ w.frozen? ⟨b, 5, none⟩ = false ∧ w.frozen? ⟨b, 6, none⟩ = false ∧ w.frozen? ⟨b, 7, none⟩ = false ∧ w.frozen? ⟨b, 8, none⟩ = false ∧ w.frozen? ⟨b, 9, none⟩ = false ∧ w.frozen? ⟨b, 10, none⟩ = false) ∧ b < w.heap.size
theorem Box11.mono {w w1 : World} {b : Nat} {v0 v1 v2 v3 v4 v5 v6 v7 v8 v9 v10 : Value} (k : Box11 w b v0 v1 v2 v3 v4 v5 v6 v7 v8 v9 v10) (h : Gr w w1) : Box11 w1 b v0 v1 v2 v3 v4 v5 v6 v7 v8 v9 v10 := by
 obtain ⟨⟨k0, k1, k2, k3, k4, k5, k6, k7, k8, k9, k10⟩, ⟨f0, f1, f2, f3, f4, f5, f6, f7, f8, f9, f10⟩, hlt⟩ := k
 exact ⟨⟨h.cell k0, h.cell k1, h.cell k2, h.cell k3, h.cell k4, h.cell k5, h.cell k6, h.cell k7, h.cell k8, h.cell k9, h.cell k10⟩, ⟨h.free (by exact hlt) f0, h.free (by exact hlt) f1, h.free (by exact hlt) f2, h.free (by exact hlt) f3, h.free (by exact hlt) f4, h.free (by exact hlt) f5, h.free (by exact hlt) f6, h.free (by exact hlt) f7, h.free (by exact hlt) f8, h.free (by exact hlt) f9, h.free (by exact hlt) f10⟩, Nat.lt_of_lt_of_le hlt h.size⟩
theorem Box11.of {w : World} {b : Nat} {v0 v1 v2 v3 v4 v5 v6 v7 v8 v9 v10 : Value} {t : TypeId} (h : w.heap[b]? = some (.cells #[v0, v1, v2, v3, v4, v5, v6, v7, v8, v9, v10] t (0, 0))) : Box11 w b v0 v1 v2 v3 v4 v5 v6 v7 v8 v9 v10 := by
 have hlt : b < w.heap.size := (Array.getElem?_eq_some_iff.1 h).1
 refine ⟨⟨?_, ?_, ?_, ?_, ?_, ?_, ?_, ?_, ?_, ?_, ?_⟩, ⟨?_, ?_, ?_, ?_, ?_, ?_, ?_, ?_, ?_, ?_, ?_⟩, hlt⟩ <;> simp [World.cell?, World.frozen?, h]
theorem Box11.at {w w1 : World} {b : Nat} {v0 v1 v2 v3 v4 v5 v6 v7 v8 v9 v10 : Value} {t : TypeId} (g : Gr w w1) (h : w.heap[b]? = some (.cells #[v0, v1, v2, v3, v4, v5, v6, v7, v8, v9, v10] t (0, 0))) : Box11 w1 b v0 v1 v2 v3 v4 v5 v6 v7 v8 v9 v10 := (Box11.of h).mono g
abbrev Box12 (w : World) (b : Nat) (v0 v1 v2 v3 v4 v5 v6 v7 v8 v9 v10 v11 : Value) : Prop := (w.cell? ⟨b, 0, none⟩ = some v0 ∧ w.cell? ⟨b, 1, none⟩ = some v1 ∧ w.cell? ⟨b, 2, none⟩ = some v2 ∧ w.cell? ⟨b, 3, none⟩ = some v3 ∧ w.cell? ⟨b, 4, none⟩ = some v4 ∧ w.cell? ⟨b, 5, none⟩ = some v5 ∧ w.cell? ⟨b, 6, none⟩ = some v6 ∧ w.cell? ⟨b, 7, none⟩ = some v7 ∧ w.cell? ⟨b, 8, none⟩ = some v8 ∧ w.cell? ⟨b, 9, none⟩ = some v9 ∧ w.cell? ⟨b, 10, none⟩ = some v10 ∧ w.cell? ⟨b, 11, none⟩ = some v11) ∧ (w.frozen? ⟨b, 0, none⟩ = false ∧ w.frozen? ⟨b, 1, none⟩ = false ∧ w.frozen? ⟨b, 2, none⟩ = false ∧ w.frozen? ⟨b, 3, none⟩ = false ∧ w.frozen? ⟨b, 4, none⟩ = false ∧ w.frozen? ⟨b, 5, none⟩ = false ∧ w.frozen? ⟨b, 6, none⟩ = false ∧ w.frozen? ⟨b, 7, none⟩ = false ∧ w.frozen? ⟨b, 8, none⟩ = false ∧ w.frozen? ⟨b, 9, none⟩ = false ∧ w.frozen? ⟨b, 10, none⟩ = false ∧ w.frozen? ⟨b, 11, none⟩ = false) ∧ b < w.heap.size
theorem Box12.mono {w w1 : World} {b : Nat} {v0 v1 v2 v3 v4 v5 v6 v7 v8 v9 v10 v11 : Value} (k : Box12 w b v0 v1 v2 v3 v4 v5 v6 v7 v8 v9 v10 v11) (h : Gr w w1) : Box12 w1 b v0 v1 v2 v3 v4 v5 v6 v7 v8 v9 v10 v11 := by
 obtain ⟨⟨k0, k1, k2, k3, k4, k5, k6, k7, k8, k9, k10, k11⟩, ⟨f0, f1, f2, f3, f4, f5, f6, f7, f8, f9, f10, f11⟩, hlt⟩ := k
 exact ⟨⟨h.cell k0, h.cell k1, h.cell k2, h.cell k3, h.cell k4, h.cell k5, h.cell k6, h.cell k7, h.cell k8, h.cell k9, h.cell k10, h.cell k11⟩, ⟨h.free (by exact hlt) f0, h.free (by exact hlt) f1, h.free (by exact hlt) f2, h.free (by exact hlt) f3, h.free (by exact hlt) f4, h.free (by exact hlt) f5, h.free (by exact hlt) f6, h.free (by exact hlt) f7, h.free (by exact hlt) f8, h.free (by exact hlt) f9, h.free (by exact hlt) f10, h.free (by exact hlt) f11⟩, Nat.lt_of_lt_of_le hlt h.size⟩
theorem Box12.of {w : World} {b : Nat} {v0 v1 v2 v3 v4 v5 v6 v7 v8 v9 v10 v11 : Value} {t : TypeId} (h : w.heap[b]? = some (.cells #[v0, v1, v2, v3, v4, v5, v6, v7, v8, v9, v10, v11] t (0, 0))) : Box12 w b v0 v1 v2 v3 v4 v5 v6 v7 v8 v9 v10 v11 := by
 have hlt : b < w.heap.size := (Array.getElem?_eq_some_iff.1 h).1
 refine ⟨⟨?_, ?_, ?_, ?_, ?_, ?_, ?_, ?_, ?_, ?_, ?_, ?_⟩, ⟨?_, ?_, ?_, ?_, ?_, ?_, ?_, ?_, ?_, ?_, ?_, ?_⟩, hlt⟩ <;> simp [World.cell?, World.frozen?, h]
theorem Box12.at {w w1 : World} {b : Nat} {v0 v1 v2 v3 v4 v5 v6 v7 v8 v9 v10 v11 : Value} {t : TypeId} (g : Gr w w1) (h : w.heap[b]? = some (.cells #[v0, v1, v2, v3, v4, v5, v6, v7, v8, v9, v10, v11] t (0, 0))) : Box12 w1 b v0 v1 v2 v3 v4 v5 v6 v7 v8 v9 v10 v11 := (Box12.of h).mono g
abbrev Box13 (w : World) (b : Nat) (v0 v1 v2 v3 v4 v5 v6 v7 v8 v9 v10 v11 v12 : Value) : Prop := (w.cell? ⟨b, 0, none⟩ = some v0 ∧ w.cell? ⟨b, 1, none⟩ = some v1 ∧ w.cell? ⟨b, 2, none⟩ = some v2 ∧ w.cell? ⟨b, 3, none⟩ = some v3 ∧ w.cell? ⟨b, 4, none⟩ = some v4 ∧ w.cell? ⟨b, 5, none⟩ = some v5 ∧ w.cell? ⟨b, 6, none⟩ = some v6 ∧ w.cell? ⟨b, 7, none⟩ = some v7 ∧ w.cell? ⟨b, 8, none⟩ = some v8 ∧ w.cell? ⟨b, 9, none⟩ = some v9 ∧ w.cell? ⟨b, 10, none⟩ = some v10 ∧ w.cell? ⟨b, 11, none⟩ = some v11 ∧ w.cell? ⟨b, 12, none⟩ = some v12) ∧ (w.frozen? ⟨b, 0, none⟩ = false ∧ w.frozen? ⟨b, 1, none⟩ = false ∧ w.frozen? ⟨b, 2, none⟩ = false ∧ w.frozen? ⟨b, 3, none⟩ = false ∧ w.frozen? ⟨b, 4, none⟩ = false ∧ w.frozen? ⟨b, 5, none⟩ = false ∧ w.frozen? ⟨b, 6, none⟩ = false ∧ w.frozen? ⟨b, 7, none⟩ = false ∧ w.frozen? ⟨b, 8, none⟩ = false ∧ w.frozen? ⟨b, 9, none⟩ = false ∧ w.frozen? ⟨b, 10, none⟩ = false ∧ w.frozen? ⟨b, 11, none⟩ = false ∧ w.frozen? ⟨b, 12, none⟩ = false) ∧ b < w.heap.size
theorem Box13.mono {w w1 : World} {b : Nat} {v0 v1 v2 v3 v4 v5 v6 v7 v8 v9 v10 v11 v12 : Value} (k : Box13 w b v0 v1 v2 v3 v4 v5 v6 v7 v8 v9 v10 v11 v12) (h : Gr w w1) : Box13 w1 b v0 v1 v2 v3 v4 v5 v6 v7 v8 v9 v10 v11 v12 := by
 obtain ⟨⟨k0, k1, k2, k3, k4, k5, k6, k7, k8, k9, k10, k11, k12⟩, ⟨f0, f1, f2, f3, f4, f5, f6, f7, f8, f9, f10, f11, f12⟩, hlt⟩ := k
 exact ⟨⟨h.cell k0, h.cell k1, h.cell k2, h.cell k3, h.cell k4, h.cell k5, h.cell k6, h.cell k7, h.cell k8, h.cell k9, h.cell k10, h.cell k11, h.cell k12⟩, ⟨h.free (by exact hlt) f0, h.free (by exact hlt) f1, h.free (by exact hlt) f2, h.free (by exact hlt) f3, h.free (by exact hlt) f4, h.free (by exact hlt) f5, h.free (by exact hlt) f6, h.free (by exact hlt) f7, h.free (by exact hlt) f8, h.free (by exact hlt) f9, h.free (by exact hlt) f10, h.free (by exact hlt) f11, h.free (by exact hlt) f12⟩, Nat.lt_of_lt_of_le hlt h.size⟩
theorem Box13.of {w : World} {b : Nat} {v0 v1 v2 v3 v4 v5 v6 v7 v8 v9 v10 v11 v12 : Value} {t : TypeId} (h : w.heap[b]? = some (.cells #[v0, v1, v2, v3, v4, v5, v6, v7, v8, v9, v10, v11, v12] t (0, 0))) : Box13 w b v0 v1 v2 v3 v4 v5 v6 v7 v8 v9 v10 v11 v12 := by
 have hlt : b < w.heap.size := (Array.getElem?_eq_some_iff.1 h).1
 refine ⟨⟨?_, ?_, ?_, ?_, ?_, ?_, ?_, ?_, ?_, ?_, ?_, ?_, ?_⟩, ⟨?_, ?_, ?_, ?_, ?_, ?_, ?_, ?_, ?_, ?_, ?_, ?_, ?_⟩, hlt⟩ <;> simp [World.cell?, World.frozen?, h]
theorem Box13.at {w w1 : World} {b : Nat} {v0 v1 v2 v3 v4 v5 v6 v7 v8 v9 v10 v11 v12 : Value} {t : TypeId} (g : Gr w w1) (h : w.heap[b]? = some (.cells #[v0, v1, v2, v3, v4, v5, v6, v7, v8, v9, v10, v11, v12] t (0, 0))) : Box13 w1 b v0 v1 v2 v3 v4 v5 v6 v7 v8 v9 v10 v11 v12 := (Box13.of h).mono g
abbrev Box14 (w : World) (b : Nat) (v0 v1 v2 v3 v4 v5 v6 v7 v8 v9 v10 v11 v12 v13 : Value) : Prop := (w.cell? ⟨b, 0, none⟩ = some v0 ∧ w.cell? ⟨b, 1, none⟩ = some v1 ∧ w.cell? ⟨b, 2, none⟩ = some v2 ∧ w.cell? ⟨b, 3, none⟩ = some v3 ∧ w.cell? ⟨b, 4, none⟩ = some v4 ∧ w.cell? ⟨b, 5, none⟩ = some v5 ∧ w.cell? ⟨b, 6, none⟩ = some v6 ∧ w.cell? ⟨b, 7, none⟩ = some v7 ∧ w.cell? ⟨b, 8, none⟩ = some v8 ∧ w.cell? ⟨b, 9, none⟩ = some v9 ∧ w.cell? ⟨b, 10, none⟩ = some v10 ∧ w.cell? ⟨b, 11, none⟩ = some v11 ∧ w.cell? ⟨b, 12, none⟩ = some v12 ∧ w.cell? ⟨b, 13, none⟩ = some v13) ∧ (w.frozen? ⟨b, 0, none⟩ = false ∧ w.frozen? ⟨b, 1, none⟩ = false ∧ w.frozen? ⟨b, 2, none⟩ = false ∧ w.frozen? ⟨b, 3, none⟩ = false ∧ w.frozen? ⟨b, 4, none⟩ = false ∧ w.frozen? ⟨b, 5, none⟩ = false ∧ w.frozen? ⟨b, 6, none⟩ = false ∧ w.frozen? ⟨b, 7, none⟩ = false ∧ w.frozen? ⟨b, 8, none⟩ = false ∧ w.frozen? ⟨b, 9, none⟩ = false ∧ w.frozen? ⟨b, 10, none⟩ = false ∧ w.frozen? ⟨b, 11, none⟩ = false ∧ w.frozen? ⟨b, 12, none⟩ = false ∧ w.frozen? ⟨b, 13, none⟩ = false) ∧ b < w.heap.size
theorem Box14.mono {w w1 : World} {b : Nat} {v0 v1 v2 v3 v4 v5 v6 v7 v8 v9 v10 v11 v12 v13 : Value} (k : Box14 w b v0 v1 v2 v3 v4 v5 v6 v7 v8 v9 v10 v11 v12 v13) (h : Gr w w1) : Box14 w1 b v0 v1 v2 v3 v4 v5 v6 v7 v8 v9 v10 v11 v12 v13 := by
 obtain ⟨⟨k0, k1, k2, k3, k4, k5, k6, k7, k8, k9, k10, k11, k12, k13⟩, ⟨f0, f1, f2, f3, f4, f5, f6, f7, f8, f9, f10, f11, f12, f13⟩, hlt⟩ := k
 exact ⟨⟨h.cell k0, h.cell k1, h.cell k2, h.cell k3, h.cell k4, h.cell k5, h.cell k6, h.cell k7, h.cell k8, h.cell k9, h.cell k10, h.cell k11, h.cell k12, h.cell k13⟩, ⟨h.free (by exact hlt) f0, h.free (by exact hlt) f1, h.free (by exact hlt) f2, h.free (by exact hlt) f3, h.free (by exact hlt) f4, h.free (by exact hlt) f5, h.free (by exact hlt) f6, h.free (by exact hlt) f7, h.free (by exact hlt) f8, h.free (by exact hlt) f9, h.free (by exact hlt) f10, h.free (by exact hlt) f11, h.free (by exact hlt) f12, h.free (by exact hlt) f13⟩, Nat.lt_of_lt_of_le hlt h.size⟩
theorem Box14.of {w : World} {b : Nat} {v0 v1 v2 v3 v4 v5 v6 v7 v8 v9 v10 v11 v12 v13 : Value} {t : TypeId} (h : w.heap[b]? = some (.cells #[v0, v1, v2, v3, v4, v5, v6, v7, v8, v9, v10, v11, v12, v13] t (0, 0))) : Box14 w b v0 v1 v2 v3 v4 v5 v6 v7 v8 v9 v10 v11 v12 v13 := by
 have hlt : b < w.heap.size := (Array.getElem?_eq_some_iff.1 h).1
 refine ⟨⟨?_, ?_, ?_, ?_, ?_, ?_, ?_, ?_, ?_, ?_, ?_, ?_, ?_, ?_⟩, ⟨?_, ?_, ?_, ?_, ?_, ?_, ?_, ?_, ?_, ?_, ?_, ?_, ?_, ?_⟩, hlt⟩ <;> simp [World.cell?, World.frozen?, h]
theorem Box14.at {w w1 : World} {b : Nat} {v0 v1 v2 v3 v4 v5 v6 v7 v8 v9 v10 v11 v12 v13 : Value} {t : TypeId} (g : Gr w w1) (h : w.heap[b]? = some (.cells #[v0, v1, v2, v3, v4, v5, v6, v7, v8, v9, v10, v11, v12, v13] t (0, 0))) : Box14 w1 b v0 v1 v2 v3 v4 v5 v6 v7 v8 v9 v10 v11 v12 v13 := (Box14.of h).mono g
end Go.Proofs.Ytohbeolimnpehaa

namespace Go.Proofs.Ytohbeolimnpehaa
set_option linter.unusedSectionVars false
open Go.RowKit Go.Deep
set_option linter.unusedVariables false
set_option linter.unusedSimpArgs false

theorem Gr.cells {w w' : World} (g : Gr w w') {a : Addr} {n : Nat} {cs : List Value} (h : ∀ i, i < n → w.cell? (a.add i) = cs[i]?) (hl : cs.length = n) : ∀ i, i < n → w'.cell? (a.add i) = cs[i]? := by
 intro i hi
 have h1 := h i hi
 rw [List.getElem?_eq_getElem (by omega)] at h1 ⊢
 exact g.cell h1

structure Cod (α : Type) where
 size : Nat
 is : World → List Value → α → Prop
 len : ∀ {w cs a}, is w cs a → cs.length = size
 mono : ∀ {w w' cs a}, is w cs a → Gr w w' → is w' cs a
 bulk : α → Nat

def intC : Cod Int where
 size := 1
 is := fun _ cs n => cs = [.int .i64 n] ∧ -9223372036854775808 ≤ n ∧ n ≤ 9223372036854775807
 len := fun h => by rw [h.1]; rfl
 mono := fun h _ => h
 bulk := fun _ => 1
def boolC : Cod Bool where
 size := 1
 is := fun _ cs b => cs = [.bool b]
 len := fun h => by rw [h]; rfl
 mono := fun h _ => h
 bulk := fun _ => 1
def strC : Cod ByteArray where
 size := 1
 is := fun _ cs s => cs = [.string s] ∧ s.size ≤ maxLen
 len := fun h => by rw [h.1]; rfl
 mono := fun h _ => h
 bulk := fun s => s.size + 1
def Cod.pair {α β : Type} (c : Cod α) (d : Cod β) : Cod (α × β) where
 size := c.size + d.size
 is := fun w cs x => c.is w (cs.take c.size) x.1 ∧ d.is w (cs.drop c.size) x.2
 len := fun {w cs a} h => by
  have h1 := c.len h.1
  have h2 := d.len h.2
  simp at h1 h2
  omega
 mono := fun h g => ⟨c.mono h.1 g, d.mono h.2 g⟩
 bulk := fun x => c.bulk x.1 + d.bulk x.2
def sliceC {α : Type} (c : Cod α) : Cod (List α) where
 size := 1
 is := fun w cs l => (cs = [.slice none 0 0] ∧ l = []) ∨ ∃ (b off : Nat) (sp : Option Nat) (cap : Nat), cs = [.slice (some ⟨b, off, sp⟩) l.length cap] ∧ l.length ≤ cap ∧ cap ≤ maxLen ∧
  ∀ i (h : i < l.length), sp = none ∧ ∃ cs', (∀ j, j < c.size → w.cell? ⟨b, off + (i * c.size + j), none⟩ = cs'[j]?) ∧ c.is w cs' l[i]
 len := fun h => by
  rcases h with ⟨rfl, _⟩ | ⟨b, off, sp, cap, rfl, _⟩ <;> rfl
 mono := fun {w w' cs l} h g => by
  rcases h with h | ⟨b, off, sp, cap, h1, h2, h3, h4⟩
  ·exact .inl h
  ·refine .inr ⟨b, off, sp, cap, h1, h2, h3, fun i hi => ?_⟩
   obtain ⟨e, cs', h5, h6⟩ := h4 i hi
   refine ⟨e, cs', fun j hj => ?_, c.mono h6 g⟩
   have h7 := h5 j hj
   have hl := c.len h6
   rw [List.getElem?_eq_getElem (by omega)] at h7 ⊢
   exact g.cell h7
 bulk := fun l => (l.map c.bulk).sum + 1

def ReadsF {α : Type} (F : Nat → Prop) (P : Program) (c : Cod α) (t : TypeId) : Prop :=
 ∀ ⦃H : Type⦄ ⦃enc : TypeId × Value → H⦄ ⦃w : World⦄ ⦃base : Nat⦄ ⦃spare : Nat → Bool⦄ ⦃held : Bool⦄ ⦃fuel : Nat⦄ ⦃cs : List Value⦄ ⦃x : DataW H × List MemPlace⦄, F fuel →
  DataW.trod enc P w base spare held fuel t cs = some x → ∃ a, c.is w cs a ∧ c.bulk a ≤ Rows.uptoBulk x.1
abbrev Reads {α : Type} (P : Program) (c : Cod α) (t : TypeId) : Prop := ReadsF (fun _ => True) P c t
theorem bulkAll_sum {H : Type} (l : List (DataW H)) : Rows.uptoBulkAll l = (l.map Rows.uptoBulk).sum := by
 induction l with
 | nil => rfl
 | cons x r ih => simp only [Rows.uptoBulkAll, List.map_cons, List.sum_cons, ih]
theorem sum_le_range {α : Type} (f : α → Nat) (D : Nat → Nat) : ∀ (l : List α) (o : Nat), (∀ i (h : i < l.length), f l[i] ≤ D (o + i)) → (l.map f).sum ≤ ((List.range' o l.length).map D).sum
 | [], _, _ => by simp
 | x :: r, o, h => by
  simp only [List.length_cons, List.range'_succ, List.map_cons, List.sum_cons]
  have h0 := h 0 (by simp)
  have := sum_le_range f D r (o + 1) (fun i hi => by have := h (i + 1) (by simp; omega); simp only [List.getElem_cons_succ] at this; rw [show o + 1 + i = o + (i + 1) by omega]; exact this)
  simp at h0
  omega

theorem wf_i64 {n : Int} (h : (Lit.int .i64 n).wf = true) : -9223372036854775808 ≤ n ∧ n ≤ 9223372036854775807 := by
 simpa [Lit.wf, IntKind.min, IntKind.max, IntKind.signed, IntKind.bits] using h
theorem bulk_pos {H : Type} (d : DataW H) : 1 ≤ Rows.uptoBulk d := by
 cases d with
 | lit l => cases l <;> simp [Rows.uptoBulk]
 | _ => simp [Rows.uptoBulk]
theorem reads_int {F : Nat → Prop} {P : Program} {t : TypeId} (ht : P.underlying t = some (.int .i64)) : ReadsF F P intC t := by
 intro H enc w base spare held fuel cs x _ h
 obtain ⟨n, rfl, _, hw⟩ := DataW.trod_int ht h
 exact ⟨n, ⟨rfl, wf_i64 hw⟩, bulk_pos _⟩
theorem reads_bool {F : Nat → Prop} {P : Program} {t : TypeId} (ht : P.underlying t = some .bool) : ReadsF F P boolC t := by
 intro H enc w base spare held fuel cs x _ h
 obtain ⟨n, rfl, _⟩ := DataW.trod_bool ht h
 exact ⟨n, rfl, bulk_pos _⟩
theorem reads_str {F : Nat → Prop} {P : Program} {t : TypeId} (ht : P.underlying t = some .string) : ReadsF F P strC t := by
 intro H enc w base spare held fuel cs x _ h
 obtain ⟨n, rfl, hx, hw⟩ := DataW.trod_string ht h
 refine ⟨n, ⟨rfl, hw⟩, ?_⟩
 subst hx
 simp only [Rows.uptoBulk, strC]
 first | (simp; done) | omega
theorem reads_slice {F : Nat → Prop} {P : Program} {α : Type} {c : Cod α} {t e : TypeId} (ht : P.underlying t = some (.slice e)) (hz : P.cellsOf e = c.size) (hp : 0 < c.size) (hr : ReadsF (fun m => F (m + 1)) P c e) : ReadsF F P (sliceC c) t := by
 intro H enc w base spare held fuel cs x hF h
 rcases DataW.trod_slice ht h with ⟨rfl, rfl⟩ | ⟨a, len, cap, elems, rest, n, hfu, rfl, hxe, hb, hl, hm, hlen, hel, h8, h9⟩
 ·exact ⟨[], .inl ⟨rfl, rfl⟩, by simp [sliceC, Rows.uptoBulk]⟩
 ·obtain ⟨D, hD⟩ : ∃ D : Nat → DataW H, D = fun i => (elems.getD i (.nil, [])).1 := ⟨_, rfl⟩
  have key : ∀ i, i < len → ∃ (y : α) (cs' : List Value), (∀ j, j < c.size → w.cell? (a.add (i * c.size + j)) = cs'[j]?) ∧ c.is w cs' y ∧ c.bulk y ≤ Rows.uptoBulk (D i) := by
   intro i hi
   have hk := hel i hi
   rw [List.getElem?_eq_getElem (by omega)] at hk
   obtain ⟨cs', h1, h2⟩ := Option.bind_eq_some_iff.1 hk
   obtain ⟨y, hy, hyb⟩ := hr (by subst hfu; exact hF) h2
   have hyb : c.bulk y ≤ Rows.uptoBulk (D i) := by
    rw [hD]
    simpa [List.getD, List.getElem?_eq_getElem (show i < elems.length by omega)] using hyb
   obtain ⟨_, h3, h4⟩ := World.cells?_some h1
   refine ⟨y, cs', fun j hj => ?_, hy, hyb⟩
   have := h4 j (by rw [hz]; exact hj)
   rw [hz] at this
   rw [← this, add_add]
  obtain ⟨ys, hys⟩ : ∃ ys : List α, ys.length = len ∧ ∀ i (h : i < ys.length), c.bulk ys[i] ≤ Rows.uptoBulk (D i) ∧ ∃ cs', (∀ j, j < c.size → w.cell? (a.add (i * c.size + j)) = cs'[j]?) ∧ c.is w cs' ys[i] := by
   clear hel hlen h hl hxe h8 h9
   induction len with
   | zero => exact ⟨[], rfl, fun i h => by simp at h⟩
   | succ k ih =>
    obtain ⟨ys, h1, h2⟩ := ih (fun i hi => key i (by omega))
    obtain ⟨y, cs', h3, h4, h4b⟩ := key k (by omega)
    refine ⟨ys ++ [y], by simp [h1], fun i hi => ?_⟩
    by_cases hk : i < ys.length
    ·rw [List.getElem_append_left hk]; exact h2 i hk
    ·have : i = k := by simp at hi; omega
     subst this
     rw [List.getElem_append_right (by omega)]
     simp only [h1, Nat.sub_self, List.getElem_cons_zero]
     exact ⟨h4b, cs', h3, h4⟩
  obtain ⟨h1, h2⟩ := hys
  obtain ⟨b, off, sp⟩ := a
  refine ⟨ys, .inr ⟨b, off, sp, cap, by rw [h1], by omega, hm, fun i hi => ?_⟩, ?_⟩
  ·have hs : sp = none := by
    cases sp with
    | none => rfl
    | some q =>
     exfalso
     obtain ⟨_, cs', h3, h4⟩ := h2 0 (by omega)
     have h5 := h3 0 hp
     have hl := c.len h4
     rw [List.getElem?_eq_getElem (by omega)] at h5
     simp only [Nat.zero_mul, Nat.zero_add, World.cell?, Addr.add] at h5
     split at h5 <;> simp at h5
   obtain ⟨_, cs', h3, h4⟩ := h2 i hi
   subst hs
   refine ⟨rfl, cs', fun j hj => ?_, h4⟩
   have h6 := h3 j hj
   rw [← h6]
   congr 1
   simp only [Addr.add]
   split
   ·rename_i h7; simp only [h7, Nat.add_zero]
   ·rfl
  ·subst hxe
   simp only [sliceC, Rows.uptoBulk, bulkAll_sum, List.map_map]
   have := sum_le_range c.bulk (fun i => Rows.uptoBulk (D i)) ys 0 (fun i hi => by simpa using (h2 i hi).1)
   rw [h1, ← List.range_eq_range'] at this
   have e : List.map (Rows.uptoBulk ∘ fun x => x.1) elems = List.map (fun i => Rows.uptoBulk (D i)) (List.range len) := by
    rw [← hlen, hD]
    apply List.ext_getElem (by simp)
    intro i h3 h4
    simp at h3
    simp [List.getD, List.getElem?_eq_getElem h3]
   rw [e]
   omega
theorem take_drop_all {α : Type} (l : List α) (o n : Nat) (h : l.length = o + n) : (l.drop o).take n = l.drop o := List.take_of_length_le (by simp; omega)

theorem list_of_len2 {α : Type} (l : List α) (h : l.length = 2) : ∃ x0 x1, l = [x0, x1] := by
 match l, h with
 | [x0, x1], _ => exact ⟨x0, x1, rfl⟩
theorem reads_struct2 {F : Nat → Prop} {P : Program} {α0 α1 : Type} {t : TypeId} {f0 f1 : Field} {c0 : Cod α0} {c1 : Cod α1} (ht : P.underlying t = some (.struct #[f0, f1])) (hz : P.cellsOf t = c0.size + c1.size) (o0 : f0.offset = 0) (o1 : f1.offset = c0.size) (z0 : P.cellsOf f0.type = c0.size) (z1 : P.cellsOf f1.type = c1.size) (r0 : ReadsF (fun m => F (m + 1)) P c0 f0.type) (r1 : ReadsF (fun m => F (m + 1)) P c1 f1.type) : ReadsF F P (c0.pair c1) t := by
 intro H enc w base spare held fuel cs x hF h
 obtain ⟨xs, m, hfu, hxx, hlen, hxl, hf⟩ := DataW.trod_struct ht h
 rw [hz] at hlen
 have hxl : xs.length = 2 := hxl
 have h0 := hf 0 f0 rfl
 rw [o0, z0, List.getElem?_eq_getElem (show 0 < xs.length by omega)] at h0
 obtain ⟨a0, k0, b0⟩ := r0 (by subst hfu; exact hF) h0
 have h1 := hf 1 f1 rfl
 rw [o1, z1, List.getElem?_eq_getElem (show 1 < xs.length by omega)] at h1
 obtain ⟨a1, k1, b1⟩ := r1 (by subst hfu; exact hF) h1
 rw [take_drop_all cs (c0.size) c1.size (by omega)] at k1
 refine ⟨(a0, a1), ?_, ?_⟩
 ·exact ⟨by simpa using k0, (by simpa [List.drop_drop, Nat.add_assoc] using k1)⟩
 ·subst hxx
  simp only [Rows.uptoBulk, bulkAll_sum, Cod.pair]
  have hs : (List.map Rows.uptoBulk (xs.map (·.1))).sum = Rows.uptoBulk xs[0].1 + (Rows.uptoBulk xs[1].1) := by
   obtain ⟨x0, x1, rfl⟩ := list_of_len2 xs hxl
   simp
  rw [hs]
  exact Nat.le_succ_of_le (Nat.add_le_add b0 b1)
theorem list_of_len3 {α : Type} (l : List α) (h : l.length = 3) : ∃ x0 x1 x2, l = [x0, x1, x2] := by
 match l, h with
 | [x0, x1, x2], _ => exact ⟨x0, x1, x2, rfl⟩
theorem reads_struct3 {F : Nat → Prop} {P : Program} {α0 α1 α2 : Type} {t : TypeId} {f0 f1 f2 : Field} {c0 : Cod α0} {c1 : Cod α1} {c2 : Cod α2} (ht : P.underlying t = some (.struct #[f0, f1, f2])) (hz : P.cellsOf t = c0.size + c1.size + c2.size) (o0 : f0.offset = 0) (o1 : f1.offset = c0.size) (o2 : f2.offset = c0.size + c1.size) (z0 : P.cellsOf f0.type = c0.size) (z1 : P.cellsOf f1.type = c1.size) (z2 : P.cellsOf f2.type = c2.size) (r0 : ReadsF (fun m => F (m + 1)) P c0 f0.type) (r1 : ReadsF (fun m => F (m + 1)) P c1 f1.type) (r2 : ReadsF (fun m => F (m + 1)) P c2 f2.type) : ReadsF F P (c0.pair (c1.pair c2)) t := by
 intro H enc w base spare held fuel cs x hF h
 obtain ⟨xs, m, hfu, hxx, hlen, hxl, hf⟩ := DataW.trod_struct ht h
 rw [hz] at hlen
 have hxl : xs.length = 3 := hxl
 have h0 := hf 0 f0 rfl
 rw [o0, z0, List.getElem?_eq_getElem (show 0 < xs.length by omega)] at h0
 obtain ⟨a0, k0, b0⟩ := r0 (by subst hfu; exact hF) h0
 have h1 := hf 1 f1 rfl
 rw [o1, z1, List.getElem?_eq_getElem (show 1 < xs.length by omega)] at h1
 obtain ⟨a1, k1, b1⟩ := r1 (by subst hfu; exact hF) h1
 have h2 := hf 2 f2 rfl
 rw [o2, z2, List.getElem?_eq_getElem (show 2 < xs.length by omega)] at h2
 obtain ⟨a2, k2, b2⟩ := r2 (by subst hfu; exact hF) h2
 rw [take_drop_all cs (c0.size + c1.size) c2.size (by omega)] at k2
 refine ⟨(a0, (a1, a2)), ?_, ?_⟩
 ·exact ⟨by simpa using k0, ⟨by simpa [List.drop_drop, Nat.add_assoc] using k1, (by simpa [List.drop_drop, Nat.add_assoc] using k2)⟩⟩
 ·subst hxx
  simp only [Rows.uptoBulk, bulkAll_sum, Cod.pair]
  have hs : (List.map Rows.uptoBulk (xs.map (·.1))).sum = Rows.uptoBulk xs[0].1 + (Rows.uptoBulk xs[1].1 + (Rows.uptoBulk xs[2].1)) := by
   obtain ⟨x0, x1, x2, rfl⟩ := list_of_len3 xs hxl
   simp
  rw [hs]
  exact Nat.le_succ_of_le (Nat.add_le_add b0 (Nat.add_le_add b1 b2))
theorem list_of_len4 {α : Type} (l : List α) (h : l.length = 4) : ∃ x0 x1 x2 x3, l = [x0, x1, x2, x3] := by
 match l, h with
 | [x0, x1, x2, x3], _ => exact ⟨x0, x1, x2, x3, rfl⟩
theorem reads_struct4 {F : Nat → Prop} {P : Program} {α0 α1 α2 α3 : Type} {t : TypeId} {f0 f1 f2 f3 : Field} {c0 : Cod α0} {c1 : Cod α1} {c2 : Cod α2} {c3 : Cod α3} (ht : P.underlying t = some (.struct #[f0, f1, f2, f3])) (hz : P.cellsOf t = c0.size + c1.size + c2.size + c3.size) (o0 : f0.offset = 0) (o1 : f1.offset = c0.size) (o2 : f2.offset = c0.size + c1.size) (o3 : f3.offset = c0.size + c1.size + c2.size) (z0 : P.cellsOf f0.type = c0.size) (z1 : P.cellsOf f1.type = c1.size) (z2 : P.cellsOf f2.type = c2.size) (z3 : P.cellsOf f3.type = c3.size) (r0 : ReadsF (fun m => F (m + 1)) P c0 f0.type) (r1 : ReadsF (fun m => F (m + 1)) P c1 f1.type) (r2 : ReadsF (fun m => F (m + 1)) P c2 f2.type) (r3 : ReadsF (fun m => F (m + 1)) P c3 f3.type) : ReadsF F P (c0.pair (c1.pair (c2.pair c3))) t := by
 intro H enc w base spare held fuel cs x hF h
 obtain ⟨xs, m, hfu, hxx, hlen, hxl, hf⟩ := DataW.trod_struct ht h
 rw [hz] at hlen
 have hxl : xs.length = 4 := hxl
 have h0 := hf 0 f0 rfl
 rw [o0, z0, List.getElem?_eq_getElem (show 0 < xs.length by omega)] at h0
 obtain ⟨a0, k0, b0⟩ := r0 (by subst hfu; exact hF) h0
 have h1 := hf 1 f1 rfl
 rw [o1, z1, List.getElem?_eq_getElem (show 1 < xs.length by omega)] at h1
 obtain ⟨a1, k1, b1⟩ := r1 (by subst hfu; exact hF) h1
 have h2 := hf 2 f2 rfl
 rw [o2, z2, List.getElem?_eq_getElem (show 2 < xs.length by omega)] at h2
 obtain ⟨a2, k2, b2⟩ := r2 (by subst hfu; exact hF) h2
 have h3 := hf 3 f3 rfl
 rw [o3, z3, List.getElem?_eq_getElem (show 3 < xs.length by omega)] at h3
 obtain ⟨a3, k3, b3⟩ := r3 (by subst hfu; exact hF) h3
 rw [take_drop_all cs (c0.size + c1.size + c2.size) c3.size (by omega)] at k3
 refine ⟨(a0, (a1, (a2, a3))), ?_, ?_⟩
 ·exact ⟨by simpa using k0, ⟨by simpa [List.drop_drop, Nat.add_assoc] using k1, ⟨by simpa [List.drop_drop, Nat.add_assoc] using k2, (by simpa [List.drop_drop, Nat.add_assoc] using k3)⟩⟩⟩
 ·subst hxx
  simp only [Rows.uptoBulk, bulkAll_sum, Cod.pair]
  have hs : (List.map Rows.uptoBulk (xs.map (·.1))).sum = Rows.uptoBulk xs[0].1 + (Rows.uptoBulk xs[1].1 + (Rows.uptoBulk xs[2].1 + (Rows.uptoBulk xs[3].1))) := by
   obtain ⟨x0, x1, x2, x3, rfl⟩ := list_of_len4 xs hxl
   simp
  rw [hs]
  exact Nat.le_succ_of_le (Nat.add_le_add b0 (Nat.add_le_add b1 (Nat.add_le_add b2 b3)))
theorem list_of_len5 {α : Type} (l : List α) (h : l.length = 5) : ∃ x0 x1 x2 x3 x4, l = [x0, x1, x2, x3, x4] := by
 match l, h with
 | [x0, x1, x2, x3, x4], _ => exact ⟨x0, x1, x2, x3, x4, rfl⟩
theorem reads_struct5 {F : Nat → Prop} {P : Program} {α0 α1 α2 α3 α4 : Type} {t : TypeId} {f0 f1 f2 f3 f4 : Field} {c0 : Cod α0} {c1 : Cod α1} {c2 : Cod α2} {c3 : Cod α3} {c4 : Cod α4} (ht : P.underlying t = some (.struct #[f0, f1, f2, f3, f4])) (hz : P.cellsOf t = c0.size + c1.size + c2.size + c3.size + c4.size) (o0 : f0.offset = 0) (o1 : f1.offset = c0.size) (o2 : f2.offset = c0.size + c1.size) (o3 : f3.offset = c0.size + c1.size + c2.size) (o4 : f4.offset = c0.size + c1.size + c2.size + c3.size) (z0 : P.cellsOf f0.type = c0.size) (z1 : P.cellsOf f1.type = c1.size) (z2 : P.cellsOf f2.type = c2.size) (z3 : P.cellsOf f3.type = c3.size) (z4 : P.cellsOf f4.type = c4.size) (r0 : ReadsF (fun m => F (m + 1)) P c0 f0.type) (r1 : ReadsF (fun m => F (m + 1)) P c1 f1.type) (r2 : ReadsF (fun m => F (m + 1)) P c2 f2.type) (r3 : ReadsF (fun m => F (m + 1)) P c3 f3.type) (r4 : ReadsF (fun m => F (m + 1)) P c4 f4.type) : ReadsF F P (c0.pair (c1.pair (c2.pair (c3.pair c4)))) t := by
 intro H enc w base spare held fuel cs x hF h
 obtain ⟨xs, m, hfu, hxx, hlen, hxl, hf⟩ := DataW.trod_struct ht h
 rw [hz] at hlen
 have hxl : xs.length = 5 := hxl
 have h0 := hf 0 f0 rfl
 rw [o0, z0, List.getElem?_eq_getElem (show 0 < xs.length by omega)] at h0
 obtain ⟨a0, k0, b0⟩ := r0 (by subst hfu; exact hF) h0
 have h1 := hf 1 f1 rfl
 rw [o1, z1, List.getElem?_eq_getElem (show 1 < xs.length by omega)] at h1
 obtain ⟨a1, k1, b1⟩ := r1 (by subst hfu; exact hF) h1
 have h2 := hf 2 f2 rfl
 rw [o2, z2, List.getElem?_eq_getElem (show 2 < xs.length by omega)] at h2
 obtain ⟨a2, k2, b2⟩ := r2 (by subst hfu; exact hF) h2
 have h3 := hf 3 f3 rfl
 rw [o3, z3, List.getElem?_eq_getElem (show 3 < xs.length by omega)] at h3
 obtain ⟨a3, k3, b3⟩ := r3 (by subst hfu; exact hF) h3
 have h4 := hf 4 f4 rfl
 rw [o4, z4, List.getElem?_eq_getElem (show 4 < xs.length by omega)] at h4
 obtain ⟨a4, k4, b4⟩ := r4 (by subst hfu; exact hF) h4
 rw [take_drop_all cs (c0.size + c1.size + c2.size + c3.size) c4.size (by omega)] at k4
 refine ⟨(a0, (a1, (a2, (a3, a4)))), ?_, ?_⟩
 ·exact ⟨by simpa using k0, ⟨by simpa [List.drop_drop, Nat.add_assoc] using k1, ⟨by simpa [List.drop_drop, Nat.add_assoc] using k2, ⟨by simpa [List.drop_drop, Nat.add_assoc] using k3, (by simpa [List.drop_drop, Nat.add_assoc] using k4)⟩⟩⟩⟩
 ·subst hxx
  simp only [Rows.uptoBulk, bulkAll_sum, Cod.pair]
  have hs : (List.map Rows.uptoBulk (xs.map (·.1))).sum = Rows.uptoBulk xs[0].1 + (Rows.uptoBulk xs[1].1 + (Rows.uptoBulk xs[2].1 + (Rows.uptoBulk xs[3].1 + (Rows.uptoBulk xs[4].1)))) := by
   obtain ⟨x0, x1, x2, x3, x4, rfl⟩ := list_of_len5 xs hxl
   simp
  rw [hs]
  exact Nat.le_succ_of_le (Nat.add_le_add b0 (Nat.add_le_add b1 (Nat.add_le_add b2 (Nat.add_le_add b3 b4))))
theorem list_of_len6 {α : Type} (l : List α) (h : l.length = 6) : ∃ x0 x1 x2 x3 x4 x5, l = [x0, x1, x2, x3, x4, x5] := by
 match l, h with
 | [x0, x1, x2, x3, x4, x5], _ => exact ⟨x0, x1, x2, x3, x4, x5, rfl⟩
theorem reads_struct6 {F : Nat → Prop} {P : Program} {α0 α1 α2 α3 α4 α5 : Type} {t : TypeId} {f0 f1 f2 f3 f4 f5 : Field} {c0 : Cod α0} {c1 : Cod α1} {c2 : Cod α2} {c3 : Cod α3} {c4 : Cod α4} {c5 : Cod α5} (ht : P.underlying t = some (.struct #[f0, f1, f2, f3, f4, f5])) (hz : P.cellsOf t = c0.size + c1.size + c2.size + c3.size + c4.size + c5.size) (o0 : f0.offset = 0) (o1 : f1.offset = c0.size) (o2 : f2.offset = c0.size + c1.size) (o3 : f3.offset = c0.size + c1.size + c2.size) (o4 : f4.offset = c0.size + c1.size + c2.size + c3.size) (o5 : f5.offset = c0.size + c1.size + c2.size + c3.size + c4.size) (z0 : P.cellsOf f0.type = c0.size) (z1 : P.cellsOf f1.type = c1.size) (z2 : P.cellsOf f2.type = c2.size) (z3 : P.cellsOf f3.type = c3.size) (z4 : P.cellsOf f4.type = c4.size) (z5 : P.cellsOf f5.type = c5.size) (r0 : ReadsF (fun m => F (m + 1)) P c0 f0.type) (r1 : ReadsF (fun m => F (m + 1)) P c1 f1.type) (r2 : ReadsF (fun m => F (m + 1)) P c2 f2.type) (r3 : ReadsF (fun m => F (m + 1)) P c3 f3.type) (r4 : ReadsF (fun m => F (m + 1)) P c4 f4.type) (r5 : ReadsF (fun m => F (m + 1)) P c5 f5.type) : ReadsF F P (c0.pair (c1.pair (c2.pair (c3.pair (c4.pair c5))))) t := by
 intro H enc w base spare held fuel cs x hF h
 obtain ⟨xs, m, hfu, hxx, hlen, hxl, hf⟩ := DataW.trod_struct ht h
 rw [hz] at hlen
 have hxl : xs.length = 6 := hxl
 have h0 := hf 0 f0 rfl
 rw [o0, z0, List.getElem?_eq_getElem (show 0 < xs.length by omega)] at h0
 obtain ⟨a0, k0, b0⟩ := r0 (by subst hfu; exact hF) h0
 have h1 := hf 1 f1 rfl
 rw [o1, z1, List.getElem?_eq_getElem (show 1 < xs.length by omega)] at h1
 obtain ⟨a1, k1, b1⟩ := r1 (by subst hfu; exact hF) h1
 have h2 := hf 2 f2 rfl
 rw [o2, z2, List.getElem?_eq_getElem (show 2 < xs.length by omega)] at h2
 obtain ⟨a2, k2, b2⟩ := r2 (by subst hfu; exact hF) h2
 have h3 := hf 3 f3 rfl
 rw [o3, z3, List.getElem?_eq_getElem (show 3 < xs.length by omega)] at h3
 obtain ⟨a3, k3, b3⟩ := r3 (by subst hfu; exact hF) h3
 have h4 := hf 4 f4 rfl
 rw [o4, z4, List.getElem?_eq_getElem (show 4 < xs.length by omega)] at h4
 obtain ⟨a4, k4, b4⟩ := r4 (by subst hfu; exact hF) h4
 have h5 := hf 5 f5 rfl
 rw [o5, z5, List.getElem?_eq_getElem (show 5 < xs.length by omega)] at h5
 obtain ⟨a5, k5, b5⟩ := r5 (by subst hfu; exact hF) h5
 rw [take_drop_all cs (c0.size + c1.size + c2.size + c3.size + c4.size) c5.size (by omega)] at k5
 refine ⟨(a0, (a1, (a2, (a3, (a4, a5))))), ?_, ?_⟩
 ·exact ⟨by simpa using k0, ⟨by simpa [List.drop_drop, Nat.add_assoc] using k1, ⟨by simpa [List.drop_drop, Nat.add_assoc] using k2, ⟨by simpa [List.drop_drop, Nat.add_assoc] using k3, ⟨by simpa [List.drop_drop, Nat.add_assoc] using k4, (by simpa [List.drop_drop, Nat.add_assoc] using k5)⟩⟩⟩⟩⟩
 ·subst hxx
  simp only [Rows.uptoBulk, bulkAll_sum, Cod.pair]
  have hs : (List.map Rows.uptoBulk (xs.map (·.1))).sum = Rows.uptoBulk xs[0].1 + (Rows.uptoBulk xs[1].1 + (Rows.uptoBulk xs[2].1 + (Rows.uptoBulk xs[3].1 + (Rows.uptoBulk xs[4].1 + (Rows.uptoBulk xs[5].1))))) := by
   obtain ⟨x0, x1, x2, x3, x4, x5, rfl⟩ := list_of_len6 xs hxl
   simp
  rw [hs]
  exact Nat.le_succ_of_le (Nat.add_le_add b0 (Nat.add_le_add b1 (Nat.add_le_add b2 (Nat.add_le_add b3 (Nat.add_le_add b4 b5)))))
theorem list_of_len7 {α : Type} (l : List α) (h : l.length = 7) : ∃ x0 x1 x2 x3 x4 x5 x6, l = [x0, x1, x2, x3, x4, x5, x6] := by
 match l, h with
 | [x0, x1, x2, x3, x4, x5, x6], _ => exact ⟨x0, x1, x2, x3, x4, x5, x6, rfl⟩
theorem reads_struct7 {F : Nat → Prop} {P : Program} {α0 α1 α2 α3 α4 α5 α6 : Type} {t : TypeId} {f0 f1 f2 f3 f4 f5 f6 : Field} {c0 : Cod α0} {c1 : Cod α1} {c2 : Cod α2} {c3 : Cod α3} {c4 : Cod α4} {c5 : Cod α5} {c6 : Cod α6} (ht : P.underlying t = some (.struct #[f0, f1, f2, f3, f4, f5, f6])) (hz : P.cellsOf t = c0.size + c1.size + c2.size + c3.size + c4.size + c5.size + c6.size) (o0 : f0.offset = 0) (o1 : f1.offset = c0.size) (o2 : f2.offset = c0.size + c1.size) (o3 : f3.offset = c0.size + c1.size + c2.size) (o4 : f4.offset = c0.size + c1.size + c2.size + c3.size) (o5 : f5.offset = c0.size + c1.size + c2.size + c3.size + c4.size) (o6 : f6.offset = c0.size + c1.size + c2.size + c3.size + c4.size + c5.size) (z0 : P.cellsOf f0.type = c0.size) (z1 : P.cellsOf f1.type = c1.size) (z2 : P.cellsOf f2.type = c2.size) (z3 : P.cellsOf f3.type = c3.size) (z4 : P.cellsOf f4.type = c4.size) (z5 : P.cellsOf f5.type = c5.size) (z6 : P.cellsOf f6.type = c6.size) (r0 : ReadsF (fun m => F (m + 1)) P c0 f0.type) (r1 : ReadsF (fun m => F (m + 1)) P c1 f1.type) (r2 : ReadsF (fun m => F (m + 1)) P c2 f2.type) (r3 : ReadsF (fun m => F (m + 1)) P c3 f3.type) (r4 : ReadsF (fun m => F (m + 1)) P c4 f4.type) (r5 : ReadsF (fun m => F (m + 1)) P c5 f5.type) (r6 : ReadsF (fun m => F (m + 1)) P c6 f6.type) : ReadsF F P (c0.pair (c1.pair (c2.pair (c3.pair (c4.pair (c5.pair c6)))))) t := by
 intro H enc w base spare held fuel cs x hF h
 obtain ⟨xs, m, hfu, hxx, hlen, hxl, hf⟩ := DataW.trod_struct ht h
 rw [hz] at hlen
 have hxl : xs.length = 7 := hxl
 have h0 := hf 0 f0 rfl
 rw [o0, z0, List.getElem?_eq_getElem (show 0 < xs.length by omega)] at h0
 obtain ⟨a0, k0, b0⟩ := r0 (by subst hfu; exact hF) h0
 have h1 := hf 1 f1 rfl
 rw [o1, z1, List.getElem?_eq_getElem (show 1 < xs.length by omega)] at h1
 obtain ⟨a1, k1, b1⟩ := r1 (by subst hfu; exact hF) h1
 have h2 := hf 2 f2 rfl
 rw [o2, z2, List.getElem?_eq_getElem (show 2 < xs.length by omega)] at h2
 obtain ⟨a2, k2, b2⟩ := r2 (by subst hfu; exact hF) h2
 have h3 := hf 3 f3 rfl
 rw [o3, z3, List.getElem?_eq_getElem (show 3 < xs.length by omega)] at h3
 obtain ⟨a3, k3, b3⟩ := r3 (by subst hfu; exact hF) h3
 have h4 := hf 4 f4 rfl
 rw [o4, z4, List.getElem?_eq_getElem (show 4 < xs.length by omega)] at h4
 obtain ⟨a4, k4, b4⟩ := r4 (by subst hfu; exact hF) h4
 have h5 := hf 5 f5 rfl
 rw [o5, z5, List.getElem?_eq_getElem (show 5 < xs.length by omega)] at h5
 obtain ⟨a5, k5, b5⟩ := r5 (by subst hfu; exact hF) h5
 have h6 := hf 6 f6 rfl
 rw [o6, z6, List.getElem?_eq_getElem (show 6 < xs.length by omega)] at h6
 obtain ⟨a6, k6, b6⟩ := r6 (by subst hfu; exact hF) h6
 rw [take_drop_all cs (c0.size + c1.size + c2.size + c3.size + c4.size + c5.size) c6.size (by omega)] at k6
 refine ⟨(a0, (a1, (a2, (a3, (a4, (a5, a6)))))), ?_, ?_⟩
 ·exact ⟨by simpa using k0, ⟨by simpa [List.drop_drop, Nat.add_assoc] using k1, ⟨by simpa [List.drop_drop, Nat.add_assoc] using k2, ⟨by simpa [List.drop_drop, Nat.add_assoc] using k3, ⟨by simpa [List.drop_drop, Nat.add_assoc] using k4, ⟨by simpa [List.drop_drop, Nat.add_assoc] using k5, (by simpa [List.drop_drop, Nat.add_assoc] using k6)⟩⟩⟩⟩⟩⟩
 ·subst hxx
  simp only [Rows.uptoBulk, bulkAll_sum, Cod.pair]
  have hs : (List.map Rows.uptoBulk (xs.map (·.1))).sum = Rows.uptoBulk xs[0].1 + (Rows.uptoBulk xs[1].1 + (Rows.uptoBulk xs[2].1 + (Rows.uptoBulk xs[3].1 + (Rows.uptoBulk xs[4].1 + (Rows.uptoBulk xs[5].1 + (Rows.uptoBulk xs[6].1)))))) := by
   obtain ⟨x0, x1, x2, x3, x4, x5, x6, rfl⟩ := list_of_len7 xs hxl
   simp
  rw [hs]
  exact Nat.le_succ_of_le (Nat.add_le_add b0 (Nat.add_le_add b1 (Nat.add_le_add b2 (Nat.add_le_add b3 (Nat.add_le_add b4 (Nat.add_le_add b5 b6))))))
theorem list_of_len10 {α : Type} (l : List α) (h : l.length = 10) : ∃ x0 x1 x2 x3 x4 x5 x6 x7 x8 x9, l = [x0, x1, x2, x3, x4, x5, x6, x7, x8, x9] := by
 match l, h with
 | [x0, x1, x2, x3, x4, x5, x6, x7, x8, x9], _ => exact ⟨x0, x1, x2, x3, x4, x5, x6, x7, x8, x9, rfl⟩
theorem reads_struct10 {F : Nat → Prop} {P : Program} {α0 α1 α2 α3 α4 α5 α6 α7 α8 α9 : Type} {t : TypeId} {f0 f1 f2 f3 f4 f5 f6 f7 f8 f9 : Field} {c0 : Cod α0} {c1 : Cod α1} {c2 : Cod α2} {c3 : Cod α3} {c4 : Cod α4} {c5 : Cod α5} {c6 : Cod α6} {c7 : Cod α7} {c8 : Cod α8} {c9 : Cod α9} (ht : P.underlying t = some (.struct #[f0, f1, f2, f3, f4, f5, f6, f7, f8, f9])) (hz : P.cellsOf t = c0.size + c1.size + c2.size + c3.size + c4.size + c5.size + c6.size + c7.size + c8.size + c9.size) (o0 : f0.offset = 0) (o1 : f1.offset = c0.size) (o2 : f2.offset = c0.size + c1.size) (o3 : f3.offset = c0.size + c1.size + c2.size) (o4 : f4.offset = c0.size + c1.size + c2.size + c3.size) (o5 : f5.offset = c0.size + c1.size + c2.size + c3.size + c4.size) (o6 : f6.offset = c0.size + c1.size + c2.size + c3.size + c4.size + c5.size) (o7 : f7.offset = c0.size + c1.size + c2.size + c3.size + c4.size + c5.size + c6.size) (o8 : f8.offset = c0.size + c1.size + c2.size + c3.size + c4.size + c5.size + c6.size + c7.size) (o9 : f9.offset = c0.size + c1.size + c2.size + c3.size + c4.size + c5.size + c6.size + c7.size + c8.size) (z0 : P.cellsOf f0.type = c0.size) (z1 : P.cellsOf f1.type = c1.size) (z2 : P.cellsOf f2.type = c2.size) (z3 : P.cellsOf f3.type = c3.size) (z4 : P.cellsOf f4.type = c4.size) (z5 : P.cellsOf f5.type = c5.size) (z6 : P.cellsOf f6.type = c6.size) (z7 : P.cellsOf f7.type = c7.size) (z8 : P.cellsOf f8.type = c8.size) (z9 : P.cellsOf f9.type = c9.size) (r0 : ReadsF (fun m => F (m + 1)) P c0 f0.type) (r1 : ReadsF (fun m => F (m + 1)) P c1 f1.type) (r2 : ReadsF (fun m => F (m + 1)) P c2 f2.type) (r3 : ReadsF (fun m => F (m + 1)) P c3 f3.type) (r4 : ReadsF (fun m => F (m + 1)) P c4 f4.type) (r5 : ReadsF (fun m => F (m + 1)) P c5 f5.type) (r6 : ReadsF (fun m => F (m + 1)) P c6 f6.type) (r7 : ReadsF (fun m => F (m + 1)) P c7 f7.type) (r8 : ReadsF (fun m => F (m + 1)) P c8 f8.type) (r9 : ReadsF (fun m => F (m + 1)) P c9 f9.type) : ReadsF F P (c0.pair (c1.pair (c2.pair (c3.pair (c4.pair (c5.pair (c6.pair (c7.pair (c8.pair c9))))))))) t := by
 intro H enc w base spare held fuel cs x hF h
 obtain ⟨xs, m, hfu, hxx, hlen, hxl, hf⟩ := DataW.trod_struct ht h
 rw [hz] at hlen
 have hxl : xs.length = 10 := hxl
 have h0 := hf 0 f0 rfl
 rw [o0, z0, List.getElem?_eq_getElem (show 0 < xs.length by omega)] at h0
 obtain ⟨a0, k0, b0⟩ := r0 (by subst hfu; exact hF) h0
 have h1 := hf 1 f1 rfl
 rw [o1, z1, List.getElem?_eq_getElem (show 1 < xs.length by omega)] at h1
 obtain ⟨a1, k1, b1⟩ := r1 (by subst hfu; exact hF) h1
 have h2 := hf 2 f2 rfl
 rw [o2, z2, List.getElem?_eq_getElem (show 2 < xs.length by omega)] at h2
 obtain ⟨a2, k2, b2⟩ := r2 (by subst hfu; exact hF) h2
 have h3 := hf 3 f3 rfl
 rw [o3, z3, List.getElem?_eq_getElem (show 3 < xs.length by omega)] at h3
 obtain ⟨a3, k3, b3⟩ := r3 (by subst hfu; exact hF) h3
 have h4 := hf 4 f4 rfl
 rw [o4, z4, List.getElem?_eq_getElem (show 4 < xs.length by omega)] at h4
 obtain ⟨a4, k4, b4⟩ := r4 (by subst hfu; exact hF) h4
 have h5 := hf 5 f5 rfl
 rw [o5, z5, List.getElem?_eq_getElem (show 5 < xs.length by omega)] at h5
 obtain ⟨a5, k5, b5⟩ := r5 (by subst hfu; exact hF) h5
 have h6 := hf 6 f6 rfl
 rw [o6, z6, List.getElem?_eq_getElem (show 6 < xs.length by omega)] at h6
 obtain ⟨a6, k6, b6⟩ := r6 (by subst hfu; exact hF) h6
 have h7 := hf 7 f7 rfl
 rw [o7, z7, List.getElem?_eq_getElem (show 7 < xs.length by omega)] at h7
 obtain ⟨a7, k7, b7⟩ := r7 (by subst hfu; exact hF) h7
 have h8 := hf 8 f8 rfl
 rw [o8, z8, List.getElem?_eq_getElem (show 8 < xs.length by omega)] at h8
 obtain ⟨a8, k8, b8⟩ := r8 (by subst hfu; exact hF) h8
 have h9 := hf 9 f9 rfl
 rw [o9, z9, List.getElem?_eq_getElem (show 9 < xs.length by omega)] at h9
 obtain ⟨a9, k9, b9⟩ := r9 (by subst hfu; exact hF) h9
 rw [take_drop_all cs (c0.size + c1.size + c2.size + c3.size + c4.size + c5.size + c6.size + c7.size + c8.size) c9.size (by omega)] at k9
 refine ⟨(a0, (a1, (a2, (a3, (a4, (a5, (a6, (a7, (a8, a9))))))))), ?_, ?_⟩
 ·exact ⟨by simpa using k0, ⟨by simpa [List.drop_drop, Nat.add_assoc] using k1, ⟨by simpa [List.drop_drop, Nat.add_assoc] using k2, ⟨by simpa [List.drop_drop, Nat.add_assoc] using k3, ⟨by simpa [List.drop_drop, Nat.add_assoc] using k4, ⟨by simpa [List.drop_drop, Nat.add_assoc] using k5, ⟨by simpa [List.drop_drop, Nat.add_assoc] using k6, ⟨by simpa [List.drop_drop, Nat.add_assoc] using k7, ⟨by simpa [List.drop_drop, Nat.add_assoc] using k8, (by simpa [List.drop_drop, Nat.add_assoc] using k9)⟩⟩⟩⟩⟩⟩⟩⟩⟩
 ·subst hxx
  simp only [Rows.uptoBulk, bulkAll_sum, Cod.pair]
  have hs : (List.map Rows.uptoBulk (xs.map (·.1))).sum = Rows.uptoBulk xs[0].1 + (Rows.uptoBulk xs[1].1 + (Rows.uptoBulk xs[2].1 + (Rows.uptoBulk xs[3].1 + (Rows.uptoBulk xs[4].1 + (Rows.uptoBulk xs[5].1 + (Rows.uptoBulk xs[6].1 + (Rows.uptoBulk xs[7].1 + (Rows.uptoBulk xs[8].1 + (Rows.uptoBulk xs[9].1))))))))) := by
   obtain ⟨x0, x1, x2, x3, x4, x5, x6, x7, x8, x9, rfl⟩ := list_of_len10 xs hxl
   simp
  rw [hs]
  exact Nat.le_succ_of_le (Nat.add_le_add b0 (Nat.add_le_add b1 (Nat.add_le_add b2 (Nat.add_le_add b3 (Nat.add_le_add b4 (Nat.add_le_add b5 (Nat.add_le_add b6 (Nat.add_le_add b7 (Nat.add_le_add b8 b9)))))))))
end Go.Proofs.Ytohbeolimnpehaa

namespace Go.Proofs.Ytohbeolimnpehaa
set_option linter.unusedSectionVars false
open Go.RowKit Go.Deep
set_option linter.unusedVariables false
set_option linter.unusedSimpArgs false

theorem ReadsF.imp {F : Nat → Prop} {P : Program} {α β : Type} {c : Cod α} {d : Cod β} {t : TypeId} (h : ReadsF F P c t) (k : ∀ w cs a, c.is w cs a → ∃ b, d.is w cs b ∧ d.bulk b ≤ c.bulk a) : ReadsF F P d t := by
 intro H enc w base spare held fuel cs x hF h1
 obtain ⟨a, ha, hb⟩ := h hF h1
 obtain ⟨b, h2, h3⟩ := k _ _ _ ha
 exact ⟨b, h2, Nat.le_trans h3 hb⟩
theorem cells_split {α : Type} {cs a b : List α} {n : Nat} (h1 : cs.take n = a) (h2 : cs.drop n = b) : cs = a ++ b := by rw [← h1, ← h2, List.take_append_drop]
def pointC : Cod PointD where
 size := 2
 is := fun w cs x => cs = [.int .i64 x.time, .int .i64 x.way] ∧ inI x.time ∧ inI x.way
 len := fun h => by obtain ⟨rfl, _⟩ := h; rfl
 mono := fun h _ => h
 bulk := fun x => intC.bulk x.time + (intC.bulk x.way)
theorem reads_point : Reads Try.prog pointC 137 :=
 (reads_struct2 (F := fun _ => True) Try.underlying137 (c0 := intC) (c1 := intC) (by kernel_rfl) rfl rfl (by kernel_rfl) (by kernel_rfl) (reads_int Try.underlying3) (reads_int Try.underlying3)).imp fun w cs a h => by
  obtain ⟨a0, a1⟩ := a
  obtain ⟨h0, h1⟩ := h
  obtain ⟨e0, b0⟩ := h0
  obtain ⟨e1, b1⟩ := h1
  have e100 := cells_split e0 e1
  exact ⟨⟨a0, a1⟩, ⟨by rw [e100]; rfl, b0, b1⟩, Nat.le_refl _⟩
theorem reads_points : Reads Try.prog (sliceC pointC) 62 := reads_slice Try.underlying62 (c := pointC) (by kernel_rfl) (by decide) reads_point
def curveC : Cod CurveD where
 size := 2
 is := fun w cs x => ∃ v0 : Value, cs = [.int .i64 x.kind, v0] ∧ inI x.kind ∧ (sliceC pointC).is w [v0] x.points
 len := fun h => by obtain ⟨v0, rfl, _⟩ := h; rfl
 mono := fun {w w' cs x} h g => by obtain ⟨v0, e, h0, h1⟩ := h; exact ⟨v0, e, h0, ((sliceC pointC)).mono h1 g⟩
 bulk := fun x => intC.bulk x.kind + ((sliceC pointC).bulk x.points)
theorem reads_curve : Reads Try.prog curveC 64 :=
 (reads_struct2 (F := fun _ => True) Try.underlying64 (c0 := intC) (c1 := (sliceC pointC)) (by kernel_rfl) rfl rfl (by kernel_rfl) (by kernel_rfl) (reads_int Try.underlying3) reads_points).imp fun w cs a h => by
  obtain ⟨a0, a1⟩ := a
  obtain ⟨h0, h1⟩ := h
  obtain ⟨e0, b0⟩ := h0
  obtain ⟨s1, e1⟩ := List.length_eq_one_iff.1 (((sliceC pointC)).len h1); rw [e1] at h1
  have e100 := cells_split e0 e1
  exact ⟨⟨a0, a1⟩, ⟨s1, by rw [e100]; rfl, b0, h1⟩, Nat.le_refl _⟩
def rangeC : Cod RangeD where
 size := 3
 is := fun w cs x => cs = [.int .i64 x.low, .int .i64 x.high, .string x.name] ∧ inI x.low ∧ inI x.high ∧ x.name.size ≤ maxLen
 len := fun h => by obtain ⟨rfl, _⟩ := h; rfl
 mono := fun h _ => h
 bulk := fun x => intC.bulk x.low + (intC.bulk x.high + (strC.bulk x.name))
theorem reads_range : Reads Try.prog rangeC 152 :=
 (reads_struct3 (F := fun _ => True) Try.underlying152 (c0 := intC) (c1 := intC) (c2 := strC) (by kernel_rfl) rfl rfl rfl (by kernel_rfl) (by kernel_rfl) (by kernel_rfl) (reads_int Try.underlying3) (reads_int Try.underlying3) (reads_str Try.underlying9)).imp fun w cs a h => by
  obtain ⟨a0, a1, a2⟩ := a
  obtain ⟨h0, h1, h2⟩ := h
  obtain ⟨e0, b0⟩ := h0
  obtain ⟨e1, b1⟩ := h1
  obtain ⟨e2, b2⟩ := h2
  have e101 := cells_split e1 e2
  have e100 := cells_split e0 e101
  exact ⟨⟨a0, a1, a2⟩, ⟨by rw [e100]; rfl, b0, b1, b2⟩, Nat.le_refl _⟩
theorem reads_ranges : Reads Try.prog (sliceC rangeC) 94 := reads_slice Try.underlying94 (c := rangeC) (by kernel_rfl) (by decide) reads_range
def paramC : Cod ParamD where
 size := 7
 is := fun w cs x => ∃ v0 : Value, cs = [.string x.name, .int .i64 x.group, .int .i64 x.att, .int .i64 x.fine, .int .i64 x.default, .bool x.snap, v0] ∧ x.name.size ≤ maxLen ∧ inI x.group ∧ inI x.att ∧ inI x.fine ∧ inI x.default ∧ (sliceC rangeC).is w [v0] x.ranges
 len := fun h => by obtain ⟨v0, rfl, _⟩ := h; rfl
 mono := fun {w w' cs x} h g => by obtain ⟨v0, e, h0, h1, h2, h3, h4, h5⟩ := h; exact ⟨v0, e, h0, h1, h2, h3, h4, ((sliceC rangeC)).mono h5 g⟩
 bulk := fun x => strC.bulk x.name + (intC.bulk x.group + (intC.bulk x.att + (intC.bulk x.fine + (intC.bulk x.default + (boolC.bulk x.snap + ((sliceC rangeC).bulk x.ranges))))))
theorem reads_param : Reads Try.prog paramC 96 :=
 (reads_struct7 (F := fun _ => True) Try.underlying96 (c0 := strC) (c1 := intC) (c2 := intC) (c3 := intC) (c4 := intC) (c5 := boolC) (c6 := (sliceC rangeC)) (by kernel_rfl) rfl rfl rfl rfl rfl rfl rfl (by kernel_rfl) (by kernel_rfl) (by kernel_rfl) (by kernel_rfl) (by kernel_rfl) (by kernel_rfl) (by kernel_rfl) (reads_str Try.underlying9) (reads_int Try.underlying3) (reads_int Try.underlying3) (reads_int Try.underlying3) (reads_int Try.underlying3) (reads_bool Try.underlying4) reads_ranges).imp fun w cs a h => by
  obtain ⟨a0, a1, a2, a3, a4, a5, a6⟩ := a
  obtain ⟨h0, h1, h2, h3, h4, h5, h6⟩ := h
  obtain ⟨e0, b0⟩ := h0
  obtain ⟨e1, b1⟩ := h1
  obtain ⟨e2, b2⟩ := h2
  obtain ⟨e3, b3⟩ := h3
  obtain ⟨e4, b4⟩ := h4
  have e5 := h5; simp only [boolC] at e5
  obtain ⟨s6, e6⟩ := List.length_eq_one_iff.1 (((sliceC rangeC)).len h6); rw [e6] at h6
  have e105 := cells_split e5 e6
  have e104 := cells_split e4 e105
  have e103 := cells_split e3 e104
  have e102 := cells_split e2 e103
  have e101 := cells_split e1 e102
  have e100 := cells_split e0 e101
  exact ⟨⟨a0, a1, a2, a3, a4, a5, a6⟩, ⟨s6, by rw [e100]; rfl, b0, b1, b2, b3, b4, h6⟩, Nat.le_refl _⟩
theorem reads_params : Reads Try.prog (sliceC paramC) 118 := reads_slice Try.underlying118 (c := paramC) (by kernel_rfl) (by decide) reads_param
def profileC : Cod ProfileD where
 size := 3
 is := fun w cs x => ∃ v0 : Value, cs = [.string x.name, .int .i64 x.size, v0] ∧ x.name.size ≤ maxLen ∧ inI x.size ∧ (sliceC paramC).is w [v0] x.params
 len := fun h => by obtain ⟨v0, rfl, _⟩ := h; rfl
 mono := fun {w w' cs x} h g => by obtain ⟨v0, e, h0, h1, h2⟩ := h; exact ⟨v0, e, h0, h1, ((sliceC paramC)).mono h2 g⟩
 bulk := fun x => strC.bulk x.name + (intC.bulk x.size + ((sliceC paramC).bulk x.params))
theorem reads_profile : Reads Try.prog profileC 120 :=
 (reads_struct3 (F := fun _ => True) Try.underlying120 (c0 := strC) (c1 := intC) (c2 := (sliceC paramC)) (by kernel_rfl) rfl rfl rfl (by kernel_rfl) (by kernel_rfl) (by kernel_rfl) (reads_str Try.underlying9) (reads_int Try.underlying3) reads_params).imp fun w cs a h => by
  obtain ⟨a0, a1, a2⟩ := a
  obtain ⟨h0, h1, h2⟩ := h
  obtain ⟨e0, b0⟩ := h0
  obtain ⟨e1, b1⟩ := h1
  obtain ⟨s2, e2⟩ := List.length_eq_one_iff.1 (((sliceC paramC)).len h2); rw [e2] at h2
  have e101 := cells_split e1 e2
  have e100 := cells_split e0 e101
  exact ⟨⟨a0, a1, a2⟩, ⟨s2, by rw [e100]; rfl, b0, b1, h2⟩, Nat.le_refl _⟩
theorem reads_profiles : Reads Try.prog (sliceC profileC) 22 := reads_slice Try.underlying22 (c := profileC) (by kernel_rfl) (by decide) reads_profile
def unitC : Cod UnitD where
 size := 4
 is := fun w cs x => cs = [.int .i64 x.number, .string x.profile, .int .i64 x.univ, .int .i64 x.address] ∧ inI x.number ∧ x.profile.size ≤ maxLen ∧ inI x.univ ∧ inI x.address
 len := fun h => by obtain ⟨rfl, _⟩ := h; rfl
 mono := fun h _ => h
 bulk := fun x => intC.bulk x.number + (strC.bulk x.profile + (intC.bulk x.univ + (intC.bulk x.address)))
theorem reads_unit : Reads Try.prog unitC 117 :=
 (reads_struct4 (F := fun _ => True) Try.underlying117 (c0 := intC) (c1 := strC) (c2 := intC) (c3 := intC) (by kernel_rfl) rfl rfl rfl rfl (by kernel_rfl) (by kernel_rfl) (by kernel_rfl) (by kernel_rfl) (reads_int Try.underlying3) (reads_str Try.underlying9) (reads_int Try.underlying3) (reads_int Try.underlying3)).imp fun w cs a h => by
  obtain ⟨a0, a1, a2, a3⟩ := a
  obtain ⟨h0, h1, h2, h3⟩ := h
  obtain ⟨e0, b0⟩ := h0
  obtain ⟨e1, b1⟩ := h1
  obtain ⟨e2, b2⟩ := h2
  obtain ⟨e3, b3⟩ := h3
  have e102 := cells_split e2 e3
  have e101 := cells_split e1 e102
  have e100 := cells_split e0 e101
  exact ⟨⟨a0, a1, a2, a3⟩, ⟨by rw [e100]; rfl, b0, b1, b2, b3⟩, Nat.le_refl _⟩
theorem reads_units : Reads Try.prog (sliceC unitC) 23 := reads_slice Try.underlying23 (c := unitC) (by kernel_rfl) (by decide) reads_unit
def rigC : Cod RigD where
 size := 2
 is := fun w cs x => ∃ v0 v1 : Value, cs = [v0, v1] ∧ (sliceC profileC).is w [v0] x.library ∧ (sliceC unitC).is w [v1] x.units
 len := fun h => by obtain ⟨v0, v1, rfl, _⟩ := h; rfl
 mono := fun {w w' cs x} h g => by obtain ⟨v0, v1, e, h0, h1⟩ := h; exact ⟨v0, v1, e, ((sliceC profileC)).mono h0 g, ((sliceC unitC)).mono h1 g⟩
 bulk := fun x => (sliceC profileC).bulk x.library + ((sliceC unitC).bulk x.units)
theorem reads_rig : Reads Try.prog rigC 25 :=
 (reads_struct2 (F := fun _ => True) Try.underlying25 (c0 := (sliceC profileC)) (c1 := (sliceC unitC)) (by kernel_rfl) rfl rfl (by kernel_rfl) (by kernel_rfl) reads_profiles reads_units).imp fun w cs a h => by
  obtain ⟨a0, a1⟩ := a
  obtain ⟨h0, h1⟩ := h
  obtain ⟨s0, e0⟩ := List.length_eq_one_iff.1 (((sliceC profileC)).len h0); rw [e0] at h0
  obtain ⟨s1, e1⟩ := List.length_eq_one_iff.1 (((sliceC unitC)).len h1); rw [e1] at h1
  have e100 := cells_split e0 e1
  exact ⟨⟨a0, a1⟩, ⟨s0, s1, by rw [e100]; rfl, h0, h1⟩, Nat.le_refl _⟩
def keyC : Cod KeyD where
 size := 2
 is := fun w cs x => cs = [.int .i64 x.unit, .string x.param] ∧ inI x.unit ∧ x.param.size ≤ maxLen
 len := fun h => by obtain ⟨rfl, _⟩ := h; rfl
 mono := fun h _ => h
 bulk := fun x => intC.bulk x.unit + (strC.bulk x.param)
theorem reads_key : Reads Try.prog keyC 91 :=
 (reads_struct2 (F := fun _ => True) Try.underlying91 (c0 := intC) (c1 := strC) (by kernel_rfl) rfl rfl (by kernel_rfl) (by kernel_rfl) (reads_int Try.underlying3) (reads_str Try.underlying9)).imp fun w cs a h => by
  obtain ⟨a0, a1⟩ := a
  obtain ⟨h0, h1⟩ := h
  obtain ⟨e0, b0⟩ := h0
  obtain ⟨e1, b1⟩ := h1
  have e100 := cells_split e0 e1
  exact ⟨⟨a0, a1⟩, ⟨by rw [e100]; rfl, b0, b1⟩, Nat.le_refl _⟩
def settingC : Cod SettingD where
 size := 3
 is := fun w cs x => cs = [.int .i64 x.key.unit, .string x.key.param, .int .i64 x.level] ∧ inI x.key.unit ∧ x.key.param.size ≤ maxLen ∧ inI x.level
 len := fun h => by obtain ⟨rfl, _⟩ := h; rfl
 mono := fun h _ => h
 bulk := fun x => keyC.bulk x.key + (intC.bulk x.level)
theorem reads_setting : Reads Try.prog settingC 93 :=
 (reads_struct2 (F := fun _ => True) Try.underlying93 (c0 := keyC) (c1 := intC) (by kernel_rfl) rfl rfl (by kernel_rfl) (by kernel_rfl) reads_key (reads_int Try.underlying3)).imp fun w cs a h => by
  obtain ⟨a0, a1⟩ := a
  obtain ⟨h0, h1⟩ := h
  obtain ⟨e0, b0⟩ := h0
  obtain ⟨b0_0, b0_1⟩ := b0
  obtain ⟨e1, b1⟩ := h1
  have e100 := cells_split e0 e1
  exact ⟨⟨a0, a1⟩, ⟨by rw [e100]; rfl, b0_0, b0_1, b1⟩, Nat.le_refl _⟩
theorem reads_settings : Reads Try.prog (sliceC settingC) 86 := reads_slice Try.underlying86 (c := settingC) (by kernel_rfl) (by decide) reads_setting
def presetC : Cod PresetD where
 size := 3
 is := fun w cs x => ∃ v0 : Value, cs = [.int .i64 x.number, .string x.title, v0] ∧ inI x.number ∧ x.title.size ≤ maxLen ∧ (sliceC settingC).is w [v0] x.settings
 len := fun h => by obtain ⟨v0, rfl, _⟩ := h; rfl
 mono := fun {w w' cs x} h g => by obtain ⟨v0, e, h0, h1, h2⟩ := h; exact ⟨v0, e, h0, h1, ((sliceC settingC)).mono h2 g⟩
 bulk := fun x => intC.bulk x.number + (strC.bulk x.title + ((sliceC settingC).bulk x.settings))
theorem reads_preset : Reads Try.prog presetC 88 :=
 (reads_struct3 (F := fun _ => True) Try.underlying88 (c0 := intC) (c1 := strC) (c2 := (sliceC settingC)) (by kernel_rfl) rfl rfl rfl (by kernel_rfl) (by kernel_rfl) (by kernel_rfl) (reads_int Try.underlying3) (reads_str Try.underlying9) reads_settings).imp fun w cs a h => by
  obtain ⟨a0, a1, a2⟩ := a
  obtain ⟨h0, h1, h2⟩ := h
  obtain ⟨e0, b0⟩ := h0
  obtain ⟨e1, b1⟩ := h1
  obtain ⟨s2, e2⟩ := List.length_eq_one_iff.1 (((sliceC settingC)).len h2); rw [e2] at h2
  have e101 := cells_split e1 e2
  have e100 := cells_split e0 e101
  exact ⟨⟨a0, a1, a2⟩, ⟨s2, by rw [e100]; rfl, b0, b1, h2⟩, Nat.le_refl _⟩
theorem reads_presets : Reads Try.prog (sliceC presetC) 26 := reads_slice Try.underlying26 (c := presetC) (by kernel_rfl) (by decide) reads_preset
def valueC : Cod ValueD where
 size := 2
 is := fun w cs x => cs = [.int .i64 x.level, .int .i64 x.preset] ∧ inI x.level ∧ inI x.preset
 len := fun h => by obtain ⟨rfl, _⟩ := h; rfl
 mono := fun h _ => h
 bulk := fun x => intC.bulk x.level + (intC.bulk x.preset)
theorem reads_value : Reads Try.prog valueC 103 :=
 (reads_struct2 (F := fun _ => True) Try.underlying103 (c0 := intC) (c1 := intC) (by kernel_rfl) rfl rfl (by kernel_rfl) (by kernel_rfl) (reads_int Try.underlying3) (reads_int Try.underlying3)).imp fun w cs a h => by
  obtain ⟨a0, a1⟩ := a
  obtain ⟨h0, h1⟩ := h
  obtain ⟨e0, b0⟩ := h0
  obtain ⟨e1, b1⟩ := h1
  have e100 := cells_split e0 e1
  exact ⟨⟨a0, a1⟩, ⟨by rw [e100]; rfl, b0, b1⟩, Nat.le_refl _⟩
def moveC : Cod MoveD where
 size := 8
 is := fun w cs x => cs = [.int .i64 x.key.unit, .string x.key.param, .int .i64 x.value.level, .int .i64 x.value.preset, .bool x.release, .bool x.timed, .int .i64 x.delay, .int .i64 x.time] ∧ inI x.key.unit ∧ x.key.param.size ≤ maxLen ∧ inI x.value.level ∧ inI x.value.preset ∧ inI x.delay ∧ inI x.time
 len := fun h => by obtain ⟨rfl, _⟩ := h; rfl
 mono := fun h _ => h
 bulk := fun x => keyC.bulk x.key + (valueC.bulk x.value + (boolC.bulk x.release + (boolC.bulk x.timed + (intC.bulk x.delay + (intC.bulk x.time)))))
theorem reads_move : Reads Try.prog moveC 105 :=
 (reads_struct6 (F := fun _ => True) Try.underlying105 (c0 := keyC) (c1 := valueC) (c2 := boolC) (c3 := boolC) (c4 := intC) (c5 := intC) (by kernel_rfl) rfl rfl rfl rfl rfl rfl (by kernel_rfl) (by kernel_rfl) (by kernel_rfl) (by kernel_rfl) (by kernel_rfl) (by kernel_rfl) reads_key reads_value (reads_bool Try.underlying4) (reads_bool Try.underlying4) (reads_int Try.underlying3) (reads_int Try.underlying3)).imp fun w cs a h => by
  obtain ⟨a0, a1, a2, a3, a4, a5⟩ := a
  obtain ⟨h0, h1, h2, h3, h4, h5⟩ := h
  obtain ⟨e0, b0⟩ := h0
  obtain ⟨b0_0, b0_1⟩ := b0
  obtain ⟨e1, b1⟩ := h1
  obtain ⟨b1_0, b1_1⟩ := b1
  have e2 := h2; simp only [boolC] at e2
  have e3 := h3; simp only [boolC] at e3
  obtain ⟨e4, b4⟩ := h4
  obtain ⟨e5, b5⟩ := h5
  have e104 := cells_split e4 e5
  have e103 := cells_split e3 e104
  have e102 := cells_split e2 e103
  have e101 := cells_split e1 e102
  have e100 := cells_split e0 e101
  exact ⟨⟨a0, a1, a2, a3, a4, a5⟩, ⟨by rw [e100]; rfl, b0_0, b0_1, b1_0, b1_1, b4, b5⟩, Nat.le_refl _⟩
theorem reads_moves : Reads Try.prog (sliceC moveC) 65 := reads_slice Try.underlying65 (c := moveC) (by kernel_rfl) (by decide) reads_move
def cueC : Cod CueD where
 size := 11
 is := fun w cs x => ∃ v0 v1 : Value, cs = [.int .i64 x.number, .string x.title, .int .i64 x.delay, .int .i64 x.up, .int .i64 x.down, .int .i64 x.other, .int .i64 x.curve.kind, v0, .bool x.block, .int .i64 x.follow, v1] ∧ inI x.number ∧ x.title.size ≤ maxLen ∧ inI x.delay ∧ inI x.up ∧ inI x.down ∧ inI x.other ∧ inI x.curve.kind ∧ (sliceC pointC).is w [v0] x.curve.points ∧ inI x.follow ∧ (sliceC moveC).is w [v1] x.moves
 len := fun h => by obtain ⟨v0, v1, rfl, _⟩ := h; rfl
 mono := fun {w w' cs x} h g => by obtain ⟨v0, v1, e, h0, h1, h2, h3, h4, h5, h6, h7, h8, h9⟩ := h; exact ⟨v0, v1, e, h0, h1, h2, h3, h4, h5, h6, ((sliceC pointC)).mono h7 g, h8, ((sliceC moveC)).mono h9 g⟩
 bulk := fun x => intC.bulk x.number + (strC.bulk x.title + (intC.bulk x.delay + (intC.bulk x.up + (intC.bulk x.down + (intC.bulk x.other + (curveC.bulk x.curve + (boolC.bulk x.block + (intC.bulk x.follow + ((sliceC moveC).bulk x.moves)))))))))
theorem reads_cue : Reads Try.prog cueC 67 :=
 (reads_struct10 (F := fun _ => True) Try.underlying67 (c0 := intC) (c1 := strC) (c2 := intC) (c3 := intC) (c4 := intC) (c5 := intC) (c6 := curveC) (c7 := boolC) (c8 := intC) (c9 := (sliceC moveC)) (by kernel_rfl) rfl rfl rfl rfl rfl rfl rfl rfl rfl rfl (by kernel_rfl) (by kernel_rfl) (by kernel_rfl) (by kernel_rfl) (by kernel_rfl) (by kernel_rfl) (by kernel_rfl) (by kernel_rfl) (by kernel_rfl) (by kernel_rfl) (reads_int Try.underlying3) (reads_str Try.underlying9) (reads_int Try.underlying3) (reads_int Try.underlying3) (reads_int Try.underlying3) (reads_int Try.underlying3) reads_curve (reads_bool Try.underlying4) (reads_int Try.underlying3) reads_moves).imp fun w cs a h => by
  obtain ⟨a0, a1, a2, a3, a4, a5, a6, a7, a8, a9⟩ := a
  obtain ⟨h0, h1, h2, h3, h4, h5, h6, h7, h8, h9⟩ := h
  obtain ⟨e0, b0⟩ := h0
  obtain ⟨e1, b1⟩ := h1
  obtain ⟨e2, b2⟩ := h2
  obtain ⟨e3, b3⟩ := h3
  obtain ⟨e4, b4⟩ := h4
  obtain ⟨e5, b5⟩ := h5
  obtain ⟨s6_0, e6, b6⟩ := h6
  obtain ⟨b6_0, b6_1⟩ := b6
  have e7 := h7; simp only [boolC] at e7
  obtain ⟨e8, b8⟩ := h8
  obtain ⟨s9, e9⟩ := List.length_eq_one_iff.1 (((sliceC moveC)).len h9); rw [e9] at h9
  have e108 := cells_split e8 e9
  have e107 := cells_split e7 e108
  have e106 := cells_split e6 e107
  have e105 := cells_split e5 e106
  have e104 := cells_split e4 e105
  have e103 := cells_split e3 e104
  have e102 := cells_split e2 e103
  have e101 := cells_split e1 e102
  have e100 := cells_split e0 e101
  exact ⟨⟨a0, a1, a2, a3, a4, a5, a6, a7, a8, a9⟩, ⟨s6_0, s9, by rw [e100]; rfl, b0, b1, b2, b3, b4, b5, b6_0, b6_1, b8, h9⟩, Nat.le_refl _⟩
theorem reads_cues : Reads Try.prog (sliceC cueC) 61 := reads_slice Try.underlying61 (c := cueC) (by kernel_rfl) (by decide) reads_cue
def listC : Cod ListD where
 size := 2
 is := fun w cs x => ∃ v0 : Value, cs = [.int .i64 x.number, v0] ∧ inI x.number ∧ (sliceC cueC).is w [v0] x.cues
 len := fun h => by obtain ⟨v0, rfl, _⟩ := h; rfl
 mono := fun {w w' cs x} h g => by obtain ⟨v0, e, h0, h1⟩ := h; exact ⟨v0, e, h0, ((sliceC cueC)).mono h1 g⟩
 bulk := fun x => intC.bulk x.number + ((sliceC cueC).bulk x.cues)
theorem reads_list : Reads Try.prog listC 72 :=
 (reads_struct2 (F := fun _ => True) Try.underlying72 (c0 := intC) (c1 := (sliceC cueC)) (by kernel_rfl) rfl rfl (by kernel_rfl) (by kernel_rfl) (reads_int Try.underlying3) reads_cues).imp fun w cs a h => by
  obtain ⟨a0, a1⟩ := a
  obtain ⟨h0, h1⟩ := h
  obtain ⟨e0, b0⟩ := h0
  obtain ⟨s1, e1⟩ := List.length_eq_one_iff.1 (((sliceC cueC)).len h1); rw [e1] at h1
  have e100 := cells_split e0 e1
  exact ⟨⟨a0, a1⟩, ⟨s1, by rw [e100]; rfl, b0, h1⟩, Nat.le_refl _⟩
theorem reads_lists : Reads Try.prog (sliceC listC) 27 := reads_slice Try.underlying27 (c := listC) (by kernel_rfl) (by decide) reads_list
def playbackC : Cod PlaybackD where
 size := 3
 is := fun w cs x => cs = [.int .i64 x.number, .int .i64 x.list, .int .i64 x.priority] ∧ inI x.number ∧ inI x.list ∧ inI x.priority
 len := fun h => by obtain ⟨rfl, _⟩ := h; rfl
 mono := fun h _ => h
 bulk := fun x => intC.bulk x.number + (intC.bulk x.list + (intC.bulk x.priority))
theorem reads_playback : Reads Try.prog playbackC 75 :=
 (reads_struct3 (F := fun _ => True) Try.underlying75 (c0 := intC) (c1 := intC) (c2 := intC) (by kernel_rfl) rfl rfl rfl (by kernel_rfl) (by kernel_rfl) (by kernel_rfl) (reads_int Try.underlying3) (reads_int Try.underlying3) (reads_int Try.underlying3)).imp fun w cs a h => by
  obtain ⟨a0, a1, a2⟩ := a
  obtain ⟨h0, h1, h2⟩ := h
  obtain ⟨e0, b0⟩ := h0
  obtain ⟨e1, b1⟩ := h1
  obtain ⟨e2, b2⟩ := h2
  have e101 := cells_split e1 e2
  have e100 := cells_split e0 e101
  exact ⟨⟨a0, a1, a2⟩, ⟨by rw [e100]; rfl, b0, b1, b2⟩, Nat.le_refl _⟩
theorem reads_playbacks : Reads Try.prog (sliceC playbackC) 28 := reads_slice Try.underlying28 (c := playbackC) (by kernel_rfl) (by decide) reads_playback
def setupC : Cod SetupD where
 size := 5
 is := fun w cs x => ∃ v0 v1 v2 v3 v4 : Value, cs = [v0, v1, v2, v3, v4] ∧ (sliceC profileC).is w [v0] x.rig.library ∧ (sliceC unitC).is w [v1] x.rig.units ∧ (sliceC presetC).is w [v2] x.presets ∧ (sliceC listC).is w [v3] x.lists ∧ (sliceC playbackC).is w [v4] x.playbacks
 len := fun h => by obtain ⟨v0, v1, v2, v3, v4, rfl, _⟩ := h; rfl
 mono := fun {w w' cs x} h g => by obtain ⟨v0, v1, v2, v3, v4, e, h0, h1, h2, h3, h4⟩ := h; exact ⟨v0, v1, v2, v3, v4, e, ((sliceC profileC)).mono h0 g, ((sliceC unitC)).mono h1 g, ((sliceC presetC)).mono h2 g, ((sliceC listC)).mono h3 g, ((sliceC playbackC)).mono h4 g⟩
 bulk := fun x => rigC.bulk x.rig + ((sliceC presetC).bulk x.presets + ((sliceC listC).bulk x.lists + ((sliceC playbackC).bulk x.playbacks)))
theorem reads_setup : Reads Try.prog setupC 30 :=
 (reads_struct4 (F := fun _ => True) Try.underlying30 (c0 := rigC) (c1 := (sliceC presetC)) (c2 := (sliceC listC)) (c3 := (sliceC playbackC)) (by kernel_rfl) rfl rfl rfl rfl (by kernel_rfl) (by kernel_rfl) (by kernel_rfl) (by kernel_rfl) reads_rig reads_presets reads_lists reads_playbacks).imp fun w cs a h => by
  obtain ⟨a0, a1, a2, a3⟩ := a
  obtain ⟨h0, h1, h2, h3⟩ := h
  obtain ⟨s0_0, s0_1, e0, b0⟩ := h0
  obtain ⟨b0_0, b0_1⟩ := b0
  obtain ⟨s1, e1⟩ := List.length_eq_one_iff.1 (((sliceC presetC)).len h1); rw [e1] at h1
  obtain ⟨s2, e2⟩ := List.length_eq_one_iff.1 (((sliceC listC)).len h2); rw [e2] at h2
  obtain ⟨s3, e3⟩ := List.length_eq_one_iff.1 (((sliceC playbackC)).len h3); rw [e3] at h3
  have e102 := cells_split e2 e3
  have e101 := cells_split e1 e102
  have e100 := cells_split e0 e101
  exact ⟨⟨a0, a1, a2, a3⟩, ⟨s0_0, s0_1, s1, s2, s3, by rw [e100]; rfl, b0_0, b0_1, h1, h2, h3⟩, Nat.le_refl _⟩
def actionC : Cod ActionD where
 size := 5
 is := fun w cs x => cs = [.int .i64 x.time, .int .i64 x.kind, .int .i64 x.playback, .int .i64 x.cue, .int .i64 x.level] ∧ inI x.time ∧ inI x.kind ∧ inI x.playback ∧ inI x.cue ∧ inI x.level
 len := fun h => by obtain ⟨rfl, _⟩ := h; rfl
 mono := fun h _ => h
 bulk := fun x => intC.bulk x.time + (intC.bulk x.kind + (intC.bulk x.playback + (intC.bulk x.cue + (intC.bulk x.level))))
theorem reads_action : Reads Try.prog actionC 37 :=
 (reads_struct5 (F := fun _ => True) Try.underlying37 (c0 := intC) (c1 := intC) (c2 := intC) (c3 := intC) (c4 := intC) (by kernel_rfl) rfl rfl rfl rfl rfl (by kernel_rfl) (by kernel_rfl) (by kernel_rfl) (by kernel_rfl) (by kernel_rfl) (reads_int Try.underlying3) (reads_int Try.underlying3) (reads_int Try.underlying3) (reads_int Try.underlying3) (reads_int Try.underlying3)).imp fun w cs a h => by
  obtain ⟨a0, a1, a2, a3, a4⟩ := a
  obtain ⟨h0, h1, h2, h3, h4⟩ := h
  obtain ⟨e0, b0⟩ := h0
  obtain ⟨e1, b1⟩ := h1
  obtain ⟨e2, b2⟩ := h2
  obtain ⟨e3, b3⟩ := h3
  obtain ⟨e4, b4⟩ := h4
  have e103 := cells_split e3 e4
  have e102 := cells_split e2 e103
  have e101 := cells_split e1 e102
  have e100 := cells_split e0 e101
  exact ⟨⟨a0, a1, a2, a3, a4⟩, ⟨by rw [e100]; rfl, b0, b1, b2, b3, b4⟩, Nat.le_refl _⟩
def eventC : Cod EventD where
 size := 6
 is := fun w cs x => cs = [.int .i64 x.att, .int .i64 x.action.time, .int .i64 x.action.kind, .int .i64 x.action.playback, .int .i64 x.action.cue, .int .i64 x.action.level] ∧ inI x.att ∧ inI x.action.time ∧ inI x.action.kind ∧ inI x.action.playback ∧ inI x.action.cue ∧ inI x.action.level
 len := fun h => by obtain ⟨rfl, _⟩ := h; rfl
 mono := fun h _ => h
 bulk := fun x => intC.bulk x.att + (actionC.bulk x.action)
theorem reads_event : Reads Try.prog eventC 39 :=
 (reads_struct2 (F := fun _ => True) Try.underlying39 (c0 := intC) (c1 := actionC) (by kernel_rfl) rfl rfl (by kernel_rfl) (by kernel_rfl) (reads_int Try.underlying3) reads_action).imp fun w cs a h => by
  obtain ⟨a0, a1⟩ := a
  obtain ⟨h0, h1⟩ := h
  obtain ⟨e0, b0⟩ := h0
  obtain ⟨e1, b1⟩ := h1
  obtain ⟨b1_0, b1_1, b1_2, b1_3, b1_4⟩ := b1
  have e100 := cells_split e0 e1
  exact ⟨⟨a0, a1⟩, ⟨by rw [e100]; rfl, b0, b1_0, b1_1, b1_2, b1_3, b1_4⟩, Nat.le_refl _⟩
theorem reads_events : Reads Try.prog (sliceC eventC) 31 := reads_slice Try.underlying31 (c := eventC) (by kernel_rfl) (by decide) reads_event
end Go.Proofs.Ytohbeolimnpehaa

namespace Go.Proofs.Ytohbeolimnpehaa
set_option linter.unusedSectionVars false
open Go.RowKit Go.Deep
set_option linter.unusedVariables false
set_option linter.unusedSimpArgs false
section
variable {c : RC}
theorem repL_nil : RepL c [] [] := by simp [RepL]
theorem repL_cons {a : AV} {v : Value} {l : List AV} {vs : List Value} (h : Rep c a v) (k : RepL c l vs) : RepL c (a :: l) (v :: vs) := by
 simp only [RepL]; exact ⟨v, vs, rfl, h, k⟩
theorem rep_int (k : IntKind) (n : Int) : Rep c (.int k n) (.int k n) := by simp [Rep]
theorem rep_bool (b : Bool) : Rep c (.bool b) (.bool b) := by simp [Rep]
theorem rep_str (s : ByteArray) : Rep c (.str s) (.string s) := by simp [Rep]
def RP {α : Type} (c : RC) (d : Cod α) (e : α → List AV) (ok : α → Prop) : Prop := ∀ cs x, d.is c.w cs x → RepL c (e x) cs ∧ ok x ∧ (∀ v ∈ cs, one1 v = true)
theorem repL_len : ∀ {l : List AV} {vs : List Value}, RepL c l vs → l.length = vs.length
 | [], vs, h => by simp only [RepL] at h; subst h; rfl
 | a :: l, vs, h => by
  simp only [RepL] at h
  obtain ⟨v, vs', rfl, _, h⟩ := h
  simp [repL_len h]
theorem repCs_of {b : Nat} : ∀ {l : List AV} {vs : List Value} {off : Nat}, RepL c l vs → (∀ v ∈ vs, one1 v = true) → (∀ j, j < vs.length → c.w.cell? ⟨b, off + j, none⟩ = vs[j]?) → RepCs c b off l
 | [], vs, off, h, _, _ => by simp [RepCs]
 | a :: l, vs, off, h, ho, hc => by
  simp only [RepL] at h
  obtain ⟨v, vs', rfl, h1, h2⟩ := h
  simp only [RepCs]
  refine ⟨⟨v, by simpa using hc 0 (by simp), ho v (by simp), h1⟩, repCs_of h2 (fun v hv => ho v (by simp [hv])) fun j hj => ?_⟩
  have := hc (j + 1) (by simpa using hj)
  rw [show off + 1 + j = off + (j + 1) by omega]
  simpa using this
theorem repEs_of {α : Type} {d : Cod α} {e : α → List AV} {ok : α → Prop} (H : RP c d e ok) {b sz : Nat} (hsz : d.size = sz) : ∀ {l : List α} {off : Nat}, (∀ (i : Nat) (x : α), l[i]? = some x → ∃ cs', (∀ j, j < d.size → c.w.cell? ⟨b, off + (i * d.size + j), none⟩ = cs'[j]?) ∧ d.is c.w cs' x) → RepEs c sz b off (l.map e) ∧ ∀ x ∈ l, ok x
 | [], off, h => by simp [RepEs]
 | x :: l, off, h => by
  obtain ⟨cs, h1, h2⟩ := h 0 x rfl
  obtain ⟨k1, k2, k3⟩ := H cs x h2
  have hl : cs.length = d.size := d.len h2
  obtain ⟨r1, r2⟩ := repEs_of H hsz (l := l) (off := off + sz) (fun i y hy => by
   obtain ⟨cs', q1, q2⟩ := h (i + 1) y (by simpa using hy)
   refine ⟨cs', fun j hj => ?_, q2⟩
   have := q1 j hj
   rw [← hsz]
   rwa [show off + d.size + (i * d.size + j) = off + ((i + 1) * d.size + j) by rw [Nat.succ_mul]; omega])
  refine ⟨?_, fun y hy => ?_⟩
  ·simp only [List.map_cons, RepEs]
   refine ⟨by rw [repL_len k1, hl, hsz], repCs_of k1 k3 fun j hj => ?_, r1⟩
   have := h1 j (by rw [← hl]; exact hj)
   simpa using this
  ·rcases List.mem_cons.1 hy with rfl | hy
   ·exact k2
   ·exact r2 y hy
theorem cell_in {w : World} {b off : Nat} {v : Value} (h : w.cell? ⟨b, off, none⟩ = some v) : b < w.heap.size := by
 rcases Nat.lt_or_ge b w.heap.size with k | k
 ·exact k
 ·simp [World.cell?, Array.getElem?_eq_none k] at h
theorem rp_slice {α : Type} {d : Cod α} {e : α → List AV} {ok : α → Prop} (hX : ∀ b, ¬ c.X b) (H : RP c d e ok) {sz : Nat} (hsz : d.size = sz) (h0 : 0 < sz) {v : Value} {l : List α} (h : (sliceC d).is c.w [v] l) : Rep c (sl sz e l) v ∧ okL ok l ∧ one1 v = true := by
 rcases h with ⟨h1, rfl⟩ | ⟨b, off, sp, cap, h1, h2, h3, h4⟩
 ·simp only [List.cons.injEq, and_true] at h1
  subst h1
  exact ⟨by simp [sl, Rep, h0], ⟨by simp, by simp⟩, rfl⟩
 ·simp only [List.cons.injEq, and_true] at h1
  subst h1
  have hes : sp = none ∨ l = [] := by
   cases l with
   | nil => exact .inr rfl
   | cons x l => exact .inl (h4 0 (by simp)).1
  have hh : ∀ (i : Nat) (x : α), l[i]? = some x → ∃ cs', (∀ j, j < d.size → c.w.cell? ⟨b, off + (i * d.size + j), none⟩ = cs'[j]?) ∧ d.is c.w cs' x := by
   intro i x hx
   obtain ⟨hi, hx⟩ := List.getElem?_eq_some_iff.1 hx
   subst hx
   exact (h4 i hi).2
  obtain ⟨r1, r2⟩ := repEs_of H hsz hh
  refine ⟨?_, ⟨by unfold maxLen at h3; unfold mxl; omega, r2⟩, rfl⟩
  simp only [sl, Rep]
  refine ⟨some ⟨b, off, sp⟩, cap, by simp, by simpa using h2, h0, ?_⟩
  rcases hes with rfl | rfl
  ·cases l with
   | nil => exact .inl rfl
   | cons x l =>
    refine .inr ⟨b, off, rfl, ?_, hX b, r1⟩
    obtain ⟨cs, q1, q2⟩ := hh 0 x rfl
    have hl : cs.length = d.size := d.len q2
    have := q1 0 (by omega)
    obtain ⟨y, hy⟩ : ∃ y, cs[0]? = some y := ⟨cs[0], List.getElem?_eq_getElem (by omega)⟩
    rw [hy] at this
    exact cell_in this
  ·exact .inl rfl
theorem one_nil : ∀ v ∈ ([] : List Value), one1 v = true := by simp
theorem one_cons {v : Value} {vs : List Value} (h : one1 v = true) (k : ∀ x ∈ vs, one1 x = true) : ∀ x ∈ v :: vs, one1 x = true := by
 intro x hx
 rcases List.mem_cons.1 hx with rfl | hx
 ·exact h
 ·exact k x hx
theorem rp_Point : RP c pointC cPoint okPoint := by
 rintro cs x ⟨rfl, h0, h1⟩
 exact ⟨(repL_cons (rep_int _ _) (repL_cons (rep_int _ _) repL_nil)), ⟨h0, h1⟩, (one_cons rfl (one_cons rfl one_nil))⟩
theorem rp_Range : RP c rangeC cRange okRange := by
 rintro cs x ⟨rfl, h0, h1, h2⟩
 exact ⟨(repL_cons (rep_int _ _) (repL_cons (rep_int _ _) (repL_cons (rep_str _) repL_nil))), ⟨h0, h1, (show okS _ by unfold okS mxl; have := h2; unfold maxLen at this; omega)⟩, (one_cons rfl (one_cons rfl (one_cons rfl one_nil)))⟩
theorem rp_Param (hX : ∀ b, ¬ c.X b) : RP c paramC cParam okParam := by
 rintro cs x ⟨v0, rfl, h0, h1, h2, h3, h4, h6⟩
 obtain ⟨r6, o6, n6⟩ := rp_slice hX rp_Range (sz := 3) rfl (by decide) h6
 exact ⟨(repL_cons (rep_str _) (repL_cons (rep_int _ _) (repL_cons (rep_int _ _) (repL_cons (rep_int _ _) (repL_cons (rep_int _ _) (repL_cons (rep_bool _) (repL_cons r6 repL_nil))))))), ⟨(show okS _ by unfold okS mxl; have := h0; unfold maxLen at this; omega), h1, h2, h3, h4, o6⟩, (one_cons rfl (one_cons rfl (one_cons rfl (one_cons rfl (one_cons rfl (one_cons rfl (one_cons n6 one_nil)))))))⟩
theorem rp_Profile (hX : ∀ b, ¬ c.X b) : RP c profileC cProfile okProfile := by
 rintro cs x ⟨v0, rfl, h0, h1, h2⟩
 obtain ⟨r2, o2, n2⟩ := rp_slice hX (rp_Param hX) (sz := 7) rfl (by decide) h2
 exact ⟨(repL_cons (rep_str _) (repL_cons (rep_int _ _) (repL_cons r2 repL_nil))), ⟨(show okS _ by unfold okS mxl; have := h0; unfold maxLen at this; omega), h1, o2⟩, (one_cons rfl (one_cons rfl (one_cons n2 one_nil)))⟩
theorem rp_Unit : RP c unitC cUnit okUnit := by
 rintro cs x ⟨rfl, h0, h1, h2, h3⟩
 exact ⟨(repL_cons (rep_int _ _) (repL_cons (rep_str _) (repL_cons (rep_int _ _) (repL_cons (rep_int _ _) repL_nil)))), ⟨h0, (show okS _ by unfold okS mxl; have := h1; unfold maxLen at this; omega), h2, h3⟩, (one_cons rfl (one_cons rfl (one_cons rfl (one_cons rfl one_nil))))⟩
theorem rp_Setting : RP c settingC cSetting okSetting := by
 rintro cs x ⟨rfl, h0, h1, h2⟩
 exact ⟨(repL_cons (rep_int _ _) (repL_cons (rep_str _) (repL_cons (rep_int _ _) repL_nil))), ⟨⟨h0, (show okS _ by unfold okS mxl; have := h1; unfold maxLen at this; omega)⟩, h2⟩, (one_cons rfl (one_cons rfl (one_cons rfl one_nil)))⟩
theorem rp_Preset (hX : ∀ b, ¬ c.X b) : RP c presetC cPreset okPreset := by
 rintro cs x ⟨v0, rfl, h0, h1, h2⟩
 obtain ⟨r2, o2, n2⟩ := rp_slice hX rp_Setting (sz := 3) rfl (by decide) h2
 exact ⟨(repL_cons (rep_int _ _) (repL_cons (rep_str _) (repL_cons r2 repL_nil))), ⟨h0, (show okS _ by unfold okS mxl; have := h1; unfold maxLen at this; omega), o2⟩, (one_cons rfl (one_cons rfl (one_cons n2 one_nil)))⟩
theorem rp_Move : RP c moveC cMove okMove := by
 rintro cs x ⟨rfl, h0, h1, h2, h3, h6, h7⟩
 exact ⟨(repL_cons (rep_int _ _) (repL_cons (rep_str _) (repL_cons (rep_int _ _) (repL_cons (rep_int _ _) (repL_cons (rep_bool _) (repL_cons (rep_bool _) (repL_cons (rep_int _ _) (repL_cons (rep_int _ _) repL_nil)))))))), ⟨⟨h0, (show okS _ by unfold okS mxl; have := h1; unfold maxLen at this; omega)⟩, ⟨h2, h3⟩, h6, h7⟩, (one_cons rfl (one_cons rfl (one_cons rfl (one_cons rfl (one_cons rfl (one_cons rfl (one_cons rfl (one_cons rfl one_nil))))))))⟩
theorem rp_Cue (hX : ∀ b, ¬ c.X b) : RP c cueC cCue okCue := by
 rintro cs x ⟨v0, v1, rfl, h0, h1, h2, h3, h4, h5, h6, h7, h9, h10⟩
 obtain ⟨r7, o7, n7⟩ := rp_slice hX rp_Point (sz := 2) rfl (by decide) h7
 obtain ⟨r10, o10, n10⟩ := rp_slice hX rp_Move (sz := 8) rfl (by decide) h10
 exact ⟨(repL_cons (rep_int _ _) (repL_cons (rep_str _) (repL_cons (rep_int _ _) (repL_cons (rep_int _ _) (repL_cons (rep_int _ _) (repL_cons (rep_int _ _) (repL_cons (rep_int _ _) (repL_cons r7 (repL_cons (rep_bool _) (repL_cons (rep_int _ _) (repL_cons r10 repL_nil))))))))))), ⟨h0, (show okS _ by unfold okS mxl; have := h1; unfold maxLen at this; omega), h2, h3, h4, h5, ⟨h6, o7⟩, h9, o10⟩, (one_cons rfl (one_cons rfl (one_cons rfl (one_cons rfl (one_cons rfl (one_cons rfl (one_cons rfl (one_cons n7 (one_cons rfl (one_cons rfl (one_cons n10 one_nil)))))))))))⟩
theorem rp_List (hX : ∀ b, ¬ c.X b) : RP c listC cList okList := by
 rintro cs x ⟨v0, rfl, h0, h1⟩
 obtain ⟨r1, o1, n1⟩ := rp_slice hX (rp_Cue hX) (sz := 11) rfl (by decide) h1
 exact ⟨(repL_cons (rep_int _ _) (repL_cons r1 repL_nil)), ⟨h0, o1⟩, (one_cons rfl (one_cons n1 one_nil))⟩
theorem rp_Playback : RP c playbackC cPlayback okPlayback := by
 rintro cs x ⟨rfl, h0, h1, h2⟩
 exact ⟨(repL_cons (rep_int _ _) (repL_cons (rep_int _ _) (repL_cons (rep_int _ _) repL_nil))), ⟨h0, h1, h2⟩, (one_cons rfl (one_cons rfl (one_cons rfl one_nil)))⟩
theorem rp_Setup (hX : ∀ b, ¬ c.X b) : RP c setupC cSetup okSetup := by
 rintro cs x ⟨v0, v1, v2, v3, v4, rfl, h0, h1, h2, h3, h4⟩
 obtain ⟨r0, o0, n0⟩ := rp_slice hX (rp_Profile hX) (sz := 3) rfl (by decide) h0
 obtain ⟨r1, o1, n1⟩ := rp_slice hX rp_Unit (sz := 4) rfl (by decide) h1
 obtain ⟨r2, o2, n2⟩ := rp_slice hX (rp_Preset hX) (sz := 3) rfl (by decide) h2
 obtain ⟨r3, o3, n3⟩ := rp_slice hX (rp_List hX) (sz := 2) rfl (by decide) h3
 obtain ⟨r4, o4, n4⟩ := rp_slice hX rp_Playback (sz := 3) rfl (by decide) h4
 exact ⟨(repL_cons r0 (repL_cons r1 (repL_cons r2 (repL_cons r3 (repL_cons r4 repL_nil))))), ⟨⟨o0, o1⟩, o2, o3, o4⟩, (one_cons n0 (one_cons n1 (one_cons n2 (one_cons n3 (one_cons n4 one_nil)))))⟩
theorem rp_Event : RP c eventC cEvent okEvent := by
 rintro cs x ⟨rfl, h0, h1, h2, h3, h4, h5⟩
 exact ⟨(repL_cons (rep_int _ _) (repL_cons (rep_int _ _) (repL_cons (rep_int _ _) (repL_cons (rep_int _ _) (repL_cons (rep_int _ _) (repL_cons (rep_int _ _) repL_nil)))))), ⟨h0, ⟨h1, h2, h3, h4, h5⟩⟩, (one_cons rfl (one_cons rfl (one_cons rfl (one_cons rfl (one_cons rfl (one_cons rfl one_nil))))))⟩
theorem rp_agg {α : Type} {d : Cod α} {e : α → List AV} {ok : α → Prop} (H : RP c d e ok) {cs : Array Value} {x : α} (h : d.is c.w cs.toList x) : Rep c (.agg (e x)) (.agg cs) ∧ ok x := by
 obtain ⟨h1, h2, h3⟩ := H _ _ h
 simp only [Rep]
 exact ⟨⟨cs, rfl, h1, h3⟩, h2⟩
end
end Go.Proofs.Ytohbeolimnpehaa

namespace Go.Proofs.Ytohbeolimnpehaa
set_option linter.unusedSectionVars false
set_option linter.unusedSimpArgs false
set_option linter.unusedVariables false
open Go.RowKit
noncomputable def base (W : World) : RC := ctx ⟨W, [], fun _ => False, nmT⟩ W [] nopb
theorem base_X (W : World) : ∀ b, ¬ (base W).X b := by
 rintro b (k | ⟨p, hp, _⟩ | ⟨i, k⟩)
 ·exact k
 ·cases hp
 ·cases k
theorem law_run {n : FuncId} {m : List AV → Heap → Option (AV × Heap)} {avs : List AV} (hs : Sound Try.prog nmT n m) (hc : ∀ us w, (callFunc n us).run Try.prog w = .ok (.enter n us) w) (W : World) (vs : Array Value) (hr : RepL (base W) avs vs.toList) (hm : m avs [] = some (.bool true, [])) :
  Calls Try.prog n vs W fun e W' => e = .returned (.bool true) ∧ Below W.heap.size W W' := by
 have hh0 : HeapRel (ctx ⟨W, [], fun _ => False, nmT⟩ W [] nopb) [] := by
  refine ⟨rfl, fun i j p q hp => ?_, fun i p x hp => ?_⟩
  ·simp [ctx] at hp
  ·simp [ctx] at hp
 rcases hs _ _ _ _ hm with ⟨g, h1, h2⟩ | hv
 case inr =>
  obtain ⟨v, w', E', k1, _⟩ := hv ⟨W, [], fun _ => False, nmT⟩ vs rfl (fun b k => k.elim) hh0 hr
  rw [hc] at k1
  injection k1 with k1
  cases k1
 have hg : g = n := by
  have e1 := h1 #[] W
  rw [hc #[] W] at e1
  injection e1 with e1
  injection e1 with e1
  exact e1.symm
 subst hg
 have hh : HeapRel (ctx ⟨W, [], fun _ => False, nmT⟩ W [] nopb) [] := by
  refine ⟨rfl, fun i j p q hp => ?_, fun i p x hp => ?_⟩
  ·simp [ctx] at hp
  ·simp [ctx] at hp
 refine (h2 ⟨W, [], fun _ => False, nmT⟩ vs rfl (fun b k => k.elim) hh hr).mono ?_
 rintro e w' ⟨v, E', rfl, ho, _, hv⟩
 simp only [Rep] at hv
 subst hv
 exact ⟨rfl, ho.os, ho.tape, ho.output, ho.size, fun k hk => ho.stay k hk (fun p hp => by cases hp)⟩
end Go.Proofs.Ytohbeolimnpehaa

