/- Parts of the proof of CueRecordsMatchSpec, in order. -/
import Derived.Orders
import Derived.Below
import Derived.WalkKit
import Derived.Laws.StructEq
import Derived.Laws.Append
import Derived.Laws.AppendOwn
import Derived.Test.YtphgchakmkankaaRows
import Derived.KernelRfl
import Derived.Lib.Bytealg
import Derived.Sort.Defs
import Derived.Lib.BitFns
import Derived.Test.YtphgchakmkankaaShelf
import Derived.Lib.Overlaps
import Derived.IntWalk
import Derived.Lib.Strings
import Derived.WalkSpells
import Derived.ProofKit
import Derived.OpenShut
import Derived.Lib.Hide
import Derived.Lib.SmallJoins
import Derived.Deep.QuietTactic
import Derived.BigQuiet
import Derived.Deep.RegionHeld3
import Derived.Test.YtphgchakmkankaaKCueRecordsMatchSpec4
namespace Go.Proofs.Ytphgchakmkankaa
set_option linter.unusedSectionVars false
set_option linter.unusedVariables false
set_option linter.unusedSimpArgs false
theorem bl_irr : ∀ a : List UInt8, Op.bytesLess a a = false
 | [] => rfl
 | x :: l => by simp [Op.bytesLess, UInt8.lt_irrefl, bl_irr l]
theorem bl_trans : ∀ a b c : List UInt8, Op.bytesLess a b = true → Op.bytesLess b c = true → Op.bytesLess a c = true
 | [], [], c, h, _ => by simp [Op.bytesLess] at h
 | [], _ :: _, [], _, k => by simp [Op.bytesLess] at k
 | [], _ :: _, _ :: _, _, _ => rfl
 | _ :: _, [], c, h, _ => by simp [Op.bytesLess] at h
 | _ :: _, _ :: _, [], _, k => by simp [Op.bytesLess] at k
 | x :: a, y :: b, z :: c, h, k => by
  rw [Op.bytesLess] at h k ⊢
  simp only [Bool.or_eq_true, Bool.and_eq_true, decide_eq_true_eq, beq_iff_eq] at h k ⊢
  rcases h with h | ⟨rfl, h⟩ <;> rcases k with k | ⟨rfl, k⟩
  ·exact .inl (UInt8.lt_trans h k)
  ·exact .inl h
  ·exact .inl k
  ·exact .inr ⟨rfl, bl_trans a b c h k⟩
theorem ltK_irr (a : KeyD) : ltK a a = false := by simp [ltK, bl_irr]
theorem ltK_trans {a b c : KeyD} (h : ltK a b = true) (k : ltK b c = true) : ltK a c = true := by
 simp only [ltK, Bool.or_eq_true, Bool.and_eq_true, decide_eq_true_eq] at h k ⊢
 rcases h with h | ⟨h1, h2⟩ <;> rcases k with k | ⟨k1, k2⟩
 ·left; omega
 ·left; omega
 ·left; omega
 ·right; exact ⟨by omega, bl_trans _ _ _ h2 k2⟩
theorem ltK_tri {a b : KeyD} (h : ltK a b = false) (k : ltK b a = false) : a = b := by
 rw [← cmpK_eq]
 have h1 : ¬ cmpK a b < 0 := fun e => by rw [(cmpK_lt a b).1 e] at h; cases h
 have hba : cmpK b a = - cmpK a b ∨ True := .inr trivial
 -- what is neither smaller nor greater is the same
 unfold cmpK at h1 ⊢
 simp only [ltK, Bool.or_eq_false_iff, Bool.and_eq_false_iff, decide_eq_false_iff_not] at h k
 have hu : a.unit = b.unit := by omega
 simp only [hu, not_true_eq_false, if_false] at h1 ⊢
 have e1 : Op.bytesLess a.param.data.toList b.param.data.toList = false := by
  rcases h.2 with q | q
  ·exact absurd hu q
  ·simpa [toList_d] using q
 have e2 : Op.bytesLess b.param.data.toList a.param.data.toList = false := by
  rcases k.2 with q | q
  ·exact absurd hu.symm q
  ·simpa [toList_d] using q
 rw [cmpB_eq]
 have tri : ∀ x y : List UInt8, Op.bytesLess x y = false → Op.bytesLess y x = false → x = y := by
  intro x
  induction x with
  | nil => intro y p q; cases y with | nil => rfl | cons y l => simp [Op.bytesLess] at p
  | cons x xs ih =>
   intro y p q
   cases y with
   | nil => simp [Op.bytesLess] at q
   | cons y ys =>
    rw [Op.bytesLess] at p q
    by_cases h1 : x < y
    ·simp [h1] at p
    ·by_cases h2 : y < x
     ·simp [h2] at q
     ·have : x = y := UInt8.le_antisymm (UInt8.not_lt.1 h2) (UInt8.not_lt.1 h1)
      subst this
      simp [h1] at p q
      rw [ih ys p q]
 exact tri _ _ e1 e2
def srtM (l : List MoveD) : Prop := l.Pairwise fun a b => ltK a.key b.key = true
def posM (l : List MoveD) (k : KeyD) : Nat := (l.takeWhile fun m => ltK m.key k).length
def hasM (l : List MoveD) (k : KeyD) : Bool := l.any fun m => decide (m.key = k)
theorem posM_le (l : List MoveD) (k : KeyD) : posM l k ≤ l.length := (List.takeWhile_prefix _).length_le
theorem posM_lt {l : List MoveD} {k : KeyD} (h : srtM l) : ∀ {i : Nat} {x : MoveD}, l[i]? = some x → (ltK x.key k = true ↔ i < posM l k) := by
 induction l with
 | nil => intro i x hx; simp at hx
 | cons a l ih =>
  intro i x hx
  have hs := List.pairwise_cons.1 h
  unfold posM
  rw [List.takeWhile_cons]
  cases ha : ltK a.key k
  ·simp only [Bool.false_eq_true, if_false, List.length_nil, Nat.not_lt_zero, iff_false, Bool.not_eq_true]
   cases i with
   | zero => simp at hx; subst hx; exact ha
   | succ i =>
    simp only [List.getElem?_cons_succ] at hx
    have := hs.1 x (List.mem_of_getElem? hx)
    cases hq : ltK x.key k
    ·rfl
    ·rw [ltK_trans this hq] at ha; cases ha
  ·simp only [if_true, List.length_cons]
   cases i with
   | zero => simp at hx; subst hx; simp [ha]
   | succ i =>
    simp only [List.getElem?_cons_succ] at hx
    rw [ih hs.2 hx]
    unfold posM
    omega
theorem posM_has {l : List MoveD} {k : KeyD} (h : srtM l) : ((l[posM l k]?).any fun x => decide (x.key = k)) = hasM l k := by
 rw [Bool.eq_iff_iff]
 constructor
 ·intro e
  cases hx : l[posM l k]? with
  | none => rw [hx] at e; cases e
  | some x =>
   rw [hx] at e
   exact List.any_eq_true.2 ⟨x, List.mem_of_getElem? hx, e⟩
 ·intro e
  obtain ⟨x, hm, hk⟩ := List.any_eq_true.1 e
  have hk := of_decide_eq_true hk
  obtain ⟨i, hi⟩ := List.mem_iff_getElem?.1 hm
  have h1 : ¬ i < posM l k := fun q => by
   have := (posM_lt h hi).2 q
   rw [hk, ltK_irr] at this; cases this
  have h2 : ¬ posM l k < i := fun q => by
   have hp : posM l k < l.length := Nat.lt_trans q (List.getElem?_eq_some_iff.1 hi).1
   have hy : l[posM l k]? = some l[posM l k] := List.getElem?_eq_getElem hp
   have h3 : ¬ ltK l[posM l k].key k = true := fun q' => Nat.lt_irrefl _ ((posM_lt h hy).1 q')
   have h4 := List.pairwise_iff_getElem.1 h (posM l k) i hp (List.getElem?_eq_some_iff.1 hi).1 q
   rw [(List.getElem?_eq_some_iff.1 hi).2, hk] at h4
   exact h3 h4
  have : posM l k = i := by omega
  rw [this, hi]; simp [hk]
theorem moveAt_t {c : CueD} (hs : srtM c.moves) (hl : c.moves.length < 4611686018427387904) (k : KeyD) (σ : Heap) : m_cue_moveAt [.agg (cCue c), .agg (cKey k)] σ = some (.tup [.int .i64 (posM c.moves k : Int), .bool (hasM c.moves k)], σ) := by
 refine wrap_eq rfl ?_ rfl
 show r_cue_moveAt (.agg (cCue c)) (.agg (cKey k)) σ = _
 unfold r_cue_moveAt
 rw [ce_cCue, Option.bind_some, show A.cells 2 (.agg (cKey k)) = some (cKey k) from rfl, Option.bind_some, show A.part1 10 (cCue c) = some (sl 8 cMove c.moves) from rfl, Option.bind_some, show A.partA 0 2 (cKey k) = some (.agg (cKey k)) from rfl, Option.bind_some]
 rw [bsM (cv := fun x => cmpK x.key k) (p := posM c.moves k) hl (posM_le _ _) ?_ ?_, Option.bind_some]
 ·have e : ((c.moves[posM c.moves k]?).any fun x => decide (cmpK x.key k = 0)) = hasM c.moves k := by
   rw [← posM_has hs]
   congr 1
   funext x
   rw [decide_eq_decide, cmpK_eq]
  rw [e]
  exact fin_same _ _
 ·intro x hx
  exact h_cue_moveAt_fn1 (r := cmpK x.key k) (by unfold t_cue_moveAt_fn1; rw [compare_eq]; rfl)
 ·intro i x hx
  rw [cmpK_lt, posM_lt hs hx]
structure Good (l : List CueD) : Prop where
 len : l.length ≤ 300
 num : ∀ c ∈ l, 1 ≤ c.number ∧ c.number ≤ 9999999
 srt : l.Pairwise fun a b => a.number < b.number
 mv : ∀ c ∈ l, c.moves.length ≤ 2000 ∧ srtM c.moves
 pts : ∀ c ∈ l, c.curve.points.length ≤ 20
theorem srt_of_step {α : Type} [Inhabited α] {r : α → α → Prop} (tr : ∀ a b c, r a b → r b c → r a c) : ∀ (l : List α), (∀ i x, l[i + 1]? = some x → r (l[i]?.getD default) x) → l.Pairwise r
 | [], _ => List.Pairwise.nil
 | [a], _ => by simp
 | a :: b :: l, h => by
  have ih := srt_of_step tr (b :: l) (fun i x hx => h (i + 1) x hx)
  have hab : r a b := h 0 b rfl
  refine List.pairwise_cons.2 ⟨fun x hx => ?_, ih⟩
  rcases List.mem_cons.1 hx with rfl | hx
  ·exact hab
  ·exact tr _ _ _ hab ((List.pairwise_cons.1 ih).1 x hx)
end Go.Proofs.Ytphgchakmkankaa

namespace Go.Proofs.Ytphgchakmkankaa
set_option linter.unusedSectionVars false
set_option linter.unusedVariables false
set_option linter.unusedSimpArgs false
theorem pv_succ {α : Type} [Inhabited α] (l : List α) (i : Nat) : pv l (i + 1) = l[i]?.getD default := by
 simp [pv, List.getD_eq_getElem?_getD]
theorem good_moves {l : List MoveD} (h : movesF l = 0) : srtM l := by
 unfold movesF at h
 refine srt_of_step (r := fun a b : MoveD => ltK a.key b.key = true) (fun a b c => ltK_trans) l fun i x hx => ?_
 have := (chkE_zero l 0).1 h (i + 1) x hx
 rw [Nat.zero_add] at this
 unfold moveF at this
 rw [← pv_succ]
 by_cases hq : ltK (pv l (i + 1)).key x.key = true
 ·exact hq
 ·exfalso
  have e : (decide (0 < ((i + 1 : Nat) : Int)) && !ltK (pv l (i + 1)).key x.key) = true := by
   rw [Bool.and_eq_true]; exact ⟨decide_eq_true (by omega), by simpa using hq⟩
  rw [e] at this
  repeat (first | (split at this; · cases this) | (simp at this; done) | (rename_i q; exact q rfl))
theorem good_of {l : List CueD} (h : formF l = 0) : Good l := by
 unfold formF at h
 by_cases h1 : 300 < (l.length : Int)
 ·simp [h1] at h
 rw [if_neg h1] at h
 by_cases h2 : chkE (cueF l) l 0 = 0
 case neg => rw [if_pos h2] at h; exact absurd h h2
 have hc : ∀ i x, l[i]? = some x → (1 ≤ x.number ∧ x.number ≤ 9999999) ∧ (0 < i → (pv l i).number < x.number) ∧ x.moves.length ≤ 2000 ∧ movesF x.moves = 0 ∧ x.curve.points.length ≤ 20 := by
  intro i x hx
  have := (chkE_zero l 0).1 h2 i x hx
  rw [Nat.zero_add] at this
  unfold cueF at this
  split at this
  ·cases this
  rename_i a1
  split at this
  ·cases this
  rename_i a2
  split at this
  ·cases this
  split at this
  ·cases this
  split at this
  ·rename_i a5; exact absurd this a5
  rename_i a5
  split at this
  ·cases this
  rename_i a6
  have hpt : x.curve.points.length ≤ 20 := by
   have a5 : curveF x.curve = 0 := by simpa using a5
   unfold curveF at a5
   split at a5
   ·cases a5
   split at a5
   ·split at a5
    ·cases a5
    split at a5
    ·cases a5
    omega
   ·split at a5
    ·cases a5
    omega
  refine ⟨by simpa [withinB] using a1, fun hi => ?_, by omega, this, hpt⟩
  have hi' : decide (0 < (i : Int)) = true := decide_eq_true (by omega)
  rw [hi', Bool.true_and, decide_eq_true_eq] at a2
  omega
 refine ⟨by omega, fun c hc' => ?_, ?_, fun c hc' => ?_, fun c hc' => ?_⟩
 ·obtain ⟨i, hi⟩ := List.mem_iff_getElem?.1 hc'
  exact (hc i c hi).1
 ·refine srt_of_step (r := fun a b : CueD => a.number < b.number) (fun a b c => Int.lt_trans) l fun i x hx => ?_
  rw [← pv_succ]
  exact (hc (i + 1) x hx).2.1 (by omega)
 ·obtain ⟨i, hi⟩ := List.mem_iff_getElem?.1 hc'
  exact ⟨(hc i c hi).2.2.1, good_moves (hc i c hi).2.2.2.1⟩
 ·obtain ⟨i, hi⟩ := List.mem_iff_getElem?.1 hc'
  exact (hc i c hi).2.2.2.2
def posC (l : List CueD) (n : Int) : Nat := (l.takeWhile fun c => decide (c.number < n)).length
def hasC (l : List CueD) (n : Int) : Bool := l.any fun c => decide (c.number = n)
theorem posC_le (l : List CueD) (n : Int) : posC l n ≤ l.length := (List.takeWhile_prefix _).length_le
theorem posC_lt {l : List CueD} {n : Int} (h : l.Pairwise fun a b => a.number < b.number) : ∀ {i : Nat} {x : CueD}, l[i]? = some x → (x.number < n ↔ i < posC l n) := by
 induction l with
 | nil => intro i x hx; simp at hx
 | cons a l ih =>
  intro i x hx
  have hs := List.pairwise_cons.1 h
  unfold posC
  rw [List.takeWhile_cons]
  by_cases ha : a.number < n
  ·rw [decide_eq_true ha]
   simp only [if_true, List.length_cons]
   cases i with
   | zero => simp at hx; subst hx; simp [ha]
   | succ i =>
    simp only [List.getElem?_cons_succ] at hx
    rw [ih hs.2 hx]
    unfold posC
    omega
  ·rw [decide_eq_false ha]
   simp only [Bool.false_eq_true, if_false, List.length_nil, Nat.not_lt_zero, iff_false]
   cases i with
   | zero => simp at hx; subst hx; exact ha
   | succ i =>
    simp only [List.getElem?_cons_succ] at hx
    have := hs.1 x (List.mem_of_getElem? hx)
    omega
theorem posC_at {l : List CueD} {n : Int} (h : l.Pairwise fun a b => a.number < b.number) {i : Nat} {x : CueD} (hx : l[i]? = some x) (hn : x.number = n) : posC l n = i := by
 have h1 : ¬ i < posC l n := fun q => by have := (posC_lt h hx).2 q; omega
 have h2 : ¬ posC l n < i := fun q => by
  have hp : posC l n < l.length := Nat.lt_trans q (List.getElem?_eq_some_iff.1 hx).1
  have hy : l[posC l n]? = some l[posC l n] := List.getElem?_eq_getElem hp
  have h3 : ¬ l[posC l n].number < n := fun q' => Nat.lt_irrefl _ ((posC_lt h hy).1 q')
  have h4 := List.pairwise_iff_getElem.1 h (posC l n) i hp (List.getElem?_eq_some_iff.1 hx).1 q
  rw [(List.getElem?_eq_some_iff.1 hx).2, hn] at h4
  exact h3 h4
 omega
theorem posC_has {l : List CueD} {n : Int} (h : l.Pairwise fun a b => a.number < b.number) : ((l[posC l n]?).any fun x => decide (x.number = n)) = hasC l n := by
 rw [Bool.eq_iff_iff]
 constructor
 ·intro e
  cases hx : l[posC l n]? with
  | none => rw [hx] at e; cases e
  | some x => rw [hx] at e; exact List.any_eq_true.2 ⟨x, List.mem_of_getElem? hx, e⟩
 ·intro e
  obtain ⟨x, hm, hk⟩ := List.any_eq_true.1 e
  have hk := of_decide_eq_true hk
  obtain ⟨i, hi⟩ := List.mem_iff_getElem?.1 hm
  rw [posC_at h hi hk, hi]; simp [hk]
theorem bs_some {f : List AV → Heap → Option (AX × List AV × Heap)} {σ : Heap} (pv : Nat → Nat → List AV) {v0 : List AV} {n : Nat} (h0 : v0 = pv 0 n) (q : Nat → Bool)
  (hs : ∀ i j, i < j → j ≤ n → f (pv i j) σ = some (.normal, if q ((i + j) / 2) = true then pv ((i + j) / 2 + 1) j else pv i ((i + j) / 2), σ))
  (he : ∀ i, i ≤ n → f (pv i i) σ = some (.exit 0, pv i i, σ)) : ∃ p, p ≤ n ∧ A.loop f v0 σ = some (.exit 0, pv p p, σ) := by
 subst h0
 have key : ∀ k i j, j - i ≤ k → i ≤ j → j ≤ n → ∃ p, p ≤ n ∧ ∃ m, A.iter f m (pv i j) σ = some (.exit 0, pv p p, σ) := by
  intro k
  induction k with
  | zero =>
   intro i j hk h1 h3
   have : i = j := by omega
   subst i
   exact ⟨j, h3, loop_done (he j h3) (by simp)⟩
  | succ k ih =>
   intro i j hk h1 h3
   by_cases hij : i < j
   ·have hstep := hs i j hij h3
    by_cases hh : q ((i + j) / 2) = true
    ·rw [if_pos hh] at hstep
     obtain ⟨p, hp, hm⟩ := ih _ _ (by omega) (show (i + j) / 2 + 1 ≤ j by omega) h3
     exact ⟨p, hp, loop_step hstep hm⟩
    ·rw [if_neg hh] at hstep
     obtain ⟨p, hp, hm⟩ := ih i ((i + j) / 2) (by omega) (by omega) (by omega)
     exact ⟨p, hp, loop_step hstep hm⟩
   ·have : i = j := by omega
    subst i
    exact ⟨j, h3, loop_done (he j h3) (by simp)⟩
 obtain ⟨p, hp, m, hm⟩ := key n 0 n (by omega) (by omega) (Nat.le_refl _)
 exact ⟨p, hp, loop_of_iter hm⟩
theorem bs_bind {β : Type} {f : List AV → Heap → Option (AX × List AV × Heap)} {σ : Heap} {K : AX × List AV × Heap → Option β} {r : Nat → β} (pv : Nat → Nat → List AV) {v0 : List AV} {n : Nat} (h0 : v0 = pv 0 n) (q : Nat → Bool)
  (hs : ∀ i j, i < j → j ≤ n → f (pv i j) σ = some (.normal, if q ((i + j) / 2) = true then pv ((i + j) / 2 + 1) j else pv i ((i + j) / 2), σ))
  (he : ∀ i, i ≤ n → f (pv i i) σ = some (.exit 0, pv i i, σ)) (hK : ∀ p, p ≤ n → K (.exit 0, pv p p, σ) = some (r p)) : ∃ p, p ≤ n ∧ (A.loop f v0 σ).bind K = some (r p) := by
 obtain ⟨p, hp, h⟩ := bs_some pv h0 q hs he
 exact ⟨p, hp, by rw [h, Option.bind_some, hK p hp]⟩
theorem bsC_no {dyn : Nat → List AV → Heap → Option (AV × Heap)} {l : List CueD} {fn : Nat} {k : Int} {cv : CueD → Int} {σ : Heap} (hl : l.length < 4611686018427387904)
  (hd : ∀ x ∈ l, dyn fn [.agg (cCue x), .int .i64 k] σ = some (.int .i64 (cv x), σ)) (hc : ∀ x ∈ l, cv x ≠ 0) :
  ∃ p : Nat, p ≤ l.length ∧ m_slices_BinarySearchFunc_api_Cue_int dyn [sl 11 cCue l, .int .i64 k, .fn fn []] σ = some (.tup [.int .i64 (p : Int), .bool false], σ) := by
 suffices h : ∃ p : Nat, p ≤ l.length ∧ r_slices_BinarySearchFunc_api_Cue_int dyn (sl 11 cCue l) (.int .i64 k) (.fn fn []) σ = some (.tup [.int .i64 (p : Int), .bool false], σ) by
  obtain ⟨p, hp, h⟩ := h
  exact ⟨p, hp, wrap_eq rfl h rfl⟩
 unfold r_slices_BinarySearchFunc_api_Cue_int
 rw [lenS_sl, Option.bind_some]
 refine bs_bind (v0 := [.int .i64 0, .int .i64 (l.length : Int)]) (r := fun p => ((AV.tup [.int .i64 (p : Int), .bool false], σ) : AV × Heap)) (fun i j => [.int .i64 (i : Int), .int .i64 (j : Int)]) rfl (fun h => ((l[h]?).any fun x => decide (cv x < 0))) (fun i j hij hj => ?_) (fun i hi => ?_) (fun p hp => ?_)
 ·have hlt : (i + j) / 2 < l.length := by omega
  have hx : l[(i + j) / 2]? = some l[(i + j) / 2] := List.getElem?_eq_getElem hlt
  have hdx := hd _ (List.mem_of_getElem? hx)
  have hia := iaddr_sl 11 cCue l hx
  have hq : A.callv dyn (.fn fn []) [.agg (cCue l[(i + j) / 2]), .int .i64 k] σ = some (.int .i64 (cv l[(i + j) / 2]), σ) := by simp only [A.callv, List.append_nil]; exact hdx
  simp only [List.getD_cons_succ, List.getD_cons_zero]
  rw [tlss, Option.bind_some, decide_eq_true hij]
  simp only [A.cond, cond_true]
  rw [tadd (by omega), Option.bind_some, conv_u (by omega), Option.bind_some, half_nn (by omega), Option.bind_some, conv_i (by omega), Option.bind_some, hia, Option.bind_some]
  simp only [A.deref, Option.bind_some, pA_cCue, A.lb]
  rw [hq, Option.bind_some, tlss0, Option.bind_some]
  simp only [hx, Option.any_some]
  by_cases hh : cv l[(i + j) / 2] < 0
  ·rw [decide_eq_true hh]
   simp only [cond_true, if_true, tadd1 (show (i + j) / 2 + 1 < 9223372036854775808 by omega), Option.bind_some]
   rfl
  ·rw [decide_eq_false hh]
   rfl
 ·simp only [List.getD_cons_succ, List.getD_cons_zero]
  rw [tlss, Option.bind_some, decide_eq_false (Nat.lt_irrefl i)]
  rfl
 ·simp only [exb, List.getD_cons_succ, List.getD_cons_zero]
  rw [tlss, Option.bind_some]
  by_cases hpl : p < l.length
  ·have hx : l[p]? = some l[p] := List.getElem?_eq_getElem hpl
   have hdx := hd _ (List.mem_of_getElem? hx)
   have hne := hc _ (List.mem_of_getElem? hx)
   have hia := iaddr_sl 11 cCue l hx
   have hq := quiet_of (by show A.callv dyn (.fn fn []) [.agg (cCue l[p]), .int .i64 k] σ = _; simp only [A.callv, List.append_nil]; exact hdx)
   simp only [decide_eq_true hpl, A.guard, beq_self_eq_true, cond_true, Option.bind_some, List.getD_cons_succ, List.getD_cons_zero, hia, A.deref, pA_cCue, A.lb, A.part1, A.partA, A.pick]
   show ((A.quiet (A.callv dyn (.fn fn []) [.agg (cCue l[p]), .int .i64 k] σ) σ).bind _) = _
   rw [hq, Option.bind_some, aEq, decide_eq_false hne]
   exact fin_same _ _
  ·simp only [decide_eq_false hpl, A.guard, Option.bind_some, A.pick]
   exact fin_same _ _
theorem place_t {l : List CueD} (hg : Good l) {n : Int} (hn : inI n) (σ : Heap) : ∃ p : Nat, m_cue_place [sl 11 cCue l, .int .i64 n] σ = some (.tup [.int .i64 (p : Int), .bool (hasC l n)], σ) ∧ p ≤ l.length ∧ ((1 ≤ n ∨ hasC l n = true) → p = posC l n) := by
 have hlen : l.length < 4611686018427387904 := by have := hg.len; omega
 have hd : ∀ x ∈ l, A.tab (fun _ _ => none) [(177, m_cue_place_fn1)] 177 [.agg (cCue x), .int .i64 n] σ = some (.int .i64 (IntKind.i64.wrap (x.number - n)), σ) := fun x _ => h_cue_place_fn1 (r := IntKind.i64.wrap (x.number - n)) rfl
 have wr : ∀ {p : Nat} {b : Bool}, m_slices_BinarySearchFunc_api_Cue_int (A.tab (fun _ _ => none) [(177, m_cue_place_fn1)]) [sl 11 cCue l, .int .i64 n, .fn 177 []] σ = some (.tup [.int .i64 (p : Int), .bool b], σ) →
   m_cue_place [sl 11 cCue l, .int .i64 n] σ = some (.tup [.int .i64 (p : Int), .bool b], σ) := by
  intro p b h
  refine wrap_eq rfl ?_ rfl
  rw [show A.nnL [Sh.e 11 [.k, .k, .k, .k, .k, .k, .k, .s 2, .k, .k, .s 8]] [sl 11 cCue l, .int .i64 n] = [sl 11 cCue l, .int .i64 n] from nn_t1 (nn_e (fun _ => rfl) _) rfl]
  show r_cue_place (sl 11 cCue l) (.int .i64 n) σ = _
  unfold r_cue_place
  rw [h, Option.bind_some]
  exact fin_same _ _
 by_cases hlow : -4611686018427387904 ≤ n
 ·refine ⟨posC l n, wr ?_, posC_le _ _, fun _ => rfl⟩
  have hw : ∀ x ∈ l, IntKind.i64.wrap (x.number - n) = x.number - n := fun x hx => by
   have := hg.num x hx
   unfold inI at hn
   exact wrap64 (by unfold inI; omega)
  rw [bsC (cv := fun x => IntKind.i64.wrap (x.number - n)) (p := posC l n) hlen (posC_le _ _) hd ?_]
  ·rw [← posC_has hg.srt]
   congr 4
   cases hx : l[posC l n]? with
   | none => rfl
   | some x =>
    simp only [Option.any_some]
    rw [hw x (List.mem_of_getElem? hx), show decide (x.number - n = 0) = decide (x.number = n) from decide_eq_decide.2 (by omega)]
  ·intro h x hx
   rw [hw x (List.mem_of_getElem? hx), ← posC_lt hg.srt hx]
   omega
 ·have hno : hasC l n = false := by
   rw [Bool.eq_false_iff]
   intro e
   obtain ⟨x, hx, hk⟩ := List.any_eq_true.1 e
   have := hg.num x hx
   have := of_decide_eq_true hk
   omega
  obtain ⟨p, hp, h⟩ := bsC_no hlen hd (fun x hx e => by
   have hnum := hg.num x hx
   unfold inI at hn
   have h2 : IntKind.i64.wrap (x.number - n) = x.number - n ∨ IntKind.i64.wrap (x.number - n) = x.number - n - 18446744073709551616 := by
    by_cases hh : x.number - n < 9223372036854775808
    ·exact .inl (wrap64 (by unfold inI; omega))
    ·right
     unfold IntKind.wrap
     simp [IntKind.bits, IntKind.signed]
     omega
   rcases h2 with h2 | h2 <;> rw [h2] at e <;> omega)
  exact ⟨p, by rw [hno]; exact wr h, hp, fun q => by
   rcases q with q | q
   ·omega
   ·rw [hno] at q; cases q⟩
section
variable {α R γ S B : Type}
def scanL (q : Nat → α → Option R) : List α → Nat → Option R
 | [], _ => none
 | x :: l, i => match q i x with | some r => some r | none => scanL q l (i + 1)
theorem whE_scan {l : List α} {q : Nat → α → Option R} {body : Int → Option (Lr Int Unit R)} {K1 : Unit → Option γ} {K2 : R → Option γ} (hb : ∀ (i : Nat) x, l[i]? = some x → body (i : Int) = some (match q i x with | some r => .ret r | none => .go ((i + 1 : Nat) : Int)))
  (he : ∀ i : Nat, l.length ≤ i → body (i : Int) = some (.brk ())) (i : Nat) : whE body (i : Int) K1 K2 = (match scanL q (l.drop i) i with | some r => K2 r | none => K1 ()) := by
 have key : ∀ (k i : Nat), l.length - i ≤ k → whL body (i : Int) = some (match scanL q (l.drop i) i with | some r => .inr r | none => .inl ()) := by
  intro k
  induction k with
  | zero =>
   intro i hk
   rw [whL_step, he i (by omega), Option.bind_some, List.drop_of_length_le (by omega)]
   rfl
  | succ k ih =>
   intro i hk
   by_cases hi : i < l.length
   ·have hx : l[i]? = some l[i] := List.getElem?_eq_getElem hi
    rw [whL_step, hb i _ hx, Option.bind_some, List.drop_eq_getElem_cons hi, scanL]
    cases h : q i l[i] with
    | some r => rfl
    | none => simp only; exact ih (i + 1) (by omega)
   ·rw [whL_step, he i (by omega), Option.bind_some, List.drop_of_length_le (by omega)]
    rfl
 rw [whE, key _ i (Nat.le_refl _), Option.bind_some]
 cases scanL q (l.drop i) i <;> rfl
theorem whE_while {l : List α} {pr : α → Bool} {body : Int → Option (Lr Int Int R)} {K1 : Int → Option γ} {K2 : R → Option γ} (hb : ∀ (i : Nat) x, l[i]? = some x → body (i : Int) = some (if pr x = true then .go ((i + 1 : Nat) : Int) else .brk (i : Int)))
  (he : body (l.length : Int) = some (.brk (l.length : Int))) {s : Int} (h0 : s = 0) : whE body s K1 K2 = K1 ((l.takeWhile pr).length : Int) := by
 subst h0
 have key : ∀ (k i : Nat), l.length - i ≤ k → i ≤ l.length → whL body (i : Int) = some (.inl ((i + ((l.drop i).takeWhile pr).length : Nat) : Int)) := by
  intro k
  induction k with
  | zero =>
   intro i hk hle
   have : i = l.length := by omega
   subst this
   rw [whL_step, he, Option.bind_some, List.drop_of_length_le (Nat.le_refl _)]
   rfl
  | succ k ih =>
   intro i hk hle
   by_cases hi : i < l.length
   ·have hx : l[i]? = some l[i] := List.getElem?_eq_getElem hi
    rw [whL_step, hb i _ hx, Option.bind_some, List.drop_eq_getElem_cons hi, List.takeWhile_cons]
    cases h : pr l[i]
    ·simp
    ·simp only [if_true, List.length_cons]
     rw [ih (i + 1) (by omega) (by omega)]
     congr 3; omega
   ·have : i = l.length := by omega
    subst this
    rw [whL_step, he, Option.bind_some, List.drop_of_length_le (Nat.le_refl _)]
    rfl
 have k := key l.length 0 (by omega) (by omega)
 simp only [Nat.zero_add, List.drop_zero] at k
 show whE body ((0 : Nat) : Int) K1 K2 = _
 rw [whE, k]; rfl
theorem tIx_nat {l : List α} {i : Nat} {x : α} (h : l[i]? = some x) : tIx l (i : Int) = some x := tIx_get (by omega) (by simpa using h)
end
theorem moveOf_t {l : List MoveD} (hs : srtM l) (hl : l.length < 4611686018427387904) (k : KeyD) : t_R5_moveOf l k = some ((posM l k : Int), hasM l k) := by
 unfold t_R5_moveOf
 refine (whE_while (l := l) (pr := fun m => ltK m.key k) (fun i x hx => ?_) ?_ rfl).trans ?_
 ·have hi := (List.getElem?_eq_some_iff.1 hx).1
  have hi' : ((i : Int) < (l.length : Int)) := by omega
  have e : (decide (x.key.unit < k.unit) || decide (x.key.unit = k.unit) && Op.bytesLess x.key.param.toList k.param.toList) = ltK x.key k := rfl
  simp only [decide_eq_true hi', if_true, tIx_nat hx, Option.bind_some, wrap64 (show inI ((i : Int) + 1) by unfold inI; omega), Bool.true_and, e]
  cases ltK x.key k <;> simp
 ·simp only [decide_eq_false (by omega : ¬ ((l.length : Int) < (l.length : Int))), Bool.false_eq_true, if_false, Option.bind_some, Bool.false_and]
 ·show ((if decide ((posM l k : Int) < (l.length : Int)) = true then tIx l (posM l k : Int) else some default).bind fun x9 => some ((posM l k : Int), ((decide ((posM l k : Int) < (l.length : Int))) && (decide (x9.key = k))))) = _
  rw [← posM_has hs]
  by_cases hp : posM l k < l.length
  ·have hx : l[posM l k]? = some l[posM l k] := List.getElem?_eq_getElem hp
   have hp' : ((posM l k : Int) < (l.length : Int)) := by omega
   rw [decide_eq_true hp', if_pos rfl, tIx_nat hx, Option.bind_some, hx]
   simp
  ·have hx : l[posM l k]? = none := List.getElem?_eq_none (by omega)
   have hp' : ¬ ((posM l k : Int) < (l.length : Int)) := by omega
   rw [decide_eq_false hp', if_neg (by decide), Option.bind_some, hx]
   simp
def blkF (l : List CueD) (i : Nat) : Option Nat := scanL (fun j c => if c.block = true then some j else none) (l.drop i) i
theorem blocked_t {l : List CueD} (hl : l.length < 4611686018427387904) (i : Nat) : t_cue_blocked l (i : Int) = some (match blkF l i with | some j => (j : Int) | none => -1) := by
 unfold t_cue_blocked
 refine (whE_scan (l := l) (q := fun j c => if c.block = true then some (j : Int) else none) (fun i x hx => ?_) (fun i hi => ?_) i).trans ?_
 rotate_left 2
 ·unfold blkF
  have key : ∀ (m : List CueD) (i : Nat), scanL (fun j c => if c.block = true then some (j : Int) else none) m i = (scanL (fun j c => if c.block = true then some j else none) m i).map fun j => (j : Int) := by
   intro m
   induction m with
   | nil => intro i; rfl
   | cons x m ih =>
    intro i
    rw [scanL, scanL]
    cases x.block
    ·simp only [Bool.false_eq_true, if_false]; exact ih (i + 1)
    ·rfl
  rw [key]
  cases scanL (fun j c => if c.block = true then some j else none) (l.drop i) i <;> rfl
 ·have hi := (List.getElem?_eq_some_iff.1 hx).1
  have hi' : ((i : Int) < (l.length : Int)) := by omega
  simp only [if_pos hi', tIx_nat hx, Option.bind_some, wrap64 (show inI ((i : Int) + 1) by unfold inI; omega)]
  cases x.block <;> simp
 ·have hi' : ¬ ((i : Int) < (l.length : Int)) := by omega
  simp only [if_neg hi']
def blkK (l : List CueD) (i : Nat) (k : KeyD) : Option Int := scanL (fun j c => if hasM c.moves k = true then some (-1) else if c.block = true then some (j : Int) else none) (l.drop i) i
theorem blocked5_t {l : List CueD} (hl : l.length < 4611686018427387904) (hm : ∀ c ∈ l, srtM c.moves ∧ c.moves.length < 4611686018427387904) (i : Nat) (k : KeyD) : t_R5_blocked l (i : Int) k = some ((blkK l i k).getD (-1)) := by
 unfold t_R5_blocked
 refine (whE_scan (l := l) (q := fun j c => if hasM c.moves k = true then some (-1) else if c.block = true then some (j : Int) else none) (fun i x hx => ?_) (fun i hi => ?_) i).trans ?_
 rotate_left 2
 ·unfold blkK
  cases scanL _ (l.drop i) i <;> rfl
 ·have hi := (List.getElem?_eq_some_iff.1 hx).1
  have hi' : ((i : Int) < (l.length : Int)) := by omega
  obtain ⟨h1, h2⟩ := hm x (List.mem_of_getElem? hx)
  simp only [if_pos hi', tIx_nat hx, Option.bind_some, moveOf_t h1 h2, wrap64 (show inI ((i : Int) + 1) by unfold inI; omega)]
  cases hasM x.moves k <;> cases x.block <;> simp
 ·have hi' : ¬ ((i : Int) < (l.length : Int)) := by omega
  simp only [if_neg hi']
theorem moved_t {l : List CueD} (hl : l.length ≤ mxl) (hm : ∀ c ∈ l, srtM c.moves ∧ c.moves.length < 4611686018427387904) (k : KeyD) (σ : Heap) : m_cue_moved [sl 11 cCue l, .agg (cKey k)] σ = some (.bool (l.any fun c => hasM c.moves k), σ) := by
 refine wrap_eq rfl ?_ rfl
 rw [show A.nnL [Sh.e 11 [.k, .k, .k, .k, .k, .k, .k, .s 2, .k, .k, .s 8]] [sl 11 cCue l, .agg (cKey k)] = [sl 11 cCue l, .agg (cKey k)] from nn_t1 (nn_e (fun _ => rfl) _) rfl]
 show r_cue_moved (sl 11 cCue l) (.agg (cKey k)) σ = _
 unfold r_cue_moved
 rw [show A.cells 2 (.agg (cKey k)) = some (cKey k) from rfl, Option.bind_some, Option.bind_some]
 rw [m_slices_ContainsFunc_api_Cue_eq _ l hl _ _ (fun c => hasM c.moves k) σ ?_, Option.bind_some]
 ·exact fin_same _ _
 intro x hx
 obtain ⟨h1, h2⟩ := hm x hx
 show m_cue_moved_fn1 [.agg (cCue x), .rp (cKey k)] σ = _
 refine wrap_eq rfl ?_ rfl
 show r_cue_moved_fn1 (.agg (cCue x)) (.rp (cKey k)) σ = _
 unfold r_cue_moved_fn1
 rw [ce_cCue, Option.bind_some, pA_cCue, Option.bind_some]
 simp only [A.deref, Option.bind_some]
 rw [show A.partA 0 2 (cKey k) = some (.agg (cKey k)) from rfl, Option.bind_some, moveAt_t h1 h2 , Option.bind_some]
 exact fin_same _ _
end Go.Proofs.Ytphgchakmkankaa

namespace Go.Proofs.Ytphgchakmkankaa
set_option linter.unusedSectionVars false
set_option linter.unusedVariables false
set_option linter.unusedSimpArgs false
open HP
def Lt (σ : Heap) (sh : Sh) (v t : AV) : Prop := (∃ v', A.frz σ 0 8 v = some v' ∧ A.own v' = false ∧ A.nn sh v' = A.nn sh t) ∧ A.own t = false ∧ (A.own v = false → A.nn sh v = A.nn sh t)
def LtL (σ : Heap) : List Sh → List AV → List AV → Prop
 | _, [], [] => True
 | [], a :: aas, t :: ts => Lt σ .k a t ∧ LtL σ [] aas ts
 | s :: ss, a :: aas, t :: ts => Lt σ s a t ∧ LtL σ ss aas ts
 | _, _, _ => False
theorem nn_k (v : AV) : A.nn .k v = v := by simp [A.nn]
theorem ltL {σ : Heap} : ∀ {ss : List Sh} {aas ts : List AV}, LtL σ ss aas ts → (∃ aas', A.frzL σ 0 8 aas = some aas' ∧ aas'.any A.own = false ∧ A.nnL ss aas' = A.nnL ss ts) ∧ ts.any A.own = false ∧ (aas.any A.own = false → A.nnL ss aas = A.nnL ss ts)
 | ss, [], [], _ => ⟨⟨[], by simp [A.frzL], rfl, rfl⟩, rfl, fun _ => rfl⟩
 | [], a :: aas, t :: ts, h => by
  obtain ⟨⟨⟨v', h1, h2, h3⟩, h4, h5⟩, h6⟩ := h
  obtain ⟨⟨aas', k1, k2, k3⟩, k4, k5⟩ := ltL h6
  rw [nn_k, nn_k] at h3
  simp only [A.nnL] at k3 k5
  refine ⟨⟨v' :: aas', by simp [A.frzL, h1, k1], by simp [h2, k2], by simp [A.nnL, h3, k3]⟩, by simp [h4, k4], fun h => ?_⟩
  simp only [List.any_cons, Bool.or_eq_false_iff] at h
  have := h5 h.1
  rw [nn_k, nn_k] at this
  simp [A.nnL, this, k5 h.2]
 | s :: ss, a :: aas, t :: ts, h => by
  obtain ⟨⟨⟨v', h1, h2, h3⟩, h4, h5⟩, h6⟩ := h
  obtain ⟨⟨aas', k1, k2, k3⟩, k4, k5⟩ := ltL h6
  refine ⟨⟨v' :: aas', by simp [A.frzL, h1, k1], by simp [h2, k2], by simp [A.nnL, h3, k3]⟩, by simp [h4, k4], fun h => ?_⟩
  simp only [List.any_cons, Bool.or_eq_false_iff] at h
  simp [A.nnL, h5 h.1, k5 h.2]
 | _, [], _ :: _, h => by cases h
 | [], _ :: _, [], h => by cases h
 | _ :: _, _ :: _, [], h => by cases h
theorem lent {ain : List Sh} {rout : Sh} {r : List AV → Heap → Option (AV × Heap)} {aas ts : List AV} {σ : Heap} {v : AV} (h : LtL σ ain aas ts) (e : ∀ σ, A.wrap true ain rout r ts σ = some (v, σ)) (hs : A.scal v = true) : A.wrap true ain rout r aas σ = some (v, σ) := by
 obtain ⟨⟨aas', k1, k2, k3⟩, k4, k5⟩ := ltL h
 cases ho : aas.any A.own
 ·rw [wrap_nn (k5 ho) ho k4]; exact e σ
 ·exact wrap_own ho k1 k2 (by rw [wrap_nn k3 k2 k4]; exact e []) hs
theorem lt_fz {σ : Heap} {sh : Sh} {v : AV} (h : Fz v) (ho : A.own v = false) : Lt σ sh v v := ⟨⟨v, h σ 0 8, ho, rfl⟩, ho, fun _ => rfl⟩
theorem lt_int {σ : Heap} (n : Int) : Lt σ .k (.int .i64 n) (.int .i64 n) := lt_fz (fz_int _ _) rfl
section
variable {α : Type} {c : α → List AV} {sz : Nat} {B : Blk → Prop} {σ0 σ : Heap} {R : HP} {v : AV} {l : List α}
def Sf (c : α → List AV) (sz : Nat) (v : AV) (l : List α) : HP := fun h => (v = sl sz c l ∧ emp h) ∨ Sl (fl c) sz v l h
theorem sf_cases (H : Hs B σ0 σ (Sf c sz v l * R)) : (v = sl sz c l ∧ Hs B σ0 σ R) ∨ Hs B σ0 σ (Sl (fl c) sz v l * R) := by
 have H2 := hs_drop H
 obtain ⟨h1, h, ⟨f, g, hf, hg, hd, hh⟩, h2⟩ := H
 rcases hf with ⟨k1, k2⟩ | k
 ·exact .inl ⟨k1, H2⟩
 ·exact .inr ⟨h1, h, ⟨f, g, k, hg, hd, hh⟩, h2⟩
theorem sf_own (H : Hs B σ0 σ (Sl (fl c) sz v l * R)) : Hs B σ0 σ (Sf c sz v l * R) := hs_mono (fun h k => .inr k) H
theorem slf_cases (H : Hs B σ0 σ (Sl (fl c) sz v l * R)) : (l = [] ∧ (v = .nsl ∨ v = .ez) ∧ Hs B σ0 σ R) ∨ ∃ id g, v = .os id g sz 0 l.length ∧ Hs B σ0 σ (blk id (.arr g sz (l.map c)) * R) := by
 rcases sl_cases H with h | ⟨id, g, seg, rfl, hl, H⟩
 ·exact .inl h
 ·have K := els_fl.1 (hs_eq (show _ = els (fl c) seg l * (blk id (.arr g sz seg) * R) by ac_rfl) H)
  obtain ⟨rfl, K⟩ := K
  exact .inr ⟨id, g, rfl, K⟩
theorem slf_os {id g : Nat} {n : Nat} (H : Hs B σ0 σ (blk id (.arr g sz (l.map c)) * R)) (hn : n = l.length := by rfl) : Hs B σ0 σ (Sl (fl c) sz (.os id g sz 0 n) l * R) :=
 sl_os (id := id) (g := g) (seg := l.map c) (hs_eq (show els (fl c) (l.map c) l * (blk id (.arr g sz (l.map c)) * R) = _ by ac_rfl) (els_fl.2 ⟨rfl, H⟩)) hn
theorem frz_os (hc : ∀ x, FzL (c x)) {id g : Nat} (h : σ[id]? = some (.arr g sz (l.map c))) {n : Nat} (hn : ¬ id < n) (d : Nat) : A.frz σ n (d + 1) (.os id g sz 0 l.length) = some (sl sz c l) := by
 simp only [A.frz, if_neg hn, h]
 rw [if_pos (by simp), List.drop_zero, List.take_of_length_le (by simp), frzLL_eq, fzLL hc]
 rfl
theorem slf_fz (H : Hs B σ0 σ (Sl (fl c) sz v l * R)) (hc : ∀ x, FzL (c x)) {n : Nat} (hn : n ≤ σ0.length) (d : Nat) : ∃ v', A.frz σ n (d + 1) v = some v' ∧ A.own1 v' = false ∧ A.nn (.s sz) v' = sl sz c l := by
 rcases slf_cases H with ⟨rfl, rfl | rfl, _⟩ | ⟨id, g, rfl, K⟩
 ·exact ⟨.nsl, by simp [A.frz], rfl, rfl⟩
 ·exact ⟨.ez, by simp [A.frz], rfl, rfl⟩
 ·obtain ⟨h1, h2⟩ := hs_get K
  exact ⟨_, frz_os hc h2 (by omega) d, rfl, rfl⟩
theorem sf_fz (H : Hs B σ0 σ (Sf c sz v l * R)) (hc : ∀ x, FzL (c x)) {n : Nat} (hn : n ≤ σ0.length) (d : Nat) : ∃ v', A.frz σ n (d + 1) v = some v' ∧ A.own1 v' = false ∧ A.nn (.s sz) v' = sl sz c l := by
 rcases sf_cases H with ⟨rfl, _⟩ | H
 ·exact ⟨_, fz_sl hc l σ n (d + 1), rfl, rfl⟩
 ·exact slf_fz H hc hn d
structure Cl (p : AV) (F : List AV → HP) : Prop where
 nc : A.nilck p = some p
 ow : A.own p = true
 ld : ∀ {σ0 σ : Heap} {e : List AV} {R : HP}, Hs anyB σ0 σ (F e * R) → A.deref p σ = some e
 fa : ∀ (o : Nat), ∃ q, A.faddr o p = some q ∧ (∀ {σ0 σ : Heap} {e : List AV} {R : HP}, Hs anyB σ0 σ (F e * R) → A.deref q σ = some (e.drop o)) ∧
  ∀ {σ0 σ : Heap} {e : List AV} {R : HP} {new e' : List AV}, Hs anyB σ0 σ (F e * R) → A.splice o new e = some e' → ∃ σ', A.storeAt q new σ = some σ' ∧ Hs anyB σ0 σ' (F e' * R)
 st : ∀ {σ0 σ : Heap} {e : List AV} {R : HP} {new e' : List AV}, Hs anyB σ0 σ (F e * R) → A.splice 0 new e = some e' → ∃ σ', A.storeAt p new σ = some σ' ∧ Hs anyB σ0 σ' (F e' * R)
 fc : ∀ (o o' : Nat) (q : AV), A.faddr o p = some q → A.faddr o' q = A.faddr (o + o') p
theorem hs_any {P : HP} (H : Hs B σ0 σ P) : Hs anyB σ0 σ P := ⟨by obtain ⟨bs, h, _⟩ := H.pre; exact ⟨bs, h, fun _ _ => trivial⟩, H.own⟩
end
section
variable {α : Type} {E : List AV → α → HP} {sz : Nat} {σ0 σ : Heap} {R : HP} {v : AV} {l : List α}
theorem sl_cell (H : Hs anyB σ0 σ (Sl E sz v l * R)) {i : Nat} {x : α} (hx : l[i]? = some x) : ∃ p F e, A.iaddr sz v (.int .i64 (i : Int)) = some p ∧ Cl p F ∧ Hs anyB σ0 σ (F e * (E e x * R)) ∧
  ∀ {σ : Heap} {e : List AV} {y : α} {R : HP}, Hs anyB σ0 σ (F e * (E e y * R)) → Hs anyB σ0 σ (Sl E sz v (l.set i y) * R) := by
 have hi := (List.getElem?_eq_some_iff.1 hx).1
 rcases sl_cases H with ⟨rfl, _, _⟩ | ⟨id, g, seg, rfl, hl, H⟩
 ·simp at hx
 ·have he : seg[i]? = some seg[i] := List.getElem?_eq_getElem (by omega)
  have rd : ∀ {σ0 σ : Heap} {e : List AV} {R : HP} (o : Nat), Hs anyB σ0 σ (blk id (.arr g sz (seg.set i e)) * els E (seg.eraseIdx i) (l.eraseIdx i) * R) → A.deref (.oe id g i o) σ = some (e.drop o) := by
   intro σ0 σ e R o K
   obtain ⟨_, k2⟩ := hs_get (hs_eq (star_assoc _ _ _) K)
   simp only [A.deref, k2, if_true]
   rw [List.getElem?_set_self (by omega)]
   rfl
  have wr : ∀ {σ0 σ : Heap} {e : List AV} {R : HP} {new e' : List AV} (o : Nat), Hs anyB σ0 σ (blk id (.arr g sz (seg.set i e)) * els E (seg.eraseIdx i) (l.eraseIdx i) * R) → A.splice o new e = some e' →
    ∃ σ', A.storeAt (.oe id g i o) new σ = some σ' ∧ Hs anyB σ0 σ' (blk id (.arr g sz (seg.set i e')) * els E (seg.eraseIdx i) (l.eraseIdx i) * R) := by
   intro σ0 σ e R new e' o K hs
   have K' := hs_eq (star_assoc _ _ _) K
   obtain ⟨_, k2⟩ := hs_get K'
   refine ⟨σ.set id (.arr g sz (seg.set i e')), ?_, ?_⟩
   ·simp only [A.storeAt, k2, if_true]
    rw [List.getElem?_set_self (by omega), Option.bind_some, hs, Option.map_some, List.set_set]
   ·exact hs_eq (star_assoc _ _ _).symm (hs_set (b' := .arr g sz (seg.set i e')) K' trivial)
  refine ⟨.oe id g i 0, fun e => blk id (.arr g sz (seg.set i e)) * els E (seg.eraseIdx i) (l.eraseIdx i), seg[i], ?_, ⟨rfl, rfl, fun K => by have := rd 0 K; simpa using this, fun o => ⟨.oe id g i o, by simp [A.faddr], fun K => rd o K, fun K hs => wr o K hs⟩, fun K hs => wr 0 K hs, fun o o' q hq => by simp [A.faddr] at hq; subst hq; simp [A.faddr]⟩, ?_, ?_⟩
  ·have hi' : ((i : Int) < (l.length : Int)) := by omega
   simp [A.iaddr, A.idx, hi']
  ·refine hs_eq ?_ H
   have e1 : seg.set i seg[i] = seg := List.set_getElem_self (by omega)
   simp only [e1]
   rw [els_at hl he hx]
   ac_rfl
  ·intro σ e y R K
   refine sl_os (id := id) (g := g) (seg := seg.set i e) (hs_eq ?_ K) (by simp)
   have e1 : els E (seg.set i e) (l.set i y) = els E (seg.eraseIdx i) (l.eraseIdx i) * E e y := by
    rw [els_at (i := i) (e := e) (x := y) (by simp [hl]) (by rw [List.getElem?_set_self (by omega)]) (by rw [List.getElem?_set_self hi])]
    rw [List.eraseIdx_set_eq, List.eraseIdx_set_eq]
   rw [e1]
   ac_rfl
end
def cCueH (x : CueD) (vp vm : AV) : List AV := [.int .i64 x.number, .str x.title, .int .i64 x.delay, .int .i64 x.up, .int .i64 x.down, .int .i64 x.other, .int .i64 x.curve.kind, vp, .bool x.block, .int .i64 x.follow, vm]
def CueP (M : AV → List MoveD → HP) : List AV → CueD → HP := fun e x => ex fun vp => ex fun vm => pr (e = cCueH x vp vm) * (Sf cPoint 2 vp x.curve.points * M vm x.moves)
def CueE : List AV → CueD → HP := CueP (Sl (fl cMove) 8)
def CueF : List AV → CueD → HP := CueP (Sf cMove 8)
def shCue : List Sh := [.k, .k, .k, .k, .k, .k, .k, .s 2, .k, .k, .s 8]
section
variable {B : Blk → Prop} {σ0 σ : Heap} {R : HP} {M : AV → List MoveD → HP} {e : List AV} {x : CueD}
theorem cueP (H : Hs B σ0 σ (CueP M e x * R)) : ∃ vp vm, e = cCueH x vp vm ∧ Hs B σ0 σ (Sf cPoint 2 vp x.curve.points * (M vm x.moves * R)) := by
 unfold CueP at H
 rw [hs_ex] at H
 obtain ⟨vp, H⟩ := H
 rw [hs_ex] at H
 obtain ⟨vm, H⟩ := H
 rw [star_assoc, hs_pr] at H
 exact ⟨vp, vm, H.1, hs_eq (by ac_rfl) H.2⟩
theorem cueP_of {vp vm : AV} (he : e = cCueH x vp vm) (H : Hs B σ0 σ (Sf cPoint 2 vp x.curve.points * (M vm x.moves * R))) : Hs B σ0 σ (CueP M e x * R) := by
 unfold CueP
 rw [hs_ex]
 refine ⟨vp, ?_⟩
 rw [hs_ex]
 refine ⟨vm, ?_⟩
 rw [star_assoc, hs_pr]
 exact ⟨he, hs_eq (by ac_rfl) H⟩
theorem cue_weak (H : Hs B σ0 σ (CueE e x * R)) : Hs B σ0 σ (CueF e x * R) := by
 obtain ⟨vp, vm, he, H⟩ := cueP H
 exact cueP_of he (hs_eq (by ac_rfl) (sf_own (hs_eq (show _ = Sl (fl cMove) 8 vm x.moves * (Sf cPoint 2 vp x.curve.points * R) by ac_rfl) H)))
theorem cueF_fz (H : Hs B σ0 σ (CueF e x * R)) {n : Nat} (hn : n ≤ σ0.length) (d : Nat) : ∃ e', A.frzL σ n (d + 1) e = some e' ∧ e'.any A.own1 = false ∧ A.nnL shCue e' = cCue x := by
 obtain ⟨vp, vm, he, K⟩ := cueP H
 subst he
 obtain ⟨vp', p1, p2, p3⟩ := sf_fz K fz_cPoint hn d
 obtain ⟨vm', m1, m2, m3⟩ := sf_fz (hs_drop K) fz_cMove hn d
 refine ⟨cCueH x vp' vm', ?_, ?_, ?_⟩
 ·simp [cCueH, A.frzL, A.frz, p1, m1]
 ·simp only [cCueH, List.any_cons, List.any_nil, p2, m2]; rfl
 ·simp only [cCueH, shCue, A.nnL, nn_k, p3, m3]; rfl
theorem elsF_fz : ∀ {seg : List (List AV)} {l : List CueD} {R : HP}, Hs B σ0 σ (els CueF seg l * R) → ∀ {n : Nat}, n ≤ σ0.length → ∀ (d : Nat), ∃ seg', A.frzLL σ n (d + 1) seg = some seg' ∧ seg'.map (A.nnL shCue) = l.map cCue
 | [], [], R, H, n, hn, d => ⟨[], by simp [A.frzLL], rfl⟩
 | [], _ :: _, R, H, n, hn, d => (hs_pr.1 H).1.elim
 | _ :: _, [], R, H, n, hn, d => (hs_pr.1 H).1.elim
 | e :: seg, x :: l, R, H, n, hn, d => by
  rw [els, star_assoc] at H
  obtain ⟨e', h1, _, h3⟩ := cueF_fz H hn d
  obtain ⟨seg', k1, k2⟩ := elsF_fz (hs_drop H) hn d
  exact ⟨e' :: seg', by simp [A.frzLL, h1, k1], by simp [h3, k2]⟩
theorem els_weak : ∀ {seg : List (List AV)} {l : List CueD} {R : HP}, Hs B σ0 σ (els CueE seg l * R) → Hs B σ0 σ (els CueF seg l * R)
 | [], [], R, H => H
 | [], _ :: _, R, H => H
 | _ :: _, [], R, H => H
 | e :: seg, x :: l, R, H => by
  rw [els] at H ⊢
  have H2 := els_weak (hs_eq (show _ = els CueE seg l * (CueE e x * R) by ac_rfl) H)
  have H3 := cue_weak (hs_eq (show _ = CueE e x * (els CueF seg l * R) by ac_rfl) H2)
  exact hs_eq (by ac_rfl) H3
variable {v : AV} {l : List CueD}
theorem cues_weak (H : Hs B σ0 σ (Sl CueE 11 v l * R)) : Hs B σ0 σ (Sl CueF 11 v l * R) := by
 rcases sl_cases H with ⟨rfl, hv, H⟩ | ⟨id, g, seg, rfl, hl, H⟩
 ·exact slz H hv
 ·have H2 := els_weak (hs_eq (show _ = els CueE seg l * (blk id (.arr g 11 seg) * R) by ac_rfl) H)
  exact sl_os (id := id) (g := g) (seg := seg) (hs_eq (by ac_rfl) H2)
theorem cuesF_fz (H : Hs B σ0 σ (Sl CueF 11 v l * R)) {n : Nat} (hn : n ≤ σ0.length) (d : Nat) : ∃ v', A.frz σ n (d + 2) v = some v' ∧ A.own1 v' = false ∧ A.nn (.e 11 shCue) v' = sl 11 cCue l := by
 rcases sl_cases H with ⟨rfl, rfl | rfl, _⟩ | ⟨id, g, seg, rfl, hl, H⟩
 ·exact ⟨.nsl, by simp [A.frz], rfl, rfl⟩
 ·exact ⟨.ez, by simp [A.frz], rfl, rfl⟩
 ·obtain ⟨h1, h2⟩ := hs_get H
  obtain ⟨seg', k1, k2⟩ := elsF_fz (hs_eq (show _ = els CueF seg l * (blk id (.arr g 11 seg) * R) by ac_rfl) H) hn d
  refine ⟨.sl 11 seg', ?_, rfl, ?_⟩
  ·simp only [A.frz, if_neg (show ¬ id < n by omega), h2]
   rw [if_pos (by simp; omega), List.drop_zero, List.take_of_length_le (by omega), frzLL_eq, k1]
   rfl
  ·simp only [A.nn, k2]; rfl
theorem nn_idem_cues (l : List CueD) : A.nn (.e 11 shCue) (sl 11 cCue l) = sl 11 cCue l := nn_e (fun _ => rfl) l
theorem lt_cuesF (H : Hs B σ0 σ (Sl CueF 11 v l * R)) : Lt σ (.e 11 shCue) v (sl 11 cCue l) := by
 obtain ⟨v', h1, h2, h3⟩ := cuesF_fz H (Nat.zero_le _) 6
 refine ⟨⟨v', h1, ?_, by rw [h3, nn_idem_cues]⟩, rfl, fun ho => ?_⟩
 ·rcases sl_cases H with ⟨rfl, rfl | rfl, _⟩ | ⟨id, g, seg, rfl, hl, H⟩
  ·simp [A.frz] at h1; subst h1; rfl
  ·simp [A.frz] at h1; subst h1; rfl
  ·cases v' <;> first | rfl | cases h2 | skip
   rename_i cs
   simp only [A.nn] at h3
   cases h3
 ·rcases sl_cases H with ⟨rfl, rfl | rfl, _⟩ | ⟨id, g, seg, rfl, hl, H⟩
  ·rfl
  ·rfl
  ·cases ho
theorem lt_cues (H : Hs B σ0 σ (Sl CueE 11 v l * R)) : Lt σ (.e 11 shCue) v (sl 11 cCue l) := lt_cuesF (cues_weak H)
theorem lt_cueF (H : Hs B σ0 σ (CueF e x * R)) : Lt σ (.a shCue) (.agg e) (.agg (cCue x)) := by
 obtain ⟨e', h1, h2, h3⟩ := cueF_fz H (Nat.zero_le _) 7
 obtain ⟨vp, vm, he, K0⟩ := cueP H
 refine ⟨⟨.agg e', by simp [A.frz, h1], by simpa [A.own] using h2, ?_⟩, rfl, fun ho => ?_⟩
 ·simp only [A.nn, h3]
  rw [show A.nnL shCue (cCue x) = cCue x from rfl]
 ·subst he
  have hp : A.own1 vp = false ∧ A.own1 vm = false := by
   simp only [A.own, cCueH, List.any_cons, List.any_nil, Bool.or_eq_false_iff] at ho
   exact ⟨ho.2.2.2.2.2.2.2.1, ho.2.2.2.2.2.2.2.2.2.2.1⟩
  have q1 : A.nn (.s 2) vp = sl 2 cPoint x.curve.points := by
   rcases sf_cases K0 with ⟨rfl, _⟩ | K
   ·rfl
   ·rcases slf_cases K with ⟨e0, rfl | rfl, _⟩ | ⟨id, g, rfl, _⟩
    ·rw [e0]; rfl
    ·rw [e0]; rfl
    ·cases hp.1
  have q2 : A.nn (.s 8) vm = sl 8 cMove x.moves := by
   rcases sf_cases (hs_drop K0) with ⟨rfl, _⟩ | K
   ·rfl
   ·rcases slf_cases K with ⟨e0, rfl | rfl, _⟩ | ⟨id, g, rfl, _⟩
    ·rw [e0]; rfl
    ·rw [e0]; rfl
    ·cases hp.2
  have q3 : A.nnL shCue (cCueH x vp vm) = cCue x := by simp only [cCueH, shCue, A.nnL, nn_k, q1, q2]; rfl
  show AV.agg (A.nnL shCue (cCueH x vp vm)) = AV.agg (A.nnL shCue (cCue x))
  rw [q3]; rfl
end
end Go.Proofs.Ytphgchakmkankaa

namespace Go.Proofs.Ytphgchakmkankaa
set_option linter.unusedSectionVars false
set_option linter.unusedVariables false
set_option linter.unusedSimpArgs false
open HP
theorem loop_hs {α : Type} {f : List AV → Heap → Option LS} {Q : LS → Prop} (l : List α) (I : Nat → List AV → Heap → Prop) {v0 : List AV} {σ : Heap}
  (hstep : ∀ i x v σ, l[i]? = some x → I i v σ → ∃ v' σ', f v σ = some (.normal, v', σ') ∧ I (i + 1) v' σ')
  (hend : ∀ v σ, I l.length v σ → ∃ q, f v σ = some q ∧ q.1 ≠ .normal ∧ Q q) (h0 : I 0 v0 σ) : ∃ q, A.loop f v0 σ = some q ∧ Q q := by
 have key : ∀ (k i : Nat) v σ, l.length - i ≤ k → i ≤ l.length → I i v σ → ∃ q, (∃ n, A.iter f n v σ = some q) ∧ Q q := by
  intro k
  induction k with
  | zero =>
   intro i v σ hk hle hI
   have : i = l.length := by omega
   subst this
   obtain ⟨q, h1, h2, h3⟩ := hend v σ hI
   exact ⟨q, loop_done h1 h2, h3⟩
  | succ k ih =>
   intro i v σ hk hle hI
   by_cases hi : i < l.length
   ·obtain ⟨v', σ', h1, h2⟩ := hstep i _ v σ (List.getElem?_eq_getElem hi) hI
    obtain ⟨q, hq, hQ⟩ := ih (i + 1) v' σ' (by omega) (by omega) h2
    exact ⟨q, loop_step h1 hq, hQ⟩
   ·have : i = l.length := by omega
    subst this
    obtain ⟨q, h1, h2, h3⟩ := hend v σ hI
    exact ⟨q, loop_done h1 h2, h3⟩
 obtain ⟨q, ⟨n, hn⟩, hQ⟩ := key _ 0 v0 σ (Nat.le_refl _) (Nat.zero_le _) h0
 exact ⟨q, loop_of_iter hn, hQ⟩
theorem loop_k {β : Type} {f : List AV → Heap → Option LS} {K : LS → Option β} {v0 : List AV} {σ : Heap} {P : β → Prop} {Q : LS → Prop} (h : ∃ q, A.loop f v0 σ = some q ∧ Q q) (k : ∀ q, Q q → ∃ b, K q = some b ∧ P b) : ∃ b, (A.loop f v0 σ).bind K = some b ∧ P b := by
 obtain ⟨q, h1, h2⟩ := h
 obtain ⟨b, h3, h4⟩ := k q h2
 exact ⟨b, by rw [h1]; exact h3, h4⟩
section
variable {α : Type} {c : α → List AV} {sz : Nat} {B : Blk → Prop} {σ0 σ : Heap} {R : HP} {v : AV} {l : List α}
theorem slf_at (H : Hs B σ0 σ (Sl (fl c) sz v l * R)) {i : Nat} {x : α} (hx : l[i]? = some x) : ∃ p, A.iaddr sz v (.int .i64 (i : Int)) = some p ∧ A.deref p σ = some (c x) := by
 have hi := (List.getElem?_eq_some_iff.1 hx).1
 rcases slf_cases H with ⟨rfl, _, _⟩ | ⟨id, g, rfl, K⟩
 ·simp at hx
 ·obtain ⟨h1, h2⟩ := hs_get K
  have hi' : ((i : Int) < (l.length : Int)) := by omega
  exact ⟨.oe id g i 0, by simp [A.iaddr, A.idx, hi'], by simp [A.deref, h2, hx]⟩
theorem clo_gen {most : Nat} {m r : List AV → Heap → Option (AV × Heap)} {r0 : AV → Heap → Option (AV × Heap)} (hm : m = A.cloneZ (A.wrap true [(.s sz)] .k (A.ar1 r0))) (hr : ∀ a σ, r0 a σ = (A.eqN a .nsl).bind fun x1 => A.cond x1 (some (.nsl, σ)) ((A.append sz most .ez a σ).bind fun r2 => some (r2.1, r2.2)))
  (hl : l.length ≤ most) (hB : ∀ g g' seg, (seg = [] ∨ B (.arr g sz seg)) → B (.arr g' sz (seg ++ l.map c))) (H : Hs B σ0 σ R) : ∃ v σ', m [sl sz c l] σ = some (v, σ') ∧ A.cell v = some v ∧ Hs B σ0 σ' (Sl (fl c) sz v l * R) := by
 subst hm
 cases l with
 | nil => exact ⟨.ez, σ, rfl, rfl, slz H (.inr rfl)⟩
 | cons x l =>
  obtain ⟨v', σ', e1, H2⟩ := sl_app (B := B) (E := fl c) (sz := sz) (v := .ez) (l := []) (ys := (x :: l).map c) (xs := x :: l) (most := most) (slz (els_fl.2 ⟨rfl, H⟩) (.inr rfl)) (by simpa using hl) hB
  have hv : A.cell v' = some v' := by
   rcases slf_cases H2 with ⟨h, _, _⟩ | ⟨id, g, rfl, _⟩
   ·cases h
   ·rfl
  refine ⟨v', σ', ?_, hv, H2⟩
  show A.wrap true [(.s sz)] .k (A.ar1 r0) [sl sz c (x :: l)] σ = _
  refine wrap_eq rfl ?_ rfl
  show r0 (sl sz c (x :: l)) σ = _
  rw [hr, show A.eqN (sl sz c (x :: l)) .nsl = some (.bool false) from rfl, Option.bind_some, cnd_f, show sl sz c (x :: l) = .sl sz ((x :: l).map c) from rfl, e1]
  rfl
end
section
variable {σ0 σ : Heap} {R : HP}
theorem cloM {l : List MoveD} (hl : l.length ≤ 2199023255552) (H : Hs anyB σ0 σ R) : ∃ v σ', m_slices_Clone_api_Move [sl 8 cMove l] σ = some (v, σ') ∧ A.cell v = some v ∧ Hs anyB σ0 σ' (Sl (fl cMove) 8 v l * R) :=
 clo_gen (most := 140737488355328 / 64) (r := fun _ _ => none) rfl (fun _ _ => rfl) (by simpa using hl) (fun _ _ _ _ => trivial) H
theorem cloP {l : List PointD} (hl : l.length ≤ 8796093022208) (H : Hs anyB σ0 σ R) : ∃ v σ', m_slices_Clone_api_Point [sl 2 cPoint l] σ = some (v, σ') ∧ A.cell v = some v ∧ Hs anyB σ0 σ' (Sl (fl cPoint) 2 v l * R) :=
 clo_gen (most := 140737488355328 / 16) (r := fun _ _ => none) rfl (fun _ _ => rfl) (by simpa using hl) (fun _ _ _ _ => trivial) H
theorem cloC {l : List CueD} (hl : l.length ≤ 1099511627776) (H : Hs anyB σ0 σ R) : ∃ v σ', m_slices_Clone_api_Cue [sl 11 cCue l] σ = some (v, σ') ∧ A.cell v = some v ∧ Hs anyB σ0 σ' (Sl (fl cCue) 11 v l * R) :=
 clo_gen (most := 140737488355328 / 128) (r := fun _ _ => none) rfl (fun _ _ => rfl) (by simpa using hl) (fun _ _ _ _ => trivial) H
def putM (l : List MoveD) (m : MoveD) : List MoveD := if hasM l m.key = true then l.set (posM l m.key) m else l.take (posM l m.key) ++ [m] ++ l.drop (posM l m.key)
theorem hasM_lt {l : List MoveD} (hs : srtM l) {k : KeyD} (h : hasM l k = true) : ∃ x, l[posM l k]? = some x := by
 rw [← posM_has hs] at h
 cases hx : l[posM l k]? with
 | none => rw [hx] at h; cases h
 | some x => exact ⟨x, rfl⟩
theorem insM {v : AV} {l : List MoveD} {m : MoveD} {i : Nat} (hi : i ≤ l.length) (hl : l.length < 2199023255552) (H : Hs anyB σ0 σ (Sl (fl cMove) 8 v l * R)) :
  ∃ v' σ', m_slices_Insert_api_Move [v, .int .i64 (i : Int), .sl 8 [cMove m]] σ = some (v', σ') ∧ A.cell v' = some v' ∧ Hs anyB σ0 σ' (Sl (fl cMove) 8 v' (l.take i ++ [m] ++ l.drop i) * R) := by
 obtain ⟨v', σ', e, H2⟩ := sl_ins (most := 140737488355328 / 64) (zs := [(AV.int .i64 0), (AV.str ⟨#[]⟩), (AV.int .i64 0), (AV.int .i64 0), (AV.bool false), (AV.bool false), (AV.int .i64 0), (AV.int .i64 0)]) (rot := m_slices_rotateRight_api_Move) (B := anyB) (E := fl cMove) (y := m) (ye := cMove m)
  (hs_eq (show pr (cMove m = cMove m) * (Sl (fl cMove) 8 v l * R) = _ by rw [show fl cMove (cMove m) m = pr (cMove m = cMove m) from rfl]; ac_rfl) (hs_pr.2 ⟨rfl, H⟩)) hi (by omega) (by omega) (fun _ _ _ _ _ => trivial)
 have hv : A.cell v' = some v' := by
  rcases slf_cases H2 with ⟨h, _, _⟩ | ⟨id, g, rfl, _⟩
  ·simp at h
  ·rfl
 refine ⟨v', σ', ?_, hv, H2⟩
 unfold m_slices_Insert_api_Move A.wrap
 rw [Bool.false_and, cond_false, show A.nnL [] [v, .int .i64 (i : Int), .sl 8 [cMove m]] = [v, .int .i64 (i : Int), .sl 8 [cMove m]] by simp [A.nnL]]
 show (r_slices_Insert_api_Move v (.int .i64 (i : Int)) (.sl 8 [cMove m]) σ).map _ = _
 rw [show r_slices_Insert_api_Move v (.int .i64 (i : Int)) (.sl 8 [cMove m]) σ = some (v', σ') from e]
 simp [nn_k]
theorem cell_sl {α : Type} {E : List AV → α → HP} {sz : Nat} {B : Blk → Prop} {v : AV} {l : List α} (H : Hs B σ0 σ (Sl E sz v l * R)) : A.cell v = some v := by
 rcases sl_cases H with ⟨_, rfl | rfl, _⟩ | ⟨id, g, seg, rfl, _⟩ <;> rfl
theorem row_move (m : MoveD) : (((A.cells 8 (.agg (cMove m))).bind fun c22 => (A.splice 0 c22 [(AV.int .i64 0), (AV.str ⟨#[]⟩), (AV.int .i64 0), (AV.int .i64 0), (AV.bool false), (AV.bool false), (AV.int .i64 0), (AV.int .i64 0)]).bind fun c23 => some c23).bind fun cs => some (AV.sl 8 (chunks 8 1 cs))) = some (.sl 8 [cMove m]) := rfl
theorem setM {v : AV} {l : List MoveD} {m : MoveD} {i : Nat} {x : MoveD} (hx : l[i]? = some x) (H : Hs anyB σ0 σ (Sl (fl cMove) 8 v l * R)) :
  ∃ p σ', A.iaddr 8 v (.int .i64 (i : Int)) = some p ∧ A.storeAt p (cMove m) σ = some σ' ∧ Hs anyB σ0 σ' (Sl (fl cMove) 8 v (l.set i m) * R) := by
 obtain ⟨p, F, e, h1, hC, K, back⟩ := sl_cell H hx
 have he : e = cMove x := (hs_pr.1 (hs_drop K)).1
 subst he
 have K2 := hs_drop (hs_eq (show _ = pr (cMove x = cMove x) * (F (cMove x) * R) by rw [show fl cMove (cMove x) x = pr (cMove x = cMove x) from rfl]; ac_rfl) K)
 obtain ⟨σ', h2, K3⟩ := hC.st K2 (sp_cMove m (cMove x) rfl)
 refine ⟨p, σ', h1, h2, back (e := cMove m) (hs_eq (show pr (cMove m = cMove m) * (F (cMove m) * R) = _ by rw [show fl cMove (cMove m) m = pr (cMove m = cMove m) from rfl]; ac_rfl) (hs_pr.2 ⟨rfl, K3⟩))⟩
theorem faddr_at {p : AV} {F : List AV → HP} (hC : Cl p F) {e : List AV} (o : Nat) (H : Hs anyB σ0 σ (F e * R)) {vm : AV} (h1 : A.part1 0 (e.drop o) = some vm) : ∃ q, A.faddr o p = some q ∧ ((A.deref q σ).bind fun c => A.part1 0 c) = some vm := by
 obtain ⟨q, a1, a2, _⟩ := hC.fa o
 exact ⟨q, a1, by rw [a2 H, Option.bind_some, h1]⟩
theorem moveAt_own {e : List AV} {x : CueD} (H : Hs anyB σ0 σ (CueF e x * R)) (hs : srtM x.moves) (hl : x.moves.length < 4611686018427387904) (k : KeyD) : m_cue_moveAt [.agg e, .agg (cKey k)] σ = some (.tup [.int .i64 (posM x.moves k : Int), .bool (hasM x.moves k)], σ) :=
 lent (ain := [.a shCue]) (ts := [.agg (cCue x), .agg (cKey k)]) ⟨lt_cueF H, lt_fz (fz_agg (fz_cKey k)) rfl, trivial⟩ (fun σ => moveAt_t hs hl k σ) rfl
theorem put_s {p : AV} {F : List AV → HP} {e : List AV} {x : CueD} {m : MoveD} (hC : Cl p F) (H : Hs anyB σ0 σ (F e * (CueE e x * R))) (hs : srtM x.moves) (hl : x.moves.length < 2199023255552) :
  ∃ σ' e', m_cue_put [p, .agg (cMove m)] σ = some (.tup [], σ') ∧ Hs anyB σ0 σ' (F e' * (CueE e' { x with moves := putM x.moves m } * R)) := by
 obtain ⟨vp, vm, he, K⟩ := cueP (hs_eq (show _ = CueP (Sl (fl cMove) 8) e x * (F e * R) from by rw [show CueE e x = CueP (Sl (fl cMove) 8) e x from rfl]; ac_rfl) H)
 have hat := moveAt_own (cue_weak (hs_eq (show _ = CueE e x * (F e * R) by ac_rfl) H)) hs (by omega) m.key
 have hld := hC.ld H
 have hmv : Hs anyB σ0 σ (Sl (fl cMove) 8 vm x.moves * (F e * (Sf cPoint 2 vp x.curve.points * R))) := hs_eq (by ac_rfl) K
 have mk : ∀ {σ : Heap} {vm' : AV} {l : List MoveD}, Hs anyB σ0 σ (F (cCueH x vp vm') * (Sl (fl cMove) 8 vm' l * (Sf cPoint 2 vp x.curve.points * R))) → Hs anyB σ0 σ (F (cCueH x vp vm') * (CueE (cCueH x vp vm') { x with moves := l } * R)) := by
  intro σ vm' l K
  have := cueP_of (M := Sl (fl cMove) 8) (x := { x with moves := l }) (e := cCueH x vp vm') (vp := vp) (vm := vm') (R := F (cCueH x vp vm') * R) (B := anyB) (σ0 := σ0) (σ := σ) rfl (hs_eq (by ac_rfl) K)
  exact hs_eq (by rw [show CueE (cCueH x vp vm') { x with moves := l } = CueP (Sl (fl cMove) 8) (cCueH x vp vm') { x with moves := l } from rfl]; ac_rfl) this
 have run : ∃ σ' e', r_cue_put p (.agg (cMove m)) σ = some (.tup [], σ') ∧ Hs anyB σ0 σ' (F e' * (CueE e' { x with moves := putM x.moves m } * R)) := by
  subst he
  unfold r_cue_put
  rw [ce_cMove, Option.bind_some, hC.nc, Option.bind_some, hld, Option.bind_some]
  rw [show A.partA 0 11 (cCueH x vp vm) = some (.agg (cCueH x vp vm)) from rfl, Option.bind_some, pA_cMove_key, Option.bind_some, quiet_of hat, Option.bind_some]
  show ∃ σ' e', A.cond (.bool (hasM x.moves m.key)) _ _ = _ ∧ _
  obtain ⟨q, f1, f2⟩ := faddr_at hC 10 H (vm := vm) (by
   have := cell_sl hmv
   simp only [cCueH, List.drop_succ_cons, List.drop_zero, A.part1, List.getElem?_cons_zero, Option.bind_some]
   exact this)
  cases hh : hasM x.moves m.key
  ·rw [cnd_f]
   rw [Option.bind_some, f1, Option.bind_some, f2, Option.bind_some, pA_cMove, Option.bind_some, row_move, Option.bind_some]
   obtain ⟨v', σ1, e1, e2, H1⟩ := insM (m := m) (posM_le x.moves m.key) hl hmv
   rw [e1, Option.bind_some, Option.bind_some]
   simp only
   rw [f1, Option.bind_some, e2, Option.bind_some, Option.bind_some]
   obtain ⟨q', g1, _, g3⟩ := hC.fa 10
   rw [f1] at g1; injection g1 with g1; subst g1
   obtain ⟨σ2, e3, H2⟩ := g3 (hs_eq (show _ = F (cCueH x vp vm) * (Sl (fl cMove) 8 v' (x.moves.take (posM x.moves m.key) ++ [m] ++ x.moves.drop (posM x.moves m.key)) * (Sf cPoint 2 vp x.curve.points * R)) by ac_rfl) H1) (new := [v']) (e' := cCueH x vp v') rfl
   rw [e3, Option.bind_some]
   refine ⟨σ2, cCueH x vp v', rfl, ?_⟩
   rw [putM, if_neg (by rw [hh]; decide)]
   exact mk H2
  ·rw [cnd_t]
   obtain ⟨y, hy⟩ := hasM_lt hs hh
   obtain ⟨pp, σ1, e1, e2, H1⟩ := setM (m := m) hy hmv
   rw [Option.bind_some, f1, Option.bind_some, f2, Option.bind_some, pA_cMove, Option.bind_some, e1, Option.bind_some, ce_cMove, Option.bind_some, e2, Option.bind_some]
   refine ⟨σ1, cCueH x vp vm, rfl, ?_⟩
   rw [putM, if_pos hh]
   exact mk (hs_eq (by ac_rfl) H1)
 obtain ⟨σ', e', h1, h2⟩ := run
 refine ⟨σ', e', ?_, h2⟩
 unfold m_cue_put A.wrap
 rw [Bool.false_and, cond_false, show A.nnL [] [p, .agg (cMove m)] = [p, .agg (cMove m)] by simp [A.nnL]]
 show (r_cue_put p (.agg (cMove m)) σ).map _ = _
 rw [h1]
 simp [nn_k]
end
end Go.Proofs.Ytphgchakmkankaa

namespace Go.Proofs.Ytphgchakmkankaa
set_option linter.unusedSectionVars false
set_option linter.unusedVariables false
set_option linter.unusedSimpArgs false
open HP
section
variable {σ0 σ : Heap} {R : HP}
def Small (l : List CueD) : Prop := l.length ≤ 1099511627776 ∧ ∀ c ∈ l, c.moves.length ≤ 2199023255552 ∧ c.curve.points.length ≤ 8796093022208
theorem row_cueH (x : CueD) (vp vm : AV) : (((A.cells 11 (.agg (cCueH x vp vm))).bind fun c20 => (A.splice 0 c20 [(AV.int .i64 0), (AV.str ⟨#[]⟩), (AV.int .i64 0), (AV.int .i64 0), (AV.int .i64 0), (AV.int .i64 0), (AV.int .i64 0), AV.nsl, (AV.bool false), (AV.int .i64 0), AV.nsl]).bind fun c21 => some c21).bind fun cs => some (AV.sl 11 (chunks 11 1 cs))) = some (.sl 11 [cCueH x vp vm]) := rfl
theorem copied_s {l : List CueD} (hl : Small l) (hx : l.length ≤ mxl) (H : Hs anyB σ0 σ R) : ∃ v σ', m_cue_copied [sl 11 cCue l] σ = some (v, σ') ∧ Hs anyB σ0 σ' (Sl CueE 11 v l * R) := by
 have run : ∃ b : AV × Heap, r_cue_copied (sl 11 cCue l) σ = some b ∧ Hs anyB σ0 b.2 (Sl CueE 11 b.1 l * R) := by
  unfold r_cue_copied
  rw [lenS_sl, Option.bind_some]
  refine loop_k (Q := fun q => ∃ v w, q.1 = .exit 0 ∧ q.2.1 = [v, w] ∧ Hs anyB σ0 q.2.2 (Sl CueE 11 v l * R)) (loop_hs l (fun i v s => ∃ h, v = [h, .int .i64 (i : Int)] ∧ Hs anyB σ0 s (Sl CueE 11 h (l.take i) * R)) ?_ ?_ ⟨.nsl, rfl, slz H (.inl rfl)⟩) ?_
  ·rintro i x v s hx1 ⟨h, rfl, K⟩
   obtain ⟨hm, hp⟩ := hl.2 x (List.mem_of_getElem? hx1)
   have hi := (List.getElem?_eq_some_iff.1 hx1).1
   simp only [List.getD_cons_succ, List.getD_cons_zero]
   rw [ix_lt hx1, Option.bind_some, cnd_t, ix_for hx1, Option.bind_some]
   simp only [A.deref, Option.bind_some]
   rw [pA_cCue, Option.bind_some, ce_cCue, Option.bind_some, sp_cCue _ _ rfl, Option.bind_some, show A.part1 7 (cCue x) = some (sl 2 cPoint x.curve.points) from rfl, Option.bind_some]
   obtain ⟨vp, s1, e1, e2, K1⟩ := cloP hp K
   rw [e1, Option.bind_some, e2, Option.bind_some, Option.bind_some, show A.splice 7 [vp] (cCue x) = some (cCueH x vp (sl 8 cMove x.moves)) from rfl, Option.bind_some, show A.part1 10 (cCueH x vp (sl 8 cMove x.moves)) = some (sl 8 cMove x.moves) from rfl, Option.bind_some]
   obtain ⟨vm, s2, e3, e4, K2⟩ := cloM hm K1
   rw [e3, Option.bind_some, e4, Option.bind_some, Option.bind_some, show A.splice 10 [vm] (cCueH x vp (sl 8 cMove x.moves)) = some (cCueH x vp vm) from rfl, Option.bind_some, show A.partA 0 11 (cCueH x vp vm) = some (.agg (cCueH x vp vm)) from rfl, Option.bind_some, row_cueH, Option.bind_some]
   have K3 := cueP_of (M := Sl (fl cMove) 8) (x := x) (e := cCueH x vp vm) rfl (hs_eq (show _ = Sf cPoint 2 vp x.curve.points * (Sl (fl cMove) 8 vm x.moves * (Sl CueE 11 h (l.take i) * R)) by ac_rfl) (sf_own (hs_eq (show _ = Sl (fl cPoint) 2 vp x.curve.points * (Sl (fl cMove) 8 vm x.moves * (Sl CueE 11 h (l.take i) * R)) by ac_rfl) K2)))
   have K4 := hs_eq (show _ = Sl CueE 11 h (l.take i) * (els CueE [cCueH x vp vm] [x] * R) by rw [els_one, show CueE (cCueH x vp vm) x = CueP (Sl (fl cMove) 8) (cCueH x vp vm) x from rfl]; ac_rfl) K3
   have hm2 := hl.1
   obtain ⟨h', s3, e5, K5⟩ := sl_app (most := 140737488355328 / 128) K4 (by simp; omega) (fun _ _ _ _ => trivial)
   rw [e5, Option.bind_some, ix_inc hx1 hx, Option.bind_some]
   refine ⟨_, _, rfl, h', rfl, ?_⟩
   rw [List.take_add_one, hx1]
   exact K5
  ·rintro v s ⟨h, rfl, K⟩
   simp only [List.getD_cons_succ, List.getD_cons_zero]
   rw [ix_end, Option.bind_some, cnd_f]
   refine ⟨_, rfl, by simp, h, _, rfl, rfl, ?_⟩
   rw [List.take_length] at K; exact K
  ·rintro ⟨e, v, s⟩ ⟨h, w, h1, h2, K⟩
   simp only at h1 h2 K
   subst h1; subst h2
   exact ⟨_, rfl, K⟩
 obtain ⟨⟨v, σ'⟩, h1, h2⟩ := run
 refine ⟨v, σ', wrap_eq rfl ?_ rfl, h2⟩
 rw [show A.nnL [Sh.e 11 [.k, .k, .k, .k, .k, .k, .k, .s 2, .k, .k, .s 8]] [sl 11 cCue l] = [sl 11 cCue l] from nn_t1 (nn_e (fun _ => rfl) _) rfl]
 exact h1
theorem elsF_part {B : Blk → Prop} {seg : List (List AV)} {l : List CueD} {R : HP} (H : Hs B σ0 σ (els CueF seg l * R)) (hl : seg.length = l.length) (lo n : Nat) : Hs B σ0 σ (els CueF ((seg.drop lo).take n) ((l.drop lo).take n) * (els CueF (seg.take lo) (l.take lo) * (els CueF ((seg.drop lo).drop n) ((l.drop lo).drop n) * R))) := by
 refine hs_eq ?_ H
 have e1 : els CueF seg l = els CueF (seg.take lo) (l.take lo) * els CueF (seg.drop lo) (l.drop lo) := by
  rw [← els_app (by simp; omega), List.take_append_drop, List.take_append_drop]
 have e2 : els CueF (seg.drop lo) (l.drop lo) = els CueF ((seg.drop lo).take n) ((l.drop lo).take n) * els CueF ((seg.drop lo).drop n) ((l.drop lo).drop n) := by
  rw [← els_app (by simp; omega), List.take_append_drop, List.take_append_drop]
 rw [e1, e2]
 ac_rfl
theorem lt_part {v : AV} {l : List CueD} {lo hi : Nat} (H : Hs anyB σ0 σ (Sl CueE 11 v l * R)) (h1 : lo ≤ hi) (h2 : hi ≤ l.length) : ∃ v', A.sliceS 11 v (some (.int .i64 (lo : Int))) (some (.int .i64 (hi : Int))) σ = some v' ∧ Lt σ (.e 11 shCue) v' (sl 11 cCue ((l.drop lo).take (hi - lo))) := by
 rcases sl_cases (cues_weak H) with ⟨rfl, hv, _⟩ | ⟨id, g, seg, rfl, hl, K⟩
 ·have hz : hi = 0 := by simpa using h2
  have hz2 : lo = 0 := by omega
  subst hz; subst hz2
  rcases hv with rfl | rfl
  ·exact ⟨.nsl, by simp [A.sliceS, bnd_s (y := 0) (k := 0) (Nat.le_refl 0)]; rfl, lt_cues H⟩
  ·exact ⟨.ez, by simp [A.sliceS, bnd_s (y := 0) (k := 0) (Nat.le_refl 0)]; rfl, lt_cues H⟩
 ·obtain ⟨k1, k2⟩ := hs_get K
  refine ⟨_, slo (room_arr k2 (by omega)) (bnd_s (k := hi) (by omega)) (bnd_s (k := lo) h1), ?_⟩
  have K2 := elsF_part (hs_eq (show _ = els CueF seg l * (blk id (.arr g 11 seg) * R) by ac_rfl) K) hl lo (hi - lo)
  obtain ⟨seg', e1, e2⟩ := elsF_fz K2 (Nat.zero_le _) 6
  refine ⟨⟨.sl 11 seg', ?_, rfl, ?_⟩, rfl, fun ho => by cases ho⟩
  ·simp only [A.frz, Nat.not_lt_zero, if_false, k2]
   rw [if_pos (by simp; omega), Nat.zero_add, frzLL_eq, e1]
   rfl
  ·rw [nn_idem_cues]; simp only [A.nn, e2]; rfl
theorem moved_own {v v' : AV} {l : List CueD} {lo hi : Nat} (H : Hs anyB σ0 σ (Sl CueE 11 v l * R)) (h1 : lo ≤ hi) (h2 : hi ≤ l.length) (hl : l.length ≤ mxl) (hm : ∀ c ∈ l, srtM c.moves ∧ c.moves.length < 4611686018427387904) (k : KeyD) :
  ∃ v', A.sliceS 11 v (some (.int .i64 (lo : Int))) (some (.int .i64 (hi : Int))) σ = some v' ∧ m_cue_moved [v', .agg (cKey k)] σ = some (.bool (((l.drop lo).take (hi - lo)).any fun c => hasM c.moves k), σ) := by
 obtain ⟨v', e1, e2⟩ := lt_part H h1 h2
 refine ⟨v', e1, ?_⟩
 exact lent (ain := [.e 11 shCue]) (ts := [sl 11 cCue ((l.drop lo).take (hi - lo)), .agg (cKey k)]) ⟨e2, lt_fz (fz_agg (fz_cKey k)) rfl, trivial⟩
  (fun σ => moved_t (by simp; omega) (fun c hc => hm c (List.mem_of_mem_drop (List.mem_of_mem_take hc))) k σ) rfl
theorem blocked_own {v : AV} {l : List CueD} (H : Hs anyB σ0 σ (Sl CueE 11 v l * R)) (hl : l.length < 4611686018427387904) (i : Nat) : m_cue_blocked [v, .int .i64 (i : Int)] σ = some (.int .i64 (match blkF l i with | some j => (j : Int) | none => -1), σ) :=
 lent (ain := [.e 11 shCue]) (ts := [sl 11 cCue l, .int .i64 (i : Int)]) ⟨lt_cues H, lt_int _, trivial⟩ (fun σ => h_cue_blocked (blocked_t hl i)) rfl
theorem fin_hs {v v' : AV} (H : Hs anyB σ0 σ R) (h : A.frz σ σ0.length 8 v = some v') (hv : σ = σ0 → v' = v) : A.fin σ0 v σ = some (v', σ0) := by
 obtain ⟨⟨bs, rfl, _⟩, _⟩ := H
 by_cases hbs : bs = []
 ·subst hbs
  rw [List.append_nil] at h ⊢
  rw [fin_same, hv (by simp)]
 ·unfold A.fin
  rw [if_neg (by simpa using hbs), if_pos (by simp), h]; rfl
end
end Go.Proofs.Ytphgchakmkankaa

namespace Go.Proofs.Ytphgchakmkankaa
set_option linter.unusedSectionVars false
set_option linter.unusedVariables false
set_option linter.unusedSimpArgs false
open HP
theorem small_of {l : List CueD} (h : Good l) : Small l := ⟨by have := h.len; omega, fun c hc => ⟨by have := (h.mv c hc).1; omega, by have := h.pts c hc; omega⟩⟩
theorem srt_put {l : List MoveD} (h : srtM l) (m : MoveD) : srtM (putM l m) := by
 unfold putM
 have hlt : ∀ x ∈ l.take (posM l m.key), ltK x.key m.key = true := fun x hx => by
  obtain ⟨i, hi⟩ := List.mem_iff_getElem?.1 hx
  rw [List.getElem?_take] at hi
  split at hi
  ·rename_i hlt; exact (posM_lt h hi).2 hlt
  ·cases hi
 have hge : ∀ x ∈ l.drop (posM l m.key), ltK x.key m.key = false := fun x hx => by
  obtain ⟨i, hi⟩ := List.mem_iff_getElem?.1 hx
  rw [List.getElem?_drop] at hi
  cases hq : ltK x.key m.key
  ·rfl
  ·have := (posM_lt h hi).1 hq; omega
 split
 ·rename_i hh
  obtain ⟨y, hy⟩ := hasM_lt h hh
  have hk : y.key = m.key := by
   have := posM_has (k := m.key) h
   rw [hh, hy] at this
   simpa using this
  unfold srtM at h ⊢
  rw [List.pairwise_iff_getElem] at h ⊢
  intro i j hi hj hij
  simp only [List.length_set] at hi hj
  have hp := (List.getElem?_eq_some_iff.1 hy).1
  have key : ∀ k (hk' : k < l.length), ((l.set (posM l m.key) m)[k]'(by simpa using hk')).key = l[k].key := by
   intro k hk'
   rw [List.getElem_set]
   split
   ·rename_i e; subst e; exact hk.symm.trans (congrArg MoveD.key (List.getElem?_eq_some_iff.1 hy).2.symm)
   ·rfl
  rw [key i hi, key j hj]
  exact h i j hi hj hij
 ·rename_i hh
  unfold srtM at h ⊢
  rw [List.append_assoc, List.pairwise_append]
  refine ⟨h.sublist (List.take_sublist _ _), ?_, fun x hx y hy => ?_⟩
  ·rw [List.singleton_append, List.pairwise_cons]
   refine ⟨fun y hy => ?_, h.sublist (List.drop_sublist _ _)⟩
   cases hq : ltK m.key y.key
   ·exfalso
    have e := ltK_tri hq (hge y hy)
    exact hh (List.any_eq_true.2 ⟨y, List.mem_of_mem_drop hy, by simp [e]⟩)
   ·rfl
  ·rcases List.mem_append.1 hy with hy | hy
   ·simp at hy; subst hy; exact hlt x hx
   ·have e : l.take (posM l m.key) ++ l.drop (posM l m.key) = l := List.take_append_drop _ _
    rw [← e, List.pairwise_append] at h
    exact h.2.2 x hx y hy
theorem put_len (l : List MoveD) (m : MoveD) : (putM l m).length ≤ l.length + 1 := by
 unfold putM
 split
 ·simp
 ·simp; omega
theorem has_put {l : List MoveD} (hs : srtM l) (m : MoveD) (k : KeyD) : hasM (putM l m) k = (hasM l k || decide (m.key = k)) := by
 rw [Bool.eq_iff_iff]
 simp only [Bool.or_eq_true, decide_eq_true_eq]
 unfold hasM putM
 split
 ·rename_i hh
  obtain ⟨y, hy⟩ := hasM_lt hs hh
  have hp := (List.getElem?_eq_some_iff.1 hy).1
  have hk : y.key = m.key := by
   have := posM_has (k := m.key) hs
   rw [hh, hy] at this
   simpa using this
  simp only [List.any_eq_true, decide_eq_true_eq]
  constructor
  ·rintro ⟨x, hx, e⟩
   rcases List.mem_or_eq_of_mem_set hx with hx | hx
   ·exact .inl ⟨x, hx, e⟩
   ·subst hx; exact .inr e
  ·rintro (⟨x, hx, e⟩ | e)
   ·by_cases hm : m.key = k
    ·exact ⟨m, List.mem_of_getElem? (i := posM l m.key) (by rw [List.getElem?_set_self hp]), hm⟩
    ·obtain ⟨i, hi⟩ := List.mem_iff_getElem?.1 hx
     have hne : posM l m.key ≠ i := fun e' => hm (by rw [← e', hy] at hi; injection hi with hi; rw [← hk, hi, e])
     exact ⟨x, List.mem_of_getElem? (i := i) (by rw [List.getElem?_set_ne hne, hi]), e⟩
   ·exact ⟨m, List.mem_of_getElem? (i := posM l m.key) (by rw [List.getElem?_set_self hp]), e⟩
 ·have e : l = l.take (posM l m.key) ++ l.drop (posM l m.key) := (List.take_append_drop _ _).symm
  simp only [List.any_append, List.any_cons, List.any_nil, Bool.or_eq_true, decide_eq_true_eq, Bool.or_false]
  conv => rhs; lhs; rw [e, List.any_append, Bool.or_eq_true]
  constructor
  ·rintro ((h | h) | h)
   ·exact .inl (.inl h)
   ·exact .inr h
   ·exact .inl (.inr h)
  ·rintro ((h | h) | h)
   ·exact .inl (.inl h)
   ·exact .inr h
   ·exact .inl (.inr h)
def setMv (l : List CueD) (i : Nat) (g : List MoveD → List MoveD) : List CueD := match l[i]? with
 | some c => l.set i { c with moves := g c.moves }
 | none => l
theorem setMv_len (l : List CueD) (i : Nat) (g : List MoveD → List MoveD) : (setMv l i g).length = l.length := by unfold setMv; split <;> simp
def Inv (k : Nat) (l : List CueD) : Prop := l.length ≤ 1000 ∧ ∀ c ∈ l, srtM c.moves ∧ c.moves.length ≤ 2000 + k
theorem Inv.mono {k k' : Nat} {l : List CueD} (h : Inv k l) (hk : k ≤ k') : Inv k' l := ⟨h.1, fun c hc => ⟨(h.2 c hc).1, by have := (h.2 c hc).2; omega⟩⟩
theorem Inv.setMv {k : Nat} {l : List CueD} (h : Inv k l) (i : Nat) (m : MoveD) : Inv (k + 1) (setMv l i (putM · m)) := by
 refine ⟨by rw [setMv_len]; exact h.1, fun c hc => ?_⟩
 unfold Go.Proofs.Ytphgchakmkankaa.setMv at hc
 split at hc
 ·rename_i x hx
  rcases List.mem_or_eq_of_mem_set hc with hc | hc
  ·exact ⟨(h.2 c hc).1, by have := (h.2 c hc).2; omega⟩
  ·subst hc
   have hx' := h.2 x (List.mem_of_getElem? hx)
   exact ⟨srt_put hx'.1 m, by have := put_len x.moves m; show (putM x.moves m).length ≤ _; omega⟩
 ·exact ⟨(h.2 c hc).1, by have := (h.2 c hc).2; omega⟩
theorem Inv.erase {k : Nat} {l : List CueD} (h : Inv k l) (i : Nat) : Inv k (l.eraseIdx i) :=
 ⟨by have := List.length_eraseIdx_le l i; have := h.1; omega, fun c hc => h.2 c (List.mem_of_mem_eraseIdx hc)⟩
theorem inv_good {l : List CueD} (h : Good l) : Inv 0 l := ⟨by have := h.len; omega, fun c hc => ⟨(h.mv c hc).2, by have := (h.mv c hc).1; omega⟩⟩
theorem Inv.small {k : Nat} {l : List CueD} (h : Inv k l) (hk : k ≤ 100000) : ∀ c ∈ l, srtM c.moves ∧ c.moves.length < 4611686018427387904 := fun c hc => ⟨(h.2 c hc).1, by have := (h.2 c hc).2; omega⟩
section
variable {σ0 σ : Heap} {R : HP}
theorem put_at {v : AV} {l : List CueD} {k i : Nat} {x : CueD} (hi : l[i]? = some x) (m : MoveD) (hI : Inv k l) (hk : k ≤ 100000) (H : Hs anyB σ0 σ (Sl CueE 11 v l * R)) :
  ∃ p σ', A.iaddr 11 v (.int .i64 (i : Int)) = some p ∧ m_cue_put [p, .agg (cMove m)] σ = some (.tup [], σ') ∧ Hs anyB σ0 σ' (Sl CueE 11 v (setMv l i (putM · m)) * R) := by
 obtain ⟨p, F, e, h1, hC, K, back⟩ := sl_cell H hi
 have hx := hI.2 x (List.mem_of_getElem? hi)
 obtain ⟨σ', e', h2, K2⟩ := put_s (m := m) hC K hx.1 (by omega)
 refine ⟨p, σ', h1, h2, ?_⟩
 rw [setMv, hi]
 exact back K2
theorem foldl_take {α β : Type} (f : β → α → β) (b : β) (l : List α) {i : Nat} {x : α} (h : l[i]? = some x) : (l.take (i + 1)).foldl f b = f ((l.take i).foldl f b) x := by
 rw [List.take_add_one, h, Option.toList_some, List.foldl_append]; rfl
end
end Go.Proofs.Ytphgchakmkankaa

namespace Go.Proofs.Ytphgchakmkankaa
set_option linter.unusedSectionVars false
set_option linter.unusedVariables false
set_option linter.unusedSimpArgs false
open HP
section
variable {α β : Type} {E : List AV → β → HP} {f : α → β} {B : Blk → Prop} {σ0 σ : Heap} {R : HP} {sz : Nat} {v : AV}
theorem els_map : ∀ (seg : List (List AV)) (l : List α), els E seg (l.map f) = els (fun e x => E e (f x)) seg l
 | [], [] => rfl
 | [], _ :: _ => rfl
 | _ :: _, [] => rfl
 | e :: seg, x :: l => by rw [List.map_cons, els, els, els_map seg l]
theorem sl_map (l : List α) : Sl E sz v (l.map f) = Sl (fun e x => E e (f x)) sz v l := by
 funext h
 unfold Sl
 simp only [List.map_eq_nil_iff, List.length_map, els_map]
end
section
variable {σ0 σ : Heap} {R : HP} {v : AV}
theorem lt_slf {α : Type} {c : α → List AV} {sz : Nat} {l : List α} {vm : AV} (hc : ∀ x, FzL (c x)) (H : Hs anyB σ0 σ (Sl (fl c) sz vm l * R)) : Lt σ (.s sz) vm (sl sz c l) := by
 obtain ⟨v', h1, h2, h3⟩ := slf_fz H hc (Nat.zero_le _) 7
 refine ⟨⟨v', h1, ?_, by rw [h3]; rfl⟩, rfl, fun ho => ?_⟩
 ·rcases slf_cases H with ⟨rfl, rfl | rfl, _⟩ | ⟨id, g, rfl, K⟩
  ·simp [A.frz] at h1; subst h1; rfl
  ·simp [A.frz] at h1; subst h1; rfl
  ·cases v' <;> first | rfl | (cases h2; done) | (simp only [A.nn] at h3; cases h3)
 ·rcases slf_cases H with ⟨rfl, rfl | rfl, _⟩ | ⟨id, g, rfl, K⟩
  ·rfl
  ·rfl
  ·cases ho
theorem moveOf_own {l : List MoveD} {vm : AV} (H : Hs anyB σ0 σ (Sl (fl cMove) 8 vm l * R)) (hs : srtM l) (hl : l.length < 4611686018427387904) (k : KeyD) : m_R5_moveOf [vm, .agg (cKey k)] σ = some (.tup [.int .i64 (posM l k : Int), .bool (hasM l k)], σ) :=
 lent (ain := [.s 8]) (ts := [sl 8 cMove l, .agg (cKey k)]) ⟨lt_slf fz_cMove H, lt_fz (fz_agg (fz_cKey k)) rfl, trivial⟩ (fun σ => h_R5_moveOf (moveOf_t hs hl k)) rfl
theorem put5 {l : List MoveD} {vm : AV} {m : MoveD} (H : Hs anyB σ0 σ (Sl (fl cMove) 8 vm l * R)) (hs : srtM l) (hl : l.length < 2199023255552) : ∃ v' σ', m_R5_put [vm, .agg (cMove m)] σ = some (v', σ') ∧ A.cell v' = some v' ∧ Hs anyB σ0 σ' (Sl (fl cMove) 8 v' (putM l m) * R) := by
 have run : ∃ v' σ', r_R5_put vm (.agg (cMove m)) σ = some (v', σ') ∧ A.cell v' = some v' ∧ Hs anyB σ0 σ' (Sl (fl cMove) 8 v' (putM l m) * R) := by
  unfold r_R5_put
  rw [ce_cMove, Option.bind_some, pA_cMove_key, Option.bind_some, moveOf_own H hs (by omega), Option.bind_some]
  show ∃ v' σ', A.cond (.bool (hasM l m.key)) _ _ = _ ∧ _
  cases hh : hasM l m.key
  ·obtain ⟨v', σ1, e1, e2, H1⟩ := insM (m := m) (posM_le l m.key) hl H
   rw [cnd_f, pA_cMove, Option.bind_some, row_move, Option.bind_some, e1, Option.bind_some]
   refine ⟨v', σ1, rfl, e2, ?_⟩
   rw [putM, if_neg (by rw [hh]; decide)]; exact H1
  ·obtain ⟨y, hy⟩ := hasM_lt hs hh
   obtain ⟨pp, σ1, e1, e2, H1⟩ := setM (m := m) hy H
   rw [cnd_t, pA_cMove, Option.bind_some, e1, Option.bind_some, ce_cMove, Option.bind_some, e2, Option.bind_some]
   refine ⟨vm, σ1, rfl, cell_sl H, ?_⟩
   rw [putM, if_pos hh]; exact H1
 obtain ⟨v', σ', h1, h2⟩ := run
 refine ⟨v', σ', ?_, h2⟩
 unfold m_R5_put A.wrap
 rw [Bool.false_and, cond_false, show A.nnL [] [vm, .agg (cMove m)] = [vm, .agg (cMove m)] by simp [A.nnL]]
 show (r_R5_put vm (.agg (cMove m)) σ).map _ = _
 rw [h1]
 simp [nn_k]
theorem put5_cell {p : AV} {F : List AV → HP} {e : List AV} {x : CueD} (hC : Cl p F) (H : Hs anyB σ0 σ (F e * (CueE e x * R))) (hs : srtM x.moves) (hl : x.moves.length < 2199023255552) : ∃ q vm, A.faddr 10 p = some q ∧ ((A.deref q σ).bind fun c => A.part1 0 c) = some vm ∧ (∀ k, m_R5_moveOf [vm, .agg (cKey k)] σ = some (.tup [.int .i64 (posM x.moves k : Int), .bool (hasM x.moves k)], σ)) ∧
  ∀ m, ∃ v' σ1 σ2, m_R5_put [vm, .agg (cMove m)] σ = some (v', σ1) ∧ A.cell v' = some v' ∧ A.storeAt q [v'] σ1 = some σ2 ∧ ∃ e', Hs anyB σ0 σ2 (F e' * (CueE e' { x with moves := putM x.moves m } * R)) := by
 obtain ⟨vp, vm, he, K⟩ := cueP (hs_eq (show _ = CueP (Sl (fl cMove) 8) e x * (F e * R) from by rw [show CueE e x = CueP (Sl (fl cMove) 8) e x from rfl]; ac_rfl) H)
 subst he
 have hmv : Hs anyB σ0 σ (Sl (fl cMove) 8 vm x.moves * (F (cCueH x vp vm) * (Sf cPoint 2 vp x.curve.points * R))) := hs_eq (by ac_rfl) K
 obtain ⟨q, f1, f2⟩ := faddr_at hC 10 H (vm := vm) (by
  have := cell_sl hmv
  simp only [cCueH, List.drop_succ_cons, List.drop_zero, A.part1, List.getElem?_cons_zero, Option.bind_some]
  exact this)
 refine ⟨q, vm, f1, f2, fun k => moveOf_own hmv hs (by omega) k, fun m => ?_⟩
 obtain ⟨v', σ1, e1, e2, H1⟩ := put5 (m := m) hmv hs hl
 obtain ⟨q', g1, _, g3⟩ := hC.fa 10
 rw [f1] at g1; injection g1 with g1; subst g1
 obtain ⟨σ2, e3, H2⟩ := g3 (hs_eq (show _ = F (cCueH x vp vm) * (Sl (fl cMove) 8 v' (putM x.moves m) * (Sf cPoint 2 vp x.curve.points * R)) by ac_rfl) H1) (new := [v']) (e' := cCueH x vp v') rfl
 refine ⟨v', σ1, σ2, e1, e2, e3, cCueH x vp v', ?_⟩
 have := cueP_of (M := Sl (fl cMove) 8) (x := { x with moves := putM x.moves m }) (e := cCueH x vp v') (vp := vp) (vm := v') (R := F (cCueH x vp v') * R) (B := anyB) (σ0 := σ0) (σ := σ2) rfl (hs_eq (by ac_rfl) H2)
 exact hs_eq (by rw [show CueE (cCueH x vp v') { x with moves := putM x.moves m } = CueP (Sl (fl cMove) 8) (cCueH x vp v') { x with moves := putM x.moves m } from rfl]; ac_rfl) this
theorem set_mix {l : List CueD} {i : Nat} {x : CueD} (hx1 : l[i]? = some x) : ((l.take i).map (fun x => (x, true)) ++ (l.drop i).map (fun x => (x, false))).set i (x, true) = (l.take (i + 1)).map (fun x => (x, true)) ++ (l.drop (i + 1)).map (fun x => (x, false)) := by
 have hi := (List.getElem?_eq_some_iff.1 hx1).1
 have e : l.drop i = x :: l.drop (i + 1) := by rw [List.drop_eq_getElem_cons hi, (List.getElem?_eq_some_iff.1 hx1).2]
 rw [e, List.take_add_one, hx1, List.set_append_right _ _ (by simp; omega)]
 rw [show i - ((l.take i).map fun x => (x, true)).length = 0 by simp; omega]
 simp
def CueX (e : List AV) (y : CueD × Bool) : HP := match y.2 with | true => CueE e y.1 | false => fl cCue e y.1
theorem cloned_s {l : List CueD} (hl : Small l) (hx : l.length ≤ mxl) (H : Hs anyB σ0 σ R) : ∃ v σ', m_R5_cloned [sl 11 cCue l] σ = some (v, σ') ∧ Hs anyB σ0 σ' (Sl CueE 11 v l * R) := by
 have run : ∃ b : AV × Heap, r_R5_cloned (sl 11 cCue l) σ = some b ∧ Hs anyB σ0 b.2 (Sl CueE 11 b.1 l * R) := by
  unfold r_R5_cloned
  obtain ⟨v, s0, e1, _, K0⟩ := cloC hl.1 H
  rw [e1, Option.bind_some, sl_len K0, Option.bind_some]
  refine loop_k (Q := fun q => q.1 = .exit 0 ∧ Hs anyB σ0 q.2.2 (Sl CueE 11 v l * R)) (loop_hs l (fun i w s => w = [.int .i64 (i : Int)] ∧ Hs anyB σ0 s (Sl CueX 11 v ((l.take i).map (fun x => (x, true)) ++ (l.drop i).map (fun x => (x, false))) * R)) ?_ ?_ ⟨rfl, ?_⟩) ?_
  ·rintro i x w s hx1 ⟨rfl, K⟩
   obtain ⟨hm, hp⟩ := hl.2 x (List.mem_of_getElem? hx1)
   have hi := (List.getElem?_eq_some_iff.1 hx1).1
   have hxx : ((l.take i).map (fun x => (x, true)) ++ (l.drop i).map (fun x => (x, false)))[i]? = some (x, false) := by
    rw [List.getElem?_append_right (by simp; omega)]
    simp only [List.length_map, List.length_take, Nat.min_eq_left (Nat.le_of_lt hi), Nat.sub_self, List.getElem?_map, List.getElem?_drop, Nat.add_zero, hx1]
    rfl
   obtain ⟨p, F, e, h1, hC, K1, back⟩ := sl_cell K hxx
   have he : e = cCue x := (hs_pr.1 (hs_drop K1)).1
   subst he
   have K2 := hs_drop (hs_eq (show _ = pr (cCue x = cCue x) * (F (cCue x) * R) by rw [show CueX (cCue x) (x, false) = pr (cCue x = cCue x) from rfl]; ac_rfl) K1)
   obtain ⟨q, f1, f2, f3⟩ := hC.fa 10
   obtain ⟨q6, g1, _, _⟩ := hC.fa 6
   obtain ⟨q7, k1, k2, k3⟩ := hC.fa 7
   have g2 : A.faddr 1 q6 = some q7 := by rw [hC.fc 6 1 q6 g1]; exact k1
   simp only [List.getD_cons_zero]
   rw [ix_lt hx1, Option.bind_some, cnd_t, h1, Option.bind_some, f1, Option.bind_some, f2 K2, Option.bind_some, show A.part1 0 ((cCue x).drop 10) = some (sl 8 cMove x.moves) from rfl, Option.bind_some]
   obtain ⟨vm, s1, e3, e4, K3⟩ := cloM hm K2
   obtain ⟨s2, e5, K4⟩ := f3 (hs_eq (show _ = F (cCue x) * (Sl (fl cMove) 8 vm x.moves * R) by ac_rfl) K3) (new := [vm]) (e' := cCueH x (sl 2 cPoint x.curve.points) vm) rfl
   rw [e3, Option.bind_some, Option.bind_some, f1, Option.bind_some, e4, Option.bind_some, Option.bind_some, e5, Option.bind_some, Option.bind_some, g1, Option.bind_some, g2, Option.bind_some, k2 K4, Option.bind_some, show A.part1 0 ((cCueH x (sl 2 cPoint x.curve.points) vm).drop 7) = some (sl 2 cPoint x.curve.points) from rfl, Option.bind_some]
   obtain ⟨vp, s3, e6, e7, K5⟩ := cloP hp K4
   obtain ⟨s4, e8, K6⟩ := k3 (hs_eq (show _ = F (cCueH x (sl 2 cPoint x.curve.points) vm) * (Sl (fl cPoint) 2 vp x.curve.points * (Sl (fl cMove) 8 vm x.moves * R)) by ac_rfl) K5) (new := [vp]) (e' := cCueH x vp vm) rfl
   rw [e6, Option.bind_some, Option.bind_some, g1, Option.bind_some, g2, Option.bind_some, e7, Option.bind_some, Option.bind_some, e8, Option.bind_some, ix_inc hx1 hx, Option.bind_some]
   refine ⟨_, _, rfl, rfl, ?_⟩
   have K7 := cueP_of (M := Sl (fl cMove) 8) (x := x) (e := cCueH x vp vm) rfl (hs_eq (show _ = Sf cPoint 2 vp x.curve.points * (Sl (fl cMove) 8 vm x.moves * (F (cCueH x vp vm) * R)) by ac_rfl) (sf_own (hs_eq (show _ = Sl (fl cPoint) 2 vp x.curve.points * (F (cCueH x vp vm) * (Sl (fl cMove) 8 vm x.moves * R)) by ac_rfl) K6)))
   have K8 := back (y := (x, true)) (hs_eq (show _ = F (cCueH x vp vm) * (CueX (cCueH x vp vm) (x, true) * R) by rw [show CueX (cCueH x vp vm) (x, true) = CueP (Sl (fl cMove) 8) (cCueH x vp vm) x from rfl]; ac_rfl) K7)
   refine hs_eq ?_ K8
   rw [set_mix hx1]
  ·rintro w s ⟨rfl, K⟩
   simp only [List.getD_cons_zero]
   rw [ix_end, Option.bind_some, cnd_f]
   refine ⟨_, rfl, by simp, rfl, ?_⟩
   rw [List.take_length, List.drop_length, List.map_nil, List.append_nil, sl_map] at K
   exact K
  ·rw [List.take_zero, List.map_nil, List.nil_append, List.drop_zero, sl_map]
   exact K0
  ·rintro ⟨e, w, s⟩ ⟨h1, K⟩
   simp only at h1 K
   subst h1
   exact ⟨_, rfl, K⟩
 obtain ⟨⟨v, σ'⟩, h1, h2⟩ := run
 refine ⟨v, σ', wrap_eq rfl ?_ rfl, h2⟩
 rw [show A.nnL [Sh.e 11 [.k, .k, .k, .k, .k, .k, .k, .s 2, .k, .k, .s 8]] [sl 11 cCue l] = [sl 11 cCue l] from nn_t1 (nn_e (fun _ => rfl) _) rfl]
 exact h1
end
end Go.Proofs.Ytphgchakmkankaa

namespace Go.Proofs.Ytphgchakmkankaa
set_option linter.unusedSectionVars false
set_option linter.unusedVariables false
set_option linter.unusedSimpArgs false
open HP
def OkC (l : List CueD) : Prop := ∀ c ∈ l, okCue c
theorem okC_set {l : List CueD} (h : OkC l) (i : Nat) {g : List MoveD → List MoveD} (hg : ∀ c ∈ l, okL okMove (g c.moves)) : OkC (setMv l i g) := by
 intro c hc
 unfold setMv at hc
 split at hc
 ·rename_i x hx
  rcases List.mem_or_eq_of_mem_set hc with hc | hc
  ·exact h c hc
  ·subst hc
   have hx' := h x (List.mem_of_getElem? hx)
   obtain ⟨a1, a2, a3, a4, a5, a6, a7, a8, _⟩ := hx'
   exact ⟨a1, a2, a3, a4, a5, a6, a7, a8, hg x (List.mem_of_getElem? hx)⟩
 ·exact h c hc
theorem mem_put {l : List MoveD} {m x : MoveD} (h : x ∈ putM l m) : x ∈ l ∨ x = m := by
 unfold putM at h
 split at h
 ·exact List.mem_or_eq_of_mem_set h
 ·simp only [List.mem_append, List.mem_singleton] at h
  rcases h with (h | h) | h
  ·exact .inl (List.mem_of_mem_take h)
  ·exact .inr h
  ·exact .inl (List.mem_of_mem_drop h)
theorem ok_put {l : List MoveD} {m : MoveD} (h : ∀ x ∈ l, okMove x) (hm : okMove m) (hl : l.length < 2199023255552) : okL okMove (putM l m) :=
 ⟨by have := put_len l m; unfold mxl; omega, fun x hx => by rcases mem_put hx with hx | rfl; exact h x hx; exact hm⟩
theorem okC_put {l : List CueD} (h : OkC l) {k : Nat} (hI : Inv k l) (hk : k ≤ 100000) (i : Nat) {m : MoveD} (hm : okMove m) : OkC (setMv l i (putM · m)) :=
 okC_set h i fun c hc => ok_put (h c hc).2.2.2.2.2.2.2.2.2 hm (by have := (hI.2 c hc).2; omega)
theorem okL_of {l : List CueD} (h : OkC l) {k : Nat} (hI : Inv k l) : okL okCue l := ⟨by have := hI.1; unfold mxl; omega, h⟩
def doneF (o : List CueD) : List CueD × Int := if formF o = 0 then (o, 0) else ([], formF o)
theorem hasC_at {l : List CueD} {n : Int} (hg : Good l) (h : hasC l n = true) : ∃ x, l[posC l n]? = some x ∧ x.number = n := by
 rw [← posC_has hg.srt] at h
 cases hx : l[posC l n]? with
 | none => rw [hx] at h; cases h
 | some x => rw [hx] at h; exact ⟨x, rfl, by simpa using h⟩
theorem ext0 (a b : AV) : A.ext 0 (.tup [a, b]) = some a := rfl
theorem ext1 (a b : AV) : A.ext 1 (.tup [a, b]) = some b := rfl
theorem nn_ret {v : AV} {o : List CueD} {e : Int} (h : A.nn (.e 11 shCue) v = sl 11 cCue o) : A.nn (.t [(.e 11 shCue), .k]) (.tup [v, .int .i64 e]) = .tup [sl 11 cCue o, .int .i64 e] := by
 show AV.tup (A.nnL [.e 11 shCue, .k] [v, .int .i64 e]) = _
 rw [nn_t1 h (nn_t1 (nn_k _) nn_t0)]
theorem nn_nil {e : Int} : A.nn (.t [(.e 11 shCue), .k]) (.tup [.nsl, .int .i64 e]) = .tup [sl 11 cCue [], .int .i64 e] := nn_ret rfl
theorem nn_arg1 (l : List CueD) (aas : List AV) : A.nnL [Sh.e 11 shCue] (sl 11 cCue l :: aas) = sl 11 cCue l :: aas := nn_t1 (nn_idem_cues l) rfl
theorem aNeI (a : Int) : A.neq .i (.int .i64 a) (.int .i64 0) = some (.bool (decide (¬ (a = 0)))) := by rw [aNe]
end Go.Proofs.Ytphgchakmkankaa

namespace Go.Proofs.Ytphgchakmkankaa
set_option linter.unusedSectionVars false
set_option linter.unusedVariables false
set_option linter.unusedSimpArgs false
open HP
def k5F (out : List CueD) (a : Nat) (way : Int) (m : MoveD) : Int := if way = 1 then (blkK out (a + 1) m.key).getD (-1) else ((a + 1 : Nat) : Int)
theorem k5_gt (out : List CueD) (a : Nat) (way : Int) (m : MoveD) : k5F out a way m = -1 ∨ ((a + 1 : Nat) : Int) ≤ k5F out a way m := by
 unfold k5F
 split
 ·have key : ∀ (l : List CueD) (i : Nat), (scanL (fun j c => if hasM c.moves m.key = true then some (-1) else if c.block = true then some (j : Int) else none) l i).getD (-1) = -1 ∨ (i : Int) ≤ (scanL (fun j c => if hasM c.moves m.key = true then some (-1) else if c.block = true then some (j : Int) else none) l i).getD (-1) := by
   intro l
   induction l with
   | nil => intro i; exact .inl rfl
   | cons x l ih =>
    intro i
    rw [scanL]
    cases hasM x.moves m.key
    ·cases x.block
     ·simp only [Bool.false_eq_true, if_false]
      rcases ih (i + 1) with h | h
      ·exact .inl h
      ·exact .inr (by omega)
     ·simp
    ·simp
  exact key _ _
 ·exact .inr (by omega)
theorem setMv_ne {l : List CueD} {i j : Nat} (h : i ≠ j) (g : List MoveD → List MoveD) : (setMv l i g)[j]? = l[j]? := by
 unfold setMv
 split
 ·rw [List.getElem?_set_ne h]
 ·rfl
section
variable {σ0 σ : Heap} {R : HP}
theorem shaped_own {v : AV} {o : List CueD} (H : Hs anyB σ0 σ (Sl CueE 11 v o * R)) (ho : okL okCue o) : m_R5_shaped [v] σ = some (.tup [if formF o = 0 then v else .nsl, .int .i64 (formF o)], σ) := by
 have hf : m_R5_CheckForm [v] σ = some (.int .i64 (formF o), σ) := lent (ain := [.e 11 shCue]) (ts := [sl 11 cCue o]) ⟨lt_cues H, trivial⟩ (fun σ => h_R5_CheckForm (CheckForm5_t o ho)) rfl
 unfold m_R5_shaped A.wrap
 rw [Bool.false_and, cond_false, show A.nnL [] [v] = [v] by simp [A.nnL]]
 show (r_R5_shaped v σ).map _ = _
 unfold r_R5_shaped
 rw [hf, Option.bind_some, aNeI, Option.bind_some]
 by_cases hq : formF o = 0
 ·rw [decide_eq_false (by simp [hq]), cnd_f, if_pos hq, hq]; simp [nn_k]
 ·rw [decide_eq_true hq, cnd_t, if_neg hq]; simp [nn_k]
theorem fin_ret {v : AV} {l : List CueD} {e : Int} (H : Hs anyB σ0 σ (Sl CueF 11 v l * R)) : ∃ v', A.fin σ0 (.tup [v, .int .i64 e]) σ = some (.tup [v', .int .i64 e], σ0) ∧ A.nn (.e 11 shCue) v' = sl 11 cCue l := by
 obtain ⟨v', h1, h2, h3⟩ := cuesF_fz H (Nat.le_refl _) 6
 refine ⟨v', fin_hs H (by simp [A.frz, A.frzL, h1]) (fun e => ?_), h3⟩
 rcases sl_cases H with ⟨rfl, rfl | rfl, _⟩ | ⟨id, g, seg, rfl, hl, K⟩
 ·simp [A.frz] at h1; rw [h1]
 ·simp [A.frz] at h1; rw [h1]
 ·obtain ⟨k1, k2⟩ := hs_get K
  have := (List.getElem?_eq_some_iff.1 k2).1
  subst e; omega
theorem fin_nil {e : Int} (H : Hs anyB σ0 σ R) : A.fin σ0 (.tup [.nsl, .int .i64 e]) σ = some (.tup [.nsl, .int .i64 e], σ0) := fin_hs H (by simp [A.frz, A.frzL]) (fun _ => rfl)
theorem blocked5_own {v : AV} {l : List CueD} (H : Hs anyB σ0 σ (Sl CueE 11 v l * R)) (hl : l.length < 4611686018427387904) (hm : ∀ c ∈ l, srtM c.moves ∧ c.moves.length < 4611686018427387904) (i : Nat) (k : KeyD) : m_R5_blocked [v, .int .i64 (i : Int), .agg (cKey k)] σ = some (.int .i64 ((blkK l i k).getD (-1)), σ) :=
 lent (ain := [.e 11 shCue]) (ts := [sl 11 cCue l, .int .i64 (i : Int), .agg (cKey k)]) ⟨lt_cues H, lt_int _, lt_fz (fz_agg (fz_cKey k)) rfl, trivial⟩ (fun σ => h_R5_blocked (blocked5_t hl hm i k)) rfl
end
end Go.Proofs.Ytphgchakmkankaa

namespace Go.Proofs.Ytphgchakmkankaa
set_option linter.unusedSectionVars false
set_option linter.unusedVariables false
set_option linter.unusedSimpArgs false
open HP
def frB : Blk → Prop := fun b => A.freshB b = true
section
variable {α : Type} {c : α → List AV} {sz : Nat} {σ0 σ : Heap} {R : HP}
theorem hs_ext {B : Blk → Prop} (H : Hs B σ0 σ R) (bs : Heap) (hbs : ∀ b ∈ bs, B b) : Hs B σ0 (σ ++ bs) R := by
 obtain ⟨⟨b0, rfl, hb0⟩, h, hr, h2⟩ := H
 exact ⟨⟨b0 ++ bs, by simp, fun b hb => (List.mem_append.1 hb).elim (hb0 b) (hbs b)⟩, h, hr, fun i b hb => ⟨(h2 i b hb).1, by rw [List.getElem?_append_left (List.getElem?_eq_some_iff.1 (h2 i b hb).2).1]; exact (h2 i b hb).2⟩⟩
theorem hs_add {B : Blk → Prop} (H : Hs B σ0 σ R) {bs : Heap} (hbs : ∀ b ∈ bs, B b) {j : Nat} {b : Blk} (hj : σ.length ≤ j) (hb : (σ ++ bs)[j]? = some b) : Hs B σ0 (σ ++ bs) (blk j b * R) := by
 have hl := hs_len H
 have H2 := hs_ext H bs hbs
 obtain ⟨_, h, hr, h2⟩ := H
 have hn : h j = none := by
  cases hh : h j with
  | none => rfl
  | some x => have := (List.getElem?_eq_some_iff.1 (h2 j x hh).2).1; omega
 refine ⟨H2.pre, fun i => if i = j then some b else h i, ⟨fun i => if i = j then some b else none, h, fun i => rfl, hr, fun i => ?_, fun i => ?_⟩, fun i x hx => ?_⟩
 ·by_cases e : i = j
  ·subst e; exact .inr hn
  ·simp [e]
 ·by_cases e : i = j <;> simp [e]
 ·by_cases e : i = j
  ·subst e
   simp only [if_true, Option.some.injEq] at hx
   subst hx
   exact ⟨by omega, hb⟩
  ·simp only [e, if_false] at hx
   obtain ⟨k1, k2⟩ := h2 i x hx
   exact ⟨k1, by rw [List.getElem?_append_left (List.getElem?_eq_some_iff.1 k2).1]; exact k2⟩
def KS (m : List AV → Heap → Option (AV × Heap)) (args : List AV) (c : α → List AV) (sz : Nat) (l : List α) : Prop :=
 ∀ (σ0 σ : Heap) (R : HP), Hs frB σ0 σ R → ∃ v σ', m args σ = some (v, σ') ∧ Hs frB σ0 σ' (Sl (fl c) sz v l * R)
theorem ks_at {B : Blk → Prop} (hBB : ∀ b, frB b → B b) {m : List AV → Heap → Option (AV × Heap)} {args : List AV} {l : List α} (h : KS m args c sz l) (H : Hs B σ0 σ R) : ∃ v σ', m args σ = some (v, σ') ∧ Hs B σ0 σ' (Sl (fl c) sz v l * R) := by
 obtain ⟨v, σ', e1, K⟩ := h σ σ emp (hs_nil σ)
 refine ⟨v, σ', e1, ?_⟩
 obtain ⟨⟨bs, hbs, hfr⟩, _⟩ := id K
 subst hbs
 have hbb : ∀ b ∈ bs, B b := fun b hb => hBB b (hfr b hb)
 rcases slf_cases K with ⟨rfl, hv, _⟩ | ⟨id, g, rfl, K2⟩
 ·exact slz (hs_ext H bs hbb) hv
 ·obtain ⟨k1, k2⟩ := hs_get K2
  exact slf_os (hs_add H hbb k1 k2)
theorem lentK {B : Blk → Prop} (hBB : ∀ b, frB b → B b) {ain : List Sh} {r : List AV → Heap → Option (AV × Heap)} {as0 ts : List AV} {l : List α} (h : LtL σ ain as0 ts) (e : KS (A.wrap true ain .k r) ts c sz l) (H : Hs B σ0 σ R) :
  ∃ v σ', A.wrap true ain .k r as0 σ = some (v, σ') ∧ Hs B σ0 σ' (Sl (fl c) sz v l * R) := by
 obtain ⟨⟨as', k1, k2, k3⟩, k4, k5⟩ := ltL h
 cases ho : as0.any A.own
 ·obtain ⟨v, σ', e1, K⟩ := ks_at hBB e H
  exact ⟨v, σ', by rw [wrap_nn (k5 ho) ho k4]; exact e1, K⟩
 ·obtain ⟨v, σ1, e1, K⟩ := e [] [] emp (hs_nil [])
  have e2 : r (A.nnL ain ts) [] = some (v, σ1) := by
   unfold A.wrap at e1
   rw [k4, Bool.and_false, cond_false] at e1
   obtain ⟨⟨q1, q2⟩, f1, f2⟩ := Option.map_eq_some_iff.1 e1
   simp only [Prod.mk.injEq, nn_k] at f2
   obtain ⟨rfl, rfl⟩ := f2
   exact f1
  have hfr : ∀ b ∈ σ1, frB b := by
   obtain ⟨⟨bs, hbs, hB⟩, _⟩ := K
   rw [List.nil_append] at hbs
   subst hbs
   exact hB
  have hb : σ1.all A.freshB = true := List.all_eq_true.2 hfr
  have hbb : ∀ b ∈ σ1, B b := fun b hb => hBB b (hfr b hb)
  have hw : ∀ v', A.freshT v = true → A.shiftT σ.length v = v' → A.wrap true ain .k r as0 σ = some (v', σ ++ σ1) := by
   intro v' h1 h2
   unfold A.wrap
   rw [ho, Bool.and_self, cond_true, k1, Option.bind_some, k3, e2, Option.bind_some, nn_k]
   simp only [h1, hb, Bool.and_self, cond_true, h2]
  rcases slf_cases K with ⟨rfl, rfl | rfl, _⟩ | ⟨id, g, rfl, K2⟩
  ·exact ⟨.nsl, _, hw _ rfl rfl, slz (hs_ext H σ1 hbb) (.inl rfl)⟩
  ·exact ⟨.ez, _, hw _ rfl rfl, slz (hs_ext H σ1 hbb) (.inr rfl)⟩
  ·obtain ⟨_, k2⟩ := hs_get K2
   refine ⟨.os (id + σ.length) g sz 0 l.length, _, hw _ rfl rfl, slf_os (hs_add H hbb (by omega) ?_)⟩
   rw [List.getElem?_append_right (by omega), Nat.add_sub_cancel]; exact k2
theorem frB_app {c : α → List AV} (hc : ∀ x, (c x).all A.scal1 = true) (l : List α) : ∀ g g' seg, (seg = [] ∨ frB (.arr g sz seg)) → frB (.arr g' sz (seg ++ l.map c)) := by
 intro g g' seg h
 show ((seg ++ l.map c).all fun e => e.all A.scal1) = true
 rw [List.all_append, Bool.and_eq_true]
 refine ⟨?_, ?_⟩
 ·rcases h with rfl | h
  ·rfl
  ·exact h
 ·rw [List.all_map, List.all_eq_true]; intro x _; exact hc x
theorem frB_ins {ye : List AV} (hc : ye.all A.scal1 = true) : ∀ g g' seg k, (seg = [] ∨ frB (.arr g sz seg)) → frB (.arr g' sz (seg.take k ++ [ye] ++ seg.drop k)) := by
 intro g g' seg k h
 have hs : ∀ e ∈ seg, e.all A.scal1 = true := by
  rcases h with rfl | h
  ·intro e he; cases he
  ·exact List.all_eq_true.1 h
 show A.freshB (.arr g' sz (seg.take k ++ [ye] ++ seg.drop k)) = true
 unfold A.freshB
 rw [List.all_eq_true]
 intro e he
 simp only [List.mem_append, List.mem_singleton] at he
 rcases he with (he | rfl) | he
 ·exact hs e (List.mem_of_mem_take he)
 ·exact hc
 ·exact hs e (List.mem_of_mem_drop he)
theorem frB_del : ∀ g g' seg k, frB (.arr g sz seg) → frB (.arr g' sz (seg.eraseIdx k)) := by
 intro g g' seg k h
 show A.freshB (.arr g' sz (seg.eraseIdx k)) = true
 unfold A.freshB
 rw [List.all_eq_true]
 intro e he
 exact List.all_eq_true.1 h e (List.mem_of_mem_eraseIdx he)
end
def srtE (l : List EntryD) : Prop := l.Pairwise fun a b => ltK a.key b.key = true
def posE (l : List EntryD) (k : KeyD) : Nat := (l.takeWhile fun m => ltK m.key k).length
def hasE (l : List EntryD) (k : KeyD) : Bool := l.any fun m => decide (m.key = k)
theorem posE_le (l : List EntryD) (k : KeyD) : posE l k ≤ l.length := (List.takeWhile_prefix _).length_le
theorem posE_lt {l : List EntryD} {k : KeyD} (h : srtE l) : ∀ {i : Nat} {x : EntryD}, l[i]? = some x → (ltK x.key k = true ↔ i < posE l k) := by
 induction l with
 | nil => intro i x hx; simp at hx
 | cons a l ih =>
  intro i x hx
  have hs := List.pairwise_cons.1 h
  unfold posE
  rw [List.takeWhile_cons]
  cases ha : ltK a.key k
  ·simp only [Bool.false_eq_true, if_false, List.length_nil, Nat.not_lt_zero, iff_false, Bool.not_eq_true]
   cases i with
   | zero => simp at hx; subst hx; exact ha
   | succ i =>
    simp only [List.getElem?_cons_succ] at hx
    have := hs.1 x (List.mem_of_getElem? hx)
    cases hq : ltK x.key k
    ·rfl
    ·rw [ltK_trans this hq] at ha; cases ha
  ·simp only [if_true, List.length_cons]
   cases i with
   | zero => simp at hx; subst hx; simp [ha]
   | succ i =>
    simp only [List.getElem?_cons_succ] at hx
    rw [ih hs.2 hx]
    unfold posE
    omega
theorem posE_at {l : List EntryD} {k : KeyD} (h : srtE l) {i : Nat} {x : EntryD} (hi : l[i]? = some x) (hk : x.key = k) : posE l k = i := by
 have h1 : ¬ i < posE l k := fun q => by
  have := (posE_lt h hi).2 q
  rw [hk, ltK_irr] at this; cases this
 have h2 : ¬ posE l k < i := fun q => by
  have hp : posE l k < l.length := Nat.lt_trans q (List.getElem?_eq_some_iff.1 hi).1
  have hy : l[posE l k]? = some l[posE l k] := List.getElem?_eq_getElem hp
  have h3 : ¬ ltK l[posE l k].key k = true := fun q' => Nat.lt_irrefl _ ((posE_lt h hy).1 q')
  have h4 := List.pairwise_iff_getElem.1 h (posE l k) i hp (List.getElem?_eq_some_iff.1 hi).1 q
  rw [(List.getElem?_eq_some_iff.1 hi).2, hk] at h4
  exact h3 h4
 omega
theorem posE_has {l : List EntryD} {k : KeyD} (h : srtE l) : ((l[posE l k]?).any fun x => decide (x.key = k)) = hasE l k := by
 rw [Bool.eq_iff_iff]
 constructor
 ·intro e
  cases hx : l[posE l k]? with
  | none => rw [hx] at e; cases e
  | some x => rw [hx] at e; exact List.any_eq_true.2 ⟨x, List.mem_of_getElem? hx, e⟩
 ·intro e
  obtain ⟨x, hm, hk⟩ := List.any_eq_true.1 e
  have hk := of_decide_eq_true hk
  obtain ⟨i, hi⟩ := List.mem_iff_getElem?.1 hm
  rw [posE_at h hi hk, hi]; simp [hk]
theorem place5_t {l : List EntryD} (hs : srtE l) (hl : l.length < 4611686018427387904) (k : KeyD) : t_R5_place l k = some ((posE l k : Int), hasE l k) := by
 unfold t_R5_place
 refine (whE_while (l := l) (pr := fun m => ltK m.key k) (fun i x hx => ?_) ?_ rfl).trans ?_
 ·have hi := (List.getElem?_eq_some_iff.1 hx).1
  have hi' : ((i : Int) < (l.length : Int)) := by omega
  have e : (decide (x.key.unit < k.unit) || decide (x.key.unit = k.unit) && Op.bytesLess x.key.param.toList k.param.toList) = ltK x.key k := rfl
  simp only [decide_eq_true hi', if_true, tIx_nat hx, Option.bind_some, wrap64 (show inI ((i : Int) + 1) by unfold inI; omega), Bool.true_and, e]
  cases ltK x.key k <;> simp
 ·simp only [decide_eq_false (by omega : ¬ ((l.length : Int) < (l.length : Int))), Bool.false_eq_true, if_false, Option.bind_some, Bool.false_and]
 ·show ((if decide ((posE l k : Int) < (l.length : Int)) = true then tIx l (posE l k : Int) else some default).bind fun x9 => some ((posE l k : Int), ((decide ((posE l k : Int) < (l.length : Int))) && (decide (x9.key = k))))) = _
  rw [← posE_has hs]
  by_cases hp : posE l k < l.length
  ·have hx : l[posE l k]? = some l[posE l k] := List.getElem?_eq_getElem hp
   have hp' : ((posE l k : Int) < (l.length : Int)) := by omega
   rw [decide_eq_true hp', if_pos rfl, tIx_nat hx, Option.bind_some, hx]
   simp
  ·have hx : l[posE l k]? = none := List.getElem?_eq_none (by omega)
   have hp' : ¬ ((posE l k : Int) < (l.length : Int)) := by omega
   rw [decide_eq_false hp', if_neg (by decide), Option.bind_some, hx]
   simp
def stepE (n : Int) (st : List EntryD) (m : MoveD) : List EntryD :=
 let st1 := if hasE st m.key = true then st.eraseIdx (posE st m.key) else st
 if m.release = true then st1 else st1.take (posE st m.key) ++ [⟨m.key, m.value, n⟩] ++ st1.drop (posE st m.key)
def afterF (st : List EntryD) (c : CueD) : List EntryD := c.moves.foldl (stepE c.number) st
def beforeF (l : List CueD) : List EntryD := l.foldl afterF []
def lookE (st : List EntryD) (k : KeyD) : Option EntryD := st.find? fun e => decide (e.key = k)
theorem stepE_spec {n : Int} {st : List EntryD} (h : srtE st) (m : MoveD) : srtE (stepE n st m) ∧ (∀ k, lookE (stepE n st m) k = if k = m.key then (if m.release = true then none else some ⟨m.key, m.value, n⟩) else lookE st k) ∧ (stepE n st m).length ≤ st.length + 1 := by
 obtain ⟨p, hp⟩ : ∃ p, p = posE st m.key := ⟨_, rfl⟩
 obtain ⟨st1, hst1⟩ : ∃ st1, st1 = if hasE st m.key = true then st.eraseIdx p else st := ⟨_, rfl⟩
 have hple : p ≤ st.length := by rw [hp]; exact posE_le _ _
 have e1 : st1.take p = st.take p := by
  rw [hst1]; split
  ·rw [List.eraseIdx_eq_take_drop_succ, List.take_append_of_le_length (by simp; omega), List.take_take, Nat.min_self]
  ·rfl
 have e2 : st1.drop p = if hasE st m.key = true then st.drop (p + 1) else st.drop p := by
  rw [hst1]; split
  ·rw [List.eraseIdx_eq_take_drop_succ, List.drop_append_of_le_length (by simp; omega), List.drop_of_length_le (by simp; omega), List.nil_append]
  ·rfl
 have hlt : ∀ x ∈ st.take p, ltK x.key m.key = true := fun x hx => by
  obtain ⟨i, hi⟩ := List.mem_iff_getElem?.1 hx
  rw [List.getElem?_take] at hi
  split at hi
  ·rename_i q; exact (posE_lt h hi).2 (by omega)
  ·cases hi
 have hgt : ∀ x ∈ st1.drop p, ltK m.key x.key = true := fun x hx => by
  rw [e2] at hx
  have key : ∀ i, p ≤ i → st[i]? = some x → x.key ≠ m.key → ltK m.key x.key = true := by
   intro i hpi hi hne
   cases hq : ltK m.key x.key
   ·exfalso
    have h1 : ltK x.key m.key = false := by
     cases hq2 : ltK x.key m.key
     ·rfl
     ·have := (posE_lt h hi).1 hq2; omega
    exact hne (ltK_tri h1 hq)
   ·rfl
  split at hx
  ·rename_i hh
   obtain ⟨i, hi⟩ := List.mem_iff_getElem?.1 hx
   rw [List.getElem?_drop] at hi
   refine key _ (by omega) hi fun e => ?_
   have := posE_at h hi e
   omega
  ·rename_i hh
   obtain ⟨i, hi⟩ := List.mem_iff_getElem?.1 hx
   rw [List.getElem?_drop] at hi
   refine key _ (by omega) hi fun e => ?_
   exact hh (List.any_eq_true.2 ⟨x, List.mem_of_getElem? hi, by simp [e]⟩)
 have hs1 : srtE st1 := by
  rw [hst1]; split
  ·exact h.sublist (List.eraseIdx_sublist _ _)
  ·exact h
 have hl1 : st1.length ≤ st.length := by
  rw [hst1]; split
  ·exact List.length_eraseIdx_le _ _
  ·exact Nat.le_refl _
 have hno : ∀ k, k = m.key → lookE st1 k = none := by
  rintro k rfl
  unfold lookE
  rw [List.find?_eq_none]
  intro x hx hk
  have hk := of_decide_eq_true hk
  rw [← List.take_append_drop p st1, List.mem_append] at hx
  rcases hx with hx | hx
  ·rw [e1] at hx
   have := hlt x hx
   rw [hk, ltK_irr] at this; cases this
  ·have := hgt x hx
   rw [hk, ltK_irr] at this; cases this
 have hoth : ∀ k, k ≠ m.key → lookE st1 k = lookE st k := by
  intro k hk
  rw [hst1]; split
  ·rename_i hh
   unfold lookE
   rw [List.eraseIdx_eq_take_drop_succ]
   have hx : st[p]? ≠ none := fun e => by
    have := posE_has (k := m.key) h
    rw [hh, ← hp, e] at this; cases this
   obtain ⟨x, hx⟩ := Option.ne_none_iff_exists'.1 hx
   have hxk : x.key = m.key := by
    have := posE_has (k := m.key) h
    rw [hh, ← hp, hx] at this
    simpa using this
   have e : st = st.take p ++ x :: st.drop (p + 1) := by
    rw [← (List.getElem?_eq_some_iff.1 hx).2, List.getElem_cons_drop, List.take_append_drop]
   conv => rhs; rw [e]
   rw [List.find?_append, List.find?_append, List.find?_cons, decide_eq_false (fun q => hk (by rw [← q, hxk]))]
  ·rfl
 have hdef : stepE n st m = if m.release = true then st1 else st1.take p ++ [⟨m.key, m.value, n⟩] ++ st1.drop p := by
  unfold stepE
  rw [← hp, ← hst1]
 rw [hdef]
 split
 ·rename_i hr
  refine ⟨hs1, fun k => ?_, by omega⟩
  by_cases hk : k = m.key
  ·rw [if_pos hk]; exact hno k hk
  ·rw [if_neg hk]; exact hoth k hk
 ·rename_i hr
  refine ⟨?_, fun k => ?_, by simp; omega⟩
  ·unfold srtE
   rw [List.append_assoc, List.pairwise_append]
   refine ⟨hs1.sublist (List.take_sublist _ _), ?_, fun x hx y hy => ?_⟩
   ·rw [List.singleton_append, List.pairwise_cons]
    exact ⟨fun y hy => hgt y hy, hs1.sublist (List.drop_sublist _ _)⟩
   ·rw [e1] at hx
    rcases List.mem_append.1 hy with hy | hy
    ·simp at hy; subst hy; exact hlt x hx
    ·exact ltK_trans (hlt x hx) (hgt y hy)
  ·by_cases hk : k = m.key
   ·rw [if_pos hk]
    subst hk
    unfold lookE
    rw [List.append_assoc, List.find?_append]
    have : (st1.take p).find? (fun e => decide (e.key = m.key)) = none := by
     rw [List.find?_eq_none]
     intro x hx q
     rw [e1] at hx
     have := hlt x hx
     rw [of_decide_eq_true q, ltK_irr] at this; cases this
    rw [this]
    simp
   ·rw [if_neg hk, ← hoth k hk]
    unfold lookE
    rw [List.append_assoc, List.find?_append, List.singleton_append, List.find?_cons, decide_eq_false (fun q => hk q.symm)]
    conv => rhs; rw [← List.take_append_drop p st1, List.find?_append]
end Go.Proofs.Ytphgchakmkankaa

namespace Go.Proofs.Ytphgchakmkankaa
set_option linter.unusedSectionVars false
set_option linter.unusedVariables false
set_option linter.unusedSimpArgs false
open HP
section
variable {B : Blk → Prop} {σ0 σ : Heap} {R : HP}
theorem cEntry_scal (x : EntryD) : (cEntry x).all A.scal1 = true := rfl
theorem insE {v : AV} {l : List EntryD} {m : EntryD} {i : Nat} (hi : i ≤ l.length) (hl : l.length < 1099511627776) (H : Hs frB σ0 σ (Sl (fl cEntry) 5 v l * R)) :
  ∃ v' σ', m_slices_Insert_api_Entry [v, .int .i64 (i : Int), .sl 5 [cEntry m]] σ = some (v', σ') ∧ Hs frB σ0 σ' (Sl (fl cEntry) 5 v' (l.take i ++ [m] ++ l.drop i) * R) := by
 obtain ⟨v', σ', e, H2⟩ := sl_ins (most := 140737488355328 / 48) (zs := [(AV.int .i64 0), (AV.str ⟨#[]⟩), (AV.int .i64 0), (AV.int .i64 0), (AV.int .i64 0)]) (rot := m_slices_rotateRight_api_Entry) (B := frB) (E := fl cEntry) (y := m) (ye := cEntry m)
  (hs_eq (show pr (cEntry m = cEntry m) * (Sl (fl cEntry) 5 v l * R) = _ by rw [show fl cEntry (cEntry m) m = pr (cEntry m = cEntry m) from rfl]; ac_rfl) (hs_pr.2 ⟨rfl, H⟩)) hi (by omega) (by omega) (frB_ins (cEntry_scal m))
 refine ⟨v', σ', ?_, H2⟩
 unfold m_slices_Insert_api_Entry A.wrap
 rw [Bool.false_and, cond_false, show A.nnL [] [v, .int .i64 (i : Int), .sl 5 [cEntry m]] = [v, .int .i64 (i : Int), .sl 5 [cEntry m]] by simp [A.nnL]]
 show (r_slices_Insert_api_Entry v (.int .i64 (i : Int)) (.sl 5 [cEntry m]) σ).map _ = _
 rw [show r_slices_Insert_api_Entry v (.int .i64 (i : Int)) (.sl 5 [cEntry m]) σ = some (v', σ') from e]
 simp [nn_k]
theorem delE {v : AV} {l : List EntryD} {i : Nat} {x : EntryD} (hx : l[i]? = some x) (hl : l.length ≤ 1099511627776) (H : Hs frB σ0 σ (Sl (fl cEntry) 5 v l * R)) :
  ∃ v' σ', m_slices_Delete_api_Entry [v, .int .i64 (i : Int), .int .i64 ((i + 1 : Nat) : Int)] σ = some (v', σ') ∧ Hs frB σ0 σ' (Sl (fl cEntry) 5 v' (l.eraseIdx i) * R) := by
 obtain ⟨v', σ', xe, _, e, H2⟩ := sl_del (most := 140737488355328 / 48) (zs := [(AV.int .i64 0), (AV.str ⟨#[]⟩), (AV.int .i64 0), (AV.int .i64 0), (AV.int .i64 0)]) H hx (by omega) (by omega) frB_del
 have H3 := hs_drop (hs_eq (show _ = pr (xe = cEntry x) * (Sl (fl cEntry) 5 v' (l.eraseIdx i) * R) by rw [show fl cEntry xe x = pr (xe = cEntry x) from rfl]; ac_rfl) H2)
 refine ⟨v', σ', ?_, H3⟩
 unfold m_slices_Delete_api_Entry A.wrap
 rw [Bool.false_and, cond_false, show A.nnL [] [v, .int .i64 (i : Int), .int .i64 ((i + 1 : Nat) : Int)] = [v, .int .i64 (i : Int), .int .i64 ((i + 1 : Nat) : Int)] by simp [A.nnL]]
 show (r_slices_Delete_api_Entry v (.int .i64 (i : Int)) (.int .i64 ((i + 1 : Nat) : Int)) σ).map _ = _
 rw [show r_slices_Delete_api_Entry v (.int .i64 (i : Int)) (.int .i64 ((i + 1 : Nat) : Int)) σ = some (v', σ') from e]
 simp [nn_k]
theorem place5_own {v : AV} {l : List EntryD} (H : Hs frB σ0 σ (Sl (fl cEntry) 5 v l * R)) (hs : srtE l) (hl : l.length < 4611686018427387904) (k : KeyD) : m_R5_place [v, .agg (cKey k)] σ = some (.tup [.int .i64 (posE l k : Int), .bool (hasE l k)], σ) :=
 lent (ain := [.s 5]) (ts := [sl 5 cEntry l, .agg (cKey k)]) ⟨lt_slf fz_cEntry (hs_any H), lt_fz (fz_agg (fz_cKey k)) rfl, trivial⟩ (fun σ => h_R5_place (place5_t hs hl k)) rfl
theorem fold_stepE {n : Int} (ms : List MoveD) : ∀ {st : List EntryD}, srtE st → srtE (ms.foldl (stepE n) st) ∧ (ms.foldl (stepE n) st).length ≤ st.length + ms.length := by
 induction ms with
 | nil => intro st h; exact ⟨h, Nat.le_refl _⟩
 | cons m ms ih =>
  intro st h
  obtain ⟨h1, _, h3⟩ := stepE_spec (n := n) h m
  obtain ⟨h4, h5⟩ := ih h1
  exact ⟨h4, by simp only [List.foldl_cons, List.length_cons]; omega⟩
theorem after_s {st : List EntryD} {c : CueD} (hs : srtE st) (hl : st.length + c.moves.length < 1099511627776) (hm : c.moves.length ≤ mxl) : KS m_R5_after [sl 5 cEntry st, .agg (cCue c)] cEntry 5 (afterF st c) := by
 intro σ0 σ R H
 have run : ∃ b : AV × Heap, r_R5_after (sl 5 cEntry st) (.agg (cCue c)) σ = some b ∧ Hs frB σ0 b.2 (Sl (fl cEntry) 5 b.1 (afterF st c) * R) := by
  unfold r_R5_after
  obtain ⟨v, s1, e1, _, K1⟩ := clo_gen (B := frB) (most := 140737488355328 / 48) (m := m_slices_Clone_api_Entry) (r := fun _ _ => none) (r0 := r_slices_Clone_api_Entry) (c := cEntry) (sz := 5) (l := st) rfl (fun _ _ => rfl) (by omega) (frB_app cEntry_scal st) H
  rw [ce_cCue, Option.bind_some, e1, Option.bind_some, show A.part1 10 (cCue c) = some (sl 8 cMove c.moves) from rfl, Option.bind_some, lenS_sl, Option.bind_some]
  refine loop_k (Q := fun q => ∃ h w, q.1 = .exit 0 ∧ q.2.1 = [.lbx (cCue c), h, w] ∧ Hs frB σ0 q.2.2 (Sl (fl cEntry) 5 h (afterF st c) * R)) (loop_hs c.moves (fun i v s => ∃ h, v = [.lbx (cCue c), h, .int .i64 (i : Int)] ∧ Hs frB σ0 s (Sl (fl cEntry) 5 h ((c.moves.take i).foldl (stepE c.number) st) * R)) ?_ ?_ ⟨v, rfl, K1⟩) ?_
  ·rintro i m w s hx ⟨h, rfl, K⟩
   have hi := (List.getElem?_eq_some_iff.1 hx).1
   obtain ⟨q1, q2⟩ := fold_stepE (n := c.number) (c.moves.take i) hs
   rw [foldl_take _ _ _ hx]
   obtain ⟨o, ho⟩ : ∃ o, o = (c.moves.take i).foldl (stepE c.number) st := ⟨_, rfl⟩
   rw [← ho] at q1 q2 K ⊢
   have hol : o.length < 1099511627776 := by simp at q2; omega
   simp only [List.getD_cons_zero, List.getD_cons_succ]
   rw [ix_lt hx, Option.bind_some, cnd_t, ix_for hx, Option.bind_some]
   simp only [A.deref, Option.bind_some]
   rw [pA_cMove, Option.bind_some, ce_cMove, Option.bind_some, sp_cMove m _ rfl, Option.bind_some, pA_cMove_key, Option.bind_some, place5_own K q1 (by omega) m.key, Option.bind_some, ext0, Option.bind_some, ext1, Option.bind_some]
   -- what is there goes
   obtain ⟨p, hp⟩ : ∃ p, p = posE o m.key := ⟨_, rfl⟩
   obtain ⟨o1, ho1⟩ : ∃ o1, o1 = if hasE o m.key = true then o.eraseIdx p else o := ⟨_, rfl⟩
   have hpl : p ≤ o1.length := by
    have := posE_le o m.key
    rw [ho1]; split
    ·rename_i hh
     have hx := posE_has (k := m.key) q1
     rw [hh, ← hp] at hx
     cases hpx : o[p]? with
     | none => rw [hpx] at hx; cases hx
     | some x =>
      have := (List.getElem?_eq_some_iff.1 hpx).1
      rw [List.length_eraseIdx, if_pos this]; omega
    ·omega
   have ho1l : o1.length < 1099511627776 := by
    rw [ho1]; split
    ·have := List.length_eraseIdx_le o p; omega
    ·exact hol
   rw [← hp]
   have del : ∃ h1 s1, (A.cond (.bool (hasE o m.key)) (
     (A.add (.int .i64 (p : Int)) (AV.int .i64 1)).bind fun x19 =>
     (m_slices_Delete_api_Entry [h, .int .i64 (p : Int), x19] s).bind fun r20 =>
     some ([.lbx (cCue c), r20.1, (AV.lbx (cMove m))], r20.2)) (
     some ([.lbx (cCue c), h, (AV.lbx (cMove m))], s))) = some ([.lbx (cCue c), h1, .lbx (cMove m)], s1) ∧ Hs frB σ0 s1 (Sl (fl cEntry) 5 h1 o1 * R) := by
    rw [ho1]
    cases hh : hasE o m.key
    ·exact ⟨h, s, rfl, K⟩
    ·rw [cnd_t, tadd1 (by have := posE_le o m.key; omega), Option.bind_some]
     have hx := posE_has (k := m.key) q1
     rw [hh, ← hp] at hx
     cases hpx : o[p]? with
     | none => rw [hpx] at hx; cases hx
     | some x =>
      obtain ⟨h1, s1, e2, K2⟩ := delE hpx (by omega) K
      rw [e2, Option.bind_some]
      exact ⟨h1, s1, rfl, K2⟩
   obtain ⟨h1, s1, e2, K2⟩ := del
   rw [e2, Option.bind_some]
   simp only [List.getD_cons_zero, List.getD_cons_succ]
   rw [show ((A.lb (.lbx (cMove m))).bind fun _ => some (4)) = some 4 from rfl, Option.bind_some, show ((A.lb (.lbx (cMove m))).bind fun c22 => A.part1 4 c22) = some (.bool m.release) from rfl, Option.bind_some, show A.not (.bool m.release) = some (.bool (!m.release)) from rfl, Option.bind_some]
   have hdef : stepE c.number o m = if m.release = true then o1 else o1.take p ++ [⟨m.key, m.value, c.number⟩] ++ o1.drop p := by
    unfold stepE; rw [← hp, ← ho1]
   rw [hdef]
   cases hr : m.release
   ·rw [show (!false) = true from rfl, cnd_t]
    rw [show ((A.lb (.lbx (cMove m))).bind fun _ => some (0)) = some 0 from rfl, Option.bind_some, show ((A.lb (.lbx (cMove m))).bind fun c27 => A.partA 0 2 c27) = some (.agg (cKey m.key)) from rfl, Option.bind_some,
     show ((A.lb (.lbx (cMove m))).bind fun _ => some (2)) = some 2 from rfl, Option.bind_some, show ((A.lb (.lbx (cMove m))).bind fun c30 => A.partA 2 2 c30) = some (.agg (cValue m.value)) from rfl, Option.bind_some,
     show ((A.lb (.lbx (cCue c))).bind fun _ => some (0)) = some 0 from rfl, Option.bind_some, show ((A.lb (.lbx (cCue c))).bind fun c33 => A.part1 0 c33) = some (.int .i64 c.number) from rfl, Option.bind_some]
    rw [show ((((A.cells 2 (.agg (cKey m.key))).bind fun c35 => (A.splice 0 c35 [(AV.int .i64 0), (AV.str ⟨#[]⟩), (AV.int .i64 0), (AV.int .i64 0), (AV.int .i64 0)]).bind fun c36 => (A.cells 2 (.agg (cValue m.value))).bind fun c37 => (A.splice 2 c37 c36).bind fun c38 => ((A.cell (.int .i64 c.number)).bind fun v => some [v]).bind fun c39 => (A.splice 4 c39 c38).bind fun c40 => some c40).bind fun cs => some (AV.agg cs))) = some (.agg (cEntry ⟨m.key, m.value, c.number⟩)) from rfl, Option.bind_some]
    rw [show ((((A.cells 5 (.agg (cEntry ⟨m.key, m.value, c.number⟩))).bind fun c42 => (A.splice 0 c42 [(AV.int .i64 0), (AV.str ⟨#[]⟩), (AV.int .i64 0), (AV.int .i64 0), (AV.int .i64 0)]).bind fun c43 => some c43).bind fun cs => some (AV.sl 5 (chunks 5 1 cs)))) = some (.sl 5 [cEntry ⟨m.key, m.value, c.number⟩]) from rfl, Option.bind_some]
    obtain ⟨h2, s2, e3, K3⟩ := insE (m := ⟨m.key, m.value, c.number⟩) hpl ho1l K2
    rw [e3, Option.bind_some, Option.bind_some]
    simp only [List.getD_cons_zero, List.getD_cons_succ]
    rw [ix_inc hx hm, Option.bind_some]
    exact ⟨_, _, rfl, h2, rfl, by simpa using K3⟩
   ·rw [show (!true) = false from rfl, cnd_f, Option.bind_some]
    simp only [List.getD_cons_zero, List.getD_cons_succ]
    rw [ix_inc hx hm, Option.bind_some]
    exact ⟨_, _, rfl, h1, rfl, by simpa using K2⟩
  ·rintro w s ⟨h, rfl, K⟩
   simp only [List.getD_cons_zero, List.getD_cons_succ]
   rw [ix_end, Option.bind_some, cnd_f]
   refine ⟨_, rfl, by simp, h, _, rfl, rfl, ?_⟩
   rw [List.take_length] at K; exact K
  ·rintro ⟨e, w, s⟩ ⟨h, w', h1, h2, K⟩
   simp only at h1 h2 K
   subst h1; subst h2
   exact ⟨_, rfl, K⟩
 obtain ⟨⟨v, σ'⟩, h1, h2⟩ := run
 exact ⟨v, σ', wrap_eq rfl h1 (nn_k _), h2⟩
theorem before_inv {l : List CueD} (hl : ∀ c ∈ l, c.moves.length ≤ 2000000) : ∀ (k : Nat) (st : List EntryD), srtE st → st.length ≤ k * 2000000 → srtE (l.foldl afterF st) ∧ (l.foldl afterF st).length ≤ (k + l.length) * 2000000 := by
 induction l with
 | nil => intro k st h1 h2; exact ⟨h1, h2⟩
 | cons c l ih =>
  intro k st h1 h2
  obtain ⟨h3, h4⟩ := fold_stepE (n := c.number) c.moves h1
  have hc := hl c (by simp)
  obtain ⟨h5, h6⟩ := ih (fun x hx => hl x (by simp [hx])) (k + 1) (afterF st c) h3 (by show (c.moves.foldl _ st).length ≤ _; omega)
  refine ⟨h5, ?_⟩
  rw [List.length_cons, show k + (l.length + 1) = k + 1 + l.length from by omega]
  exact h6
theorem after_lent {v : AV} {st : List EntryD} {e : AV} {c : CueD} (hBB : ∀ b, frB b → B b) (hs : srtE st) (hl : st.length + c.moves.length < 1099511627776) (hm : c.moves.length ≤ mxl) (H : Hs B σ0 σ (Sl (fl cEntry) 5 v st * R)) (he : Lt σ (.a shCue) e (.agg (cCue c))) :
  ∃ v' σ', m_R5_after [v, e] σ = some (v', σ') ∧ Hs B σ0 σ' (Sl (fl cEntry) 5 v' (afterF st c) * (Sl (fl cEntry) 5 v st * R)) :=
 lentK hBB (ain := [.s 5, .a shCue]) (ts := [sl 5 cEntry st, .agg (cCue c)]) ⟨lt_slf fz_cEntry (hs_any H), he, trivial⟩ (after_s hs hl hm) H
theorem lt_typed (c : CueD) : Lt σ (.a shCue) (.agg (cCue c)) (.agg (cCue c)) := lt_fz (fz_agg (fz_cCue c)) rfl
theorem Before_s {l : List CueD} {n : Nat} (hn : n ≤ l.length) (hl : l.length ≤ 1000) (hm : ∀ c ∈ l, c.moves.length ≤ 2000000) : KS m_R5_Before [sl 11 cCue l, .int .i64 (n : Int)] cEntry 5 (beforeF (l.take n)) := by
 intro σ0 σ R H
 have run : ∃ b : AV × Heap, r_R5_Before (sl 11 cCue l) (.int .i64 (n : Int)) σ = some b ∧ Hs frB σ0 b.2 (Sl (fl cEntry) 5 b.1 (beforeF (l.take n)) * R) := by
  unfold r_R5_Before
  rw [show A.sliceS 11 (sl 11 cCue l) none (some (.int .i64 (n : Int))) σ = some (sl 11 cCue (l.take n)) from sliceS_take 11 cCue l hn, Option.bind_some, lenS_sl, Option.bind_some]
  obtain ⟨t, ht⟩ : ∃ t, t = l.take n := ⟨_, rfl⟩
  have htl : t.length ≤ 1000 := by rw [ht]; simp; omega
  have htm : ∀ c ∈ t, c.moves.length ≤ 2000000 := fun c hc => hm c (by rw [ht] at hc; exact List.mem_of_mem_take hc)
  rw [← ht]
  refine loop_k (Q := fun q => ∃ h w, q.1 = .exit 0 ∧ q.2.1 = [h, w] ∧ Hs frB σ0 q.2.2 (Sl (fl cEntry) 5 h (beforeF t) * R)) (loop_hs t (fun i v s => ∃ h, v = [h, .int .i64 (i : Int)] ∧ Hs frB σ0 s (Sl (fl cEntry) 5 h (beforeF (t.take i)) * R)) ?_ ?_ ⟨.nsl, rfl, slz H (.inl rfl)⟩) ?_
  ·rintro i c w s hx ⟨h, rfl, K⟩
   have hi := (List.getElem?_eq_some_iff.1 hx).1
   obtain ⟨q1, q2⟩ := before_inv (l := t.take i) (fun c hc => htm c (List.mem_of_mem_take hc)) 0 [] List.Pairwise.nil (Nat.zero_le _)
   have hc := htm c (List.mem_of_getElem? hx)
   have hbl : (beforeF (t.take i)).length ≤ 2000000000 := by
    have : (t.take i).length ≤ 1000 := by simp; omega
    unfold beforeF; omega
   simp only [List.getD_cons_zero, List.getD_cons_succ]
   rw [ix_lt hx, Option.bind_some, cnd_t, ix_for hx, Option.bind_some]
   simp only [A.deref, Option.bind_some]
   rw [pA_cCue, Option.bind_some, ce_cCue, Option.bind_some, sp_cCue _ _ rfl, Option.bind_some, pA_cCue, Option.bind_some]
   have q3 : (beforeF (t.take i)).length + c.moves.length < 1099511627776 := by omega
   have q4 : c.moves.length ≤ mxl := by unfold mxl; omega
   obtain ⟨h', s', e1, K2⟩ := after_lent (fun _ h => h) q1 q3 q4 K (lt_typed c)
   have K3 := hs_drop (hs_eq (show _ = Sl (fl cEntry) 5 h (beforeF (t.take i)) * (Sl (fl cEntry) 5 h' (afterF (beforeF (t.take i)) c) * R) by ac_rfl) K2)
   rw [e1, Option.bind_some, ix_inc hx (by unfold mxl; omega), Option.bind_some]
   refine ⟨_, _, rfl, h', rfl, ?_⟩
   unfold beforeF
   rw [foldl_take _ _ _ hx]
   exact K3
  ·rintro w s ⟨h, rfl, K⟩
   simp only [List.getD_cons_zero, List.getD_cons_succ]
   rw [ix_end, Option.bind_some, cnd_f]
   refine ⟨_, rfl, by simp, h, _, rfl, rfl, ?_⟩
   rw [List.take_length] at K; exact K
  ·rintro ⟨e, w, s⟩ ⟨h, w', h1, h2, K⟩
   simp only at h1 h2 K
   subst h1; subst h2
   exact ⟨_, rfl, K⟩
 obtain ⟨⟨v, σ'⟩, h1, h2⟩ := run
 refine ⟨v, σ', wrap_eq rfl ?_ (nn_k _), h2⟩
 rw [show A.nnL [Sh.e 11 [.k, .k, .k, .k, .k, .k, .k, .s 2, .k, .k, .s 8]] [sl 11 cCue l, .int .i64 (n : Int)] = [sl 11 cCue l, .int .i64 (n : Int)] from nn_arg1 l _]
 exact h1
end
def stepM (n : Int) (s : List (KeyD × EntryD)) (m : MoveD) : List (KeyD × EntryD) := if m.release = true then tdel m.key s else tupd m.key ⟨m.key, m.value, n⟩ s
def stateF (l : List CueD) : List (KeyD × EntryD) := l.foldl (fun s c => c.moves.foldl (stepM c.number) s) []
def nodK (s : List (KeyD × EntryD)) : Prop := (s.map (·.1)).Nodup
theorem tfind_upd {ν : Type} (k k' : KeyD) (v : ν) : ∀ s : List (KeyD × ν), tfind k (tupd k' v s) = if k = k' then some v else tfind k s
 | [] => by by_cases h : k = k' <;> simp [tupd, tfind, h]
 | (a, b) :: s => by
  rw [tupd]
  by_cases h1 : k' = a
  ·subst h1
   simp only [if_true, tfind]
   by_cases h : k = k' <;> simp [h]
  ·rw [if_neg h1, tfind, tfind, tfind_upd k k' v s]
   by_cases h2 : k = a
   ·have : k ≠ k' := fun e => h1 (by rw [← e, h2])
    simp [h2, this]
    intro e; exact absurd (e.symm) h1
   ·simp [h2]
theorem mem_del {ν : Type} {k : KeyD} : ∀ {s : List (KeyD × ν)} {x : KeyD × ν}, x ∈ tdel k s → x ∈ s
 | [], x, h => h
 | (a, b) :: s, x, h => by
  rw [tdel] at h
  split at h
  ·exact List.mem_cons_of_mem _ h
  ·rcases List.mem_cons.1 h with rfl | h
   ·exact List.mem_cons_self
   ·exact List.mem_cons_of_mem _ (mem_del h)
theorem tfind_none {ν : Type} {k : KeyD} : ∀ {s : List (KeyD × ν)}, (∀ p ∈ s, p.1 ≠ k) → tfind k s = none
 | [], _ => rfl
 | (a, b) :: s, h => by
  rw [tfind, if_neg (fun e => h (a, b) (by simp) e.symm)]
  exact tfind_none (fun p hp => h p (by simp [hp]))
theorem tfind_del (k k' : KeyD) : ∀ {s : List (KeyD × EntryD)}, nodK s → tfind k (tdel k' s) = if k = k' then none else tfind k s
 | [], _ => by simp [tdel, tfind]
 | (a, b) :: s, h => by
  unfold nodK at h
  rw [List.map_cons, List.nodup_cons] at h
  rw [tdel]
  by_cases h1 : k' = a
  ·subst h1
   rw [if_pos rfl]
   by_cases h2 : k = k'
   ·subst h2
    rw [if_pos rfl]
    exact tfind_none fun p hp e => h.1 (List.mem_map.2 ⟨p, hp, e⟩)
   ·rw [if_neg h2, tfind, if_neg h2]
  ·rw [if_neg h1, tfind, tfind, tfind_del k k' (s := s) h.2]
   by_cases h2 : k = a
   ·have : k ≠ k' := fun e => h1 (by rw [← e, h2])
    rw [if_pos h2, if_pos h2, if_neg this]
   ·rw [if_neg h2, if_neg h2]
theorem nod_upd {k : KeyD} {v : EntryD} : ∀ {s : List (KeyD × EntryD)}, nodK s → nodK (tupd k v s) ∧ ∀ x ∈ (tupd k v s).map (·.1), x ∈ s.map (·.1) ∨ x = k
 | [], _ => ⟨by simp [nodK, tupd], by simp [tupd]⟩
 | (a, b) :: s, h => by
  unfold nodK at h
  rw [List.map_cons, List.nodup_cons] at h
  rw [tupd]
  split
  ·rename_i e
   subst e
   exact ⟨by unfold nodK; rw [List.map_cons, List.nodup_cons]; exact h, fun x hx => .inl hx⟩
  ·rename_i e
   obtain ⟨h1, h2⟩ := nod_upd (k := k) (v := v) h.2
   refine ⟨?_, fun x hx => ?_⟩
   ·unfold nodK
    rw [List.map_cons, List.nodup_cons]
    refine ⟨fun hm => ?_, h1⟩
    rcases h2 _ hm with h3 | h3
    ·exact h.1 h3
    ·exact e h3.symm
   ·rw [List.map_cons] at hx ⊢
    rcases List.mem_cons.1 hx with rfl | hx
    ·exact .inl List.mem_cons_self
    ·rcases h2 x hx with h3 | h3
     ·exact .inl (List.mem_cons_of_mem _ h3)
     ·exact .inr h3
theorem nod_del {k : KeyD} : ∀ {s : List (KeyD × EntryD)}, nodK s → nodK (tdel k s)
 | [], h => h
 | (a, b) :: s, h => by
  unfold nodK at h
  rw [List.map_cons, List.nodup_cons] at h
  rw [tdel]
  split
  ·exact h.2
  ·unfold nodK
   rw [List.map_cons, List.nodup_cons]
   refine ⟨fun hm => ?_, nod_del h.2⟩
   obtain ⟨p, hp, e⟩ := List.mem_map.1 hm
   exact h.1 (List.mem_map.2 ⟨p, mem_del hp, e⟩)
def SameS (s : List (KeyD × EntryD)) (st : List EntryD) : Prop := nodK s ∧ srtE st ∧ ∀ k, tfind k s = lookE st k
theorem same_step {n : Int} {s : List (KeyD × EntryD)} {st : List EntryD} (h : SameS s st) (m : MoveD) : SameS (stepM n s m) (stepE n st m) := by
 obtain ⟨h1, h2, h3⟩ := h
 obtain ⟨k1, k2, _⟩ := stepE_spec (n := n) h2 m
 unfold stepM
 refine ⟨?_, k1, fun k => ?_⟩
 ·split
  ·exact nod_del h1
  ·exact (nod_upd h1).1
 ·rw [k2 k]
  split
  ·rw [tfind_del k m.key h1, h3 k]
  ·rw [tfind_upd, h3 k]
theorem same_fold {n : Int} : ∀ (ms : List MoveD) {s : List (KeyD × EntryD)} {st : List EntryD}, SameS s st → SameS (ms.foldl (stepM n) s) (ms.foldl (stepE n) st)
 | [], _, _, h => h
 | m :: ms, _, _, h => same_fold ms (same_step h m)
theorem same_all : ∀ (l : List CueD) {s : List (KeyD × EntryD)} {st : List EntryD}, SameS s st → SameS (l.foldl (fun s c => c.moves.foldl (stepM c.number) s) s) (l.foldl afterF st)
 | [], _, _, h => h
 | c :: l, _, _, h => same_all l (same_fold c.moves h)
theorem same_state (l : List CueD) : SameS (stateF l) (beforeF l) := same_all l ⟨List.Pairwise.nil, List.Pairwise.nil, fun k => rfl⟩
theorem state_t {l : List CueD} (hl : l.length ≤ mxl) (hm : ∀ c ∈ l, c.moves.length ≤ mxl) : t_cue_state l = some (stateF l) := by
 unfold t_cue_state stateF
 rw [forE_fold (g := fun s c => c.moves.foldl (stepM c.number) s) (P := fun _ _ => True) hl trivial (fun _ _ _ _ _ => trivial) ?_]
 ·rfl
 intro i c s hc _
 rw [forE_fold (g := fun s m => stepM c.number s m) (P := fun _ _ => True) (hm c (List.mem_of_getElem? hc)) trivial (fun _ _ _ _ _ => trivial) ?_]
 ·rfl
 intro j m s hm _
 unfold stepM
 by_cases hr : m.release = true <;> simp [hr]
end Go.Proofs.Ytphgchakmkankaa

namespace Go.Proofs.Ytphgchakmkankaa
set_option linter.unusedSectionVars false
set_option linter.unusedVariables false
set_option linter.unusedSimpArgs false
open HP
theorem blk_at {l : List CueD} : ∀ (i j : Nat), scanL (fun j c => if c.block = true then some j else none) l i = some j → i ≤ j ∧ j < i + l.length := by
 induction l with
 | nil => intro i j h; cases h
 | cons x l ih =>
  intro i j h
  rw [scanL] at h
  cases hb : x.block
  ·rw [hb] at h; simp only [Bool.false_eq_true, if_false] at h
   have := ih (i + 1) j h
   simp only [List.length_cons]; omega
  ·rw [hb] at h; simp only [if_true, Option.some.injEq] at h
   simp only [List.length_cons]; omega
theorem scan_none {l : List CueD} (k : KeyD) : ∀ (i i' : Nat), scanL (fun j c => if c.block = true then some j else none) l i = none → (scanL (fun j c => if hasM c.moves k = true then some (-1) else if c.block = true then some (j : Int) else none) l i').getD (-1) = -1 := by
 induction l with
 | nil => intro i i' _; rfl
 | cons x l ih =>
  intro i i' h
  rw [scanL] at h ⊢
  cases hb : x.block
  ·rw [hb] at h; simp only [Bool.false_eq_true, if_false] at h
   cases hasM x.moves k
   ·simp only [Bool.false_eq_true, if_false]; exact ih (i + 1) (i' + 1) h
   ·rfl
  ·rw [hb] at h; simp at h
theorem blk_setMv (g : List MoveD → List MoveD) : ∀ (l : List CueD) (k i : Nat), scanL (fun j c => if c.block = true then some j else none) (setMv l k g) i = scanL (fun j c => if c.block = true then some j else none) l i
 | [], k, i => by simp [setMv]
 | x :: l, 0, i => by simp only [setMv, List.getElem?_cons_zero, List.set_cons_zero, scanL]
 | x :: l, k + 1, i => by
  have e : setMv (x :: l) (k + 1) g = x :: setMv l k g := by
   unfold setMv
   rw [List.getElem?_cons_succ]
   split <;> rfl
  rw [e, scanL, scanL, blk_setMv g l k (i + 1)]
theorem drop_setMv (g : List MoveD → List MoveD) : ∀ (l : List CueD) (k a : Nat), a ≤ k → (setMv l k g).drop a = setMv (l.drop a) (k - a) g := by
 intro l k a h
 unfold setMv
 rw [List.getElem?_drop, show a + (k - a) = k by omega]
 split
 ·rw [List.drop_set, if_neg (by omega)]
 ·rfl
theorem At5_pos {l : List CueD} (hg : Good l) (n : Int) : idxI (fun c => decide (c.number = n)) l = if hasC l n = true then (posC l n : Int) else -1 := by
 rcases idxI_cases (fun c : CueD => decide (c.number = n)) l with ⟨h1, h2, _⟩ | ⟨k, x, h1, h2, h3, _, _⟩
 ·have : hasC l n = false := by
   rw [Bool.eq_false_iff]; intro e
   obtain ⟨x, hx, hp⟩ := List.any_eq_true.1 e
   rw [h2 x hx] at hp; cases hp
  rw [this, h1]; rfl
 ·have : hasC l n = true := List.any_eq_true.2 ⟨x, List.mem_of_getElem? h1, h2⟩
  rw [this, if_pos rfl, h3, posC_at hg.srt h1 (of_decide_eq_true h2)]
end Go.Proofs.Ytphgchakmkankaa

namespace Go.Proofs.Ytphgchakmkankaa
set_option linter.unusedSectionVars false
set_option linter.unusedVariables false
set_option linter.unusedSimpArgs false
open HP
def newCue (n : Int) : CueD := ⟨n, ⟨#[]⟩, 0, 0, 0, 0, ⟨1, []⟩, false, -1, []⟩
def newRow (n : Int) : List AV := cCueH (newCue n) .nsl .nsl
def insAt (l : List CueD) (i : Nat) (c : CueD) : List CueD := l.take i ++ [c] ++ l.drop i
theorem row_key (k : KeyD) : (((A.cells 2 (.agg (cKey k))).bind fun c12 => (A.splice 0 c12 [(AV.int .i64 0), (AV.str ⟨#[]⟩)]).bind fun c13 => some c13).bind fun cs => some (AV.sl 2 (chunks 2 1 cs))) = some (.sl 2 [cKey k]) := rfl
theorem cKey_scal (x : KeyD) : (cKey x).all A.scal1 = true := rfl
def mvOf (k : KeyD) (o : Option EntryD) : MoveD := match o with
 | some e => ⟨k, e.value, false, false, 0, 0⟩
 | none => ⟨k, ⟨0, 0⟩, true, false, 0, 0⟩
theorem mvOf_key (k : KeyD) (o : Option EntryD) : (mvOf k o).key = k := by cases o <;> rfl
theorem move_t (st : List (KeyD × EntryD)) (k : KeyD) : t_cue_move st k = some (mvOf k (tfind k st)) := by
 unfold t_cue_move
 cases tfind k st <;> rfl
theorem look_pos {st : List EntryD} (h : srtE st) {k : KeyD} (hh : hasE st k = true) : ∃ x, st[posE st k]? = some x ∧ lookE st k = some x := by
 have hx := posE_has (k := k) h
 rw [hh] at hx
 cases hp : st[posE st k]? with
 | none => rw [hp] at hx; cases hx
 | some x =>
  refine ⟨x, rfl, ?_⟩
  unfold lookE
  cases hf : st.find? fun e => decide (e.key = k) with
  | none =>
   rw [hp] at hx
   have := List.find?_eq_none.1 hf x (List.mem_of_getElem? hp)
   simp only [Option.any_some] at hx
   exact absurd hx this
  | some y =>
   have h1 := List.find?_some hf
   obtain ⟨j, hj⟩ := List.mem_iff_getElem?.1 (List.mem_of_find?_eq_some hf)
   have := posE_at h hj (of_decide_eq_true h1)
   rw [← this, hp] at hj
   exact hj.symm
theorem look_no {st : List EntryD} {k : KeyD} (hh : hasE st k = false) : lookE st k = none := by
 unfold lookE
 rw [List.find?_eq_none]
 intro x hx hk
 rw [Bool.eq_false_iff] at hh
 exact hh (List.any_eq_true.2 ⟨x, hx, hk⟩)
theorem valued_t {st : List EntryD} (hs : srtE st) (hl : st.length < 4611686018427387904) (k : KeyD) : t_R5_valued st k = some (mvOf k (lookE st k)) := by
 unfold t_R5_valued
 rw [place5_t hs hl, Option.bind_some]
 cases hh : hasE st k
 ·rw [look_no hh]; rfl
 ·obtain ⟨x, h1, h2⟩ := look_pos hs hh
  simp only [if_true]
  rw [tIx_nat h1, h2]; rfl
def restP (g : KeyD → MoveD) (ms : List MoveD) (k : KeyD) : List MoveD := if hasM ms k = true then ms else putM ms (g k)
theorem restP_srt {g : KeyD → MoveD} {ms : List MoveD} (h : srtM ms) (k : KeyD) : srtM (restP g ms k) ∧ (restP g ms k).length ≤ ms.length + 1 := by
 unfold restP
 split
 ·exact ⟨h, by omega⟩
 ·exact ⟨srt_put h _, put_len _ _⟩
theorem rest_fold {g : KeyD → MoveD} : ∀ (ks : List KeyD) {ms : List MoveD}, srtM ms → srtM (ks.foldl (restP g) ms) ∧ (ks.foldl (restP g) ms).length ≤ ms.length + ks.length
 | [], _, h => ⟨h, Nat.le_refl _⟩
 | k :: ks, ms, h => by
  obtain ⟨h1, h2⟩ := restP_srt (g := g) h k
  obtain ⟨h3, h4⟩ := rest_fold (g := g) ks h1
  exact ⟨h3, by simp only [List.foldl_cons, List.length_cons]; omega⟩
section
variable {σ0 σ : Heap} {R : HP}
theorem newRow_E (n : Int) (H : Hs anyB σ0 σ R) : Hs anyB σ0 σ (CueE (newRow n) (newCue n) * R) :=
 cueP_of (M := Sl (fl cMove) 8) (x := newCue n) (vp := .nsl) (vm := .nsl) rfl (sf_own (slz (slz H (.inl rfl)) (.inl rfl)))
theorem insC {v : AV} {l : List CueD} {c : CueD} {e : List AV} {i : Nat} (hi : i ≤ l.length) (hl : l.length < 1000000) (H : Hs anyB σ0 σ (Sl CueE 11 v l * (CueE e c * R))) :
  ∃ v' σ', m_slices_Insert_api_Cue [v, .int .i64 (i : Int), .sl 11 [e]] σ = some (v', σ') ∧ Hs anyB σ0 σ' (Sl CueE 11 v' (insAt l i c) * R) := by
 obtain ⟨v', σ', e1, H2⟩ := sl_ins (most := 140737488355328 / 128) (zs := [(AV.int .i64 0), (AV.str ⟨#[]⟩), (AV.int .i64 0), (AV.int .i64 0), (AV.int .i64 0), (AV.int .i64 0), (AV.int .i64 0), AV.nsl, (AV.bool false), (AV.int .i64 0), AV.nsl]) (rot := m_slices_rotateRight_api_Cue) (B := anyB) (E := CueE) (y := c) (ye := e) H hi (by omega) (by omega) (fun _ _ _ _ _ => trivial)
 refine ⟨v', σ', ?_, H2⟩
 unfold m_slices_Insert_api_Cue A.wrap
 rw [Bool.false_and, cond_false, show A.nnL [] [v, .int .i64 (i : Int), .sl 11 [e]] = [v, .int .i64 (i : Int), .sl 11 [e]] by simp [A.nnL]]
 show (r_slices_Insert_api_Cue v (.int .i64 (i : Int)) (.sl 11 [e]) σ).map _ = _
 rw [show r_slices_Insert_api_Cue v (.int .i64 (i : Int)) (.sl 11 [e]) σ = some (v', σ') from e1]
 simp [nn_k]
theorem place_own {v : AV} {l : List CueD} (H : Hs anyB σ0 σ (Sl CueE 11 v l * R)) (hg : Good l) {n : Int} (hn : inI n) (h1 : 1 ≤ n) : m_cue_place [v, .int .i64 n] σ = some (.tup [.int .i64 (posC l n : Int), .bool (hasC l n)], σ) :=
 lent (ain := [.e 11 shCue]) (ts := [sl 11 cCue l, .int .i64 n]) ⟨lt_cues H, lt_int _, trivial⟩ (fun σ => by obtain ⟨p, e, _, h⟩ := place_t hg hn σ; rw [h (.inl h1)] at e; exact e) rfl
theorem At5_own {v : AV} {l : List CueD} (H : Hs anyB σ0 σ (Sl CueE 11 v l * R)) (hg : Good l) (n : Int) : m_R5_At [v, .int .i64 n] σ = some (.int .i64 (if hasC l n = true then (posC l n : Int) else -1), σ) :=
 lent (ain := [.e 11 shCue]) (ts := [sl 11 cCue l, .int .i64 n]) ⟨lt_cues H, lt_int _, trivial⟩ (fun σ => by rw [← At5_pos hg]; exact h_R5_At (At_t l (by have := hg.len; unfold mxl; omega) n)) rfl
theorem done_own {v : AV} {o : List CueD} (H : Hs anyB σ0 σ (Sl CueE 11 v o * R)) (ho : okL okCue o) : m_cue_done [v] σ = some (.tup [if formF o = 0 then v else .nsl, .int .i64 (formF o)], σ) := by
 have hf : m_cue_form [v] σ = some (.int .i64 (formF o), σ) := lent (ain := [.e 11 shCue]) (ts := [sl 11 cCue o]) ⟨lt_cues H, trivial⟩ (fun σ => h_cue_form (form_t o ho)) rfl
 unfold m_cue_done A.wrap
 rw [Bool.false_and, cond_false, show A.nnL [] [v] = [v] by simp [A.nnL]]
 show (r_cue_done v σ).map _ = _
 unfold r_cue_done
 rw [hf, Option.bind_some, aNeI, Option.bind_some]
 by_cases hq : formF o = 0
 ·rw [decide_eq_false (by simp [hq]), cnd_f, if_pos hq, hq]; simp [nn_k]
 ·rw [decide_eq_true hq, cnd_t, if_neg hq]; simp [nn_k]
theorem appK {B : Blk → Prop} {v : AV} {l : List KeyD} (k : KeyD) (hl : l.length < 1000000) (hB : ∀ g g' seg, (seg = [] ∨ B (.arr g 2 seg)) → B (.arr g' 2 (seg ++ [cKey k]))) (H : Hs B σ0 σ (Sl (fl cKey) 2 v l * R)) :
  ∃ v' σ', A.append 2 (140737488355328 / 24) v (.sl 2 [cKey k]) σ = some (v', σ') ∧ Hs B σ0 σ' (Sl (fl cKey) 2 v' (l ++ [k]) * R) :=
 sl_app (ys := [cKey k]) (xs := [k]) (hs_eq (show pr (cKey k = cKey k) * (Sl (fl cKey) 2 v l * R) = _ by
  rw [show els (fl cKey) [cKey k] [k] = pr (cKey k = cKey k) * emp from rfl, star_assoc, emp_star]; ac_rfl) (hs_pr.2 ⟨rfl, H⟩)) (by simp; omega) hB
theorem keysOf_s {l : List MoveD} (hl : l.length ≤ 100000) : KS m_cue_keysOf [sl 8 cMove l] cKey 2 (l.map (·.key)) := by
 intro σ0 σ R H
 have run : ∃ b : AV × Heap, r_cue_keysOf (sl 8 cMove l) σ = some b ∧ Hs frB σ0 b.2 (Sl (fl cKey) 2 b.1 (l.map (·.key)) * R) := by
  unfold r_cue_keysOf
  rw [lenS_sl, Option.bind_some]
  refine loop_k (Q := fun q => ∃ h w, q.1 = .exit 0 ∧ q.2.1 = [h, w] ∧ Hs frB σ0 q.2.2 (Sl (fl cKey) 2 h (l.map (·.key)) * R)) (loop_hs l (fun i v s => ∃ h, v = [h, .int .i64 (i : Int)] ∧ Hs frB σ0 s (Sl (fl cKey) 2 h ((l.take i).map (·.key)) * R)) ?_ ?_ ⟨.nsl, rfl, slz H (.inl rfl)⟩) ?_
  ·rintro i m w s hx ⟨h, rfl, K⟩
   have hi := (List.getElem?_eq_some_iff.1 hx).1
   simp only [List.getD_cons_zero, List.getD_cons_succ]
   rw [ix_lt hx, Option.bind_some, cnd_t, ix_for hx, Option.bind_some]
   simp only [A.deref, Option.bind_some]
   rw [pA_cMove, Option.bind_some, ce_cMove, Option.bind_some, sp_cMove m _ rfl, Option.bind_some, pA_cMove_key, Option.bind_some, row_key, Option.bind_some]
   obtain ⟨h', s', e1, K2⟩ := appK m.key (by simp; omega) (frB_app cKey_scal [m.key]) K
   rw [e1, Option.bind_some, ix_inc hx (by unfold mxl; omega), Option.bind_some]
   refine ⟨_, _, rfl, h', rfl, ?_⟩
   rw [List.take_add_one, hx, Option.toList_some, List.map_append]
   exact K2
  ·rintro w s ⟨h, rfl, K⟩
   simp only [List.getD_cons_zero, List.getD_cons_succ]
   rw [ix_end, Option.bind_some, cnd_f]
   refine ⟨_, rfl, by simp, h, _, rfl, rfl, ?_⟩
   rw [List.take_length] at K; exact K
  ·rintro ⟨e, w, s⟩ ⟨h, w', h1, h2, K⟩
   simp only at h1 h2 K
   subst h1; subst h2
   exact ⟨_, rfl, K⟩
 obtain ⟨⟨v, σ'⟩, h1, h2⟩ := run
 exact ⟨v, σ', wrap_eq rfl h1 (nn_k _), h2⟩
theorem restore_s {p : AV} {F : List AV → HP} {e : List AV} {x : CueD} {kv : AV} {ks : List KeyD} (st : List (KeyD × EntryD)) (hC : Cl p F) (hs : srtM x.moves) (hl : x.moves.length + ks.length < 1000000) (H : Hs anyB σ0 σ (F e * (CueE e x * (Sl (fl cKey) 2 kv ks * R)))) :
  ∃ σ' e', m_cue_restore [p, (fmE (fun x => (AV.agg (cKey x))) (fun x => (AV.agg (cEntry x))) st), kv] σ = some (.tup [], σ') ∧ Hs anyB σ0 σ' (F e' * (CueE e' { x with moves := ks.foldl (restP fun k => mvOf k (tfind k st)) x.moves } * (Sl (fl cKey) 2 kv ks * R))) := by
 obtain ⟨fm, hfm⟩ : ∃ fm, fm = fmE (fun x => (AV.agg (cKey x))) (fun x => (AV.agg (cEntry x))) st := ⟨_, rfl⟩
 have run : ∃ b : AV × Heap, r_cue_restore p fm kv σ = some b ∧ b.1 = .tup [] ∧ ∃ e', Hs anyB σ0 b.2 (F e' * (CueE e' { x with moves := ks.foldl (restP fun k => mvOf k (tfind k st)) x.moves } * (Sl (fl cKey) 2 kv ks * R))) := by
  unfold r_cue_restore
  rw [sl_len (hs_eq (show _ = Sl (fl cKey) 2 kv ks * (F e * (CueE e x * R)) by ac_rfl) H), Option.bind_some]
  refine loop_k (Q := fun q => q.1 = .exit 0 ∧ ∃ e', Hs anyB σ0 q.2.2 (F e' * (CueE e' { x with moves := ks.foldl (restP fun k => mvOf k (tfind k st)) x.moves } * (Sl (fl cKey) 2 kv ks * R)))) (loop_hs ks (fun i v s => v = [.int .i64 (i : Int)] ∧ ∃ e', Hs anyB σ0 s (F e' * (CueE e' { x with moves := (ks.take i).foldl (restP fun k => mvOf k (tfind k st)) x.moves } * (Sl (fl cKey) 2 kv ks * R)))) ?_ ?_ ⟨rfl, e, H⟩) ?_
  ·rintro i k w s hx ⟨rfl, e, K⟩
   have hi := (List.getElem?_eq_some_iff.1 hx).1
   rw [foldl_take _ _ _ hx]
   obtain ⟨q1, q2⟩ := rest_fold (g := fun k => mvOf k (tfind k st)) (ks.take i) hs
   obtain ⟨ms, hms⟩ : ∃ ms, ms = (ks.take i).foldl (restP fun k => mvOf k (tfind k st)) x.moves := ⟨_, rfl⟩
   rw [← hms] at q1 q2 K ⊢
   have hml : ms.length < 1000000 := by simp at q2; omega
   obtain ⟨pk, f1, f2⟩ := slf_at (hs_eq (show _ = Sl (fl cKey) 2 kv ks * (F e * (CueE e { x with moves := ms } * R)) by ac_rfl) K) hx
   have hat := moveAt_own (x := { x with moves := ms }) (cue_weak (hs_eq (show _ = CueE e { x with moves := ms } * (F e * (Sl (fl cKey) 2 kv ks * R)) by ac_rfl) K)) q1 (by show ms.length < _; omega) k
   have hld := hC.ld K
   obtain ⟨vp, vm, he, _⟩ := cueP (x := { x with moves := ms }) (hs_eq (show _ = CueP (Sl (fl cMove) 8) e { x with moves := ms } * (F e * (Sl (fl cKey) 2 kv ks * R)) by rw [show CueE e { x with moves := ms } = CueP (Sl (fl cMove) 8) e { x with moves := ms } from rfl]; ac_rfl) K)
   have hpa : A.partA 0 11 e = some (.agg e) := by rw [he]; rfl
   simp only [List.getD_cons_zero]
   rw [ix_lt hx, Option.bind_some, cnd_t, f1, Option.bind_some, f2, Option.bind_some, show A.partA 0 2 (cKey k) = some (.agg (cKey k)) from rfl, Option.bind_some, show A.cells 2 (.agg (cKey k)) = some (cKey k) from rfl, Option.bind_some, show A.splice 0 (cKey k) [(AV.int .i64 0), (AV.str ⟨#[]⟩)] = some (cKey k) from rfl, Option.bind_some, hC.nc, Option.bind_some, hld, Option.bind_some, hpa, Option.bind_some, show A.partA 0 2 (cKey k) = some (.agg (cKey k)) from rfl, Option.bind_some, quiet_of hat, Option.bind_some, ext0, Option.bind_some, ext1, Option.bind_some]
   show ∃ _, _
   rw [show A.not (.bool (hasM ms k)) = some (.bool (!hasM ms k)) from rfl, Option.bind_some]
   unfold restP
   cases hh : hasM ms k
   ·rw [show (!false) = true from rfl, cnd_t, Option.bind_some, hfm, h_cue_move (move_t st k), Option.bind_some]
    obtain ⟨s', e', g1, K2⟩ := put_s (x := { x with moves := ms }) (m := mvOf k (tfind k st)) hC K q1 (by show ms.length < _; omega)
    rw [g1, Option.bind_some, Option.bind_some, ix_inc hx (by unfold mxl; omega), Option.bind_some]
    exact ⟨_, _, rfl, rfl, e', by simpa using K2⟩
   ·rw [show (!true) = false from rfl, cnd_f, Option.bind_some, ix_inc hx (by unfold mxl; omega), Option.bind_some]
    exact ⟨_, _, rfl, rfl, e, by simpa using K⟩
  ·rintro w s ⟨rfl, e, K⟩
   simp only [List.getD_cons_zero]
   rw [ix_end, Option.bind_some, cnd_f]
   rw [List.take_length] at K
   exact ⟨_, rfl, by simp, rfl, e, K⟩
  ·rintro ⟨e, w, s⟩ ⟨h1, e', K⟩
   simp only at h1 K
   subst h1
   exact ⟨_, rfl, rfl, e', K⟩
 obtain ⟨⟨v, σ'⟩, h1, h2, e', h3⟩ := run
 simp only at h2 h3
 subst h2
 refine ⟨σ', e', ?_, h3⟩
 rw [← hfm]
 unfold m_cue_restore A.wrap
 rw [Bool.false_and, cond_false, show A.nnL [] [p, fm, kv] = [p, fm, kv] by simp [A.nnL]]
 show (r_cue_restore p fm kv σ).map _ = _
 rw [h1]
 simp [nn_k]
end
end Go.Proofs.Ytphgchakmkankaa

namespace Go.Proofs.Ytphgchakmkankaa
set_option linter.unusedSectionVars false
set_option linter.unusedVariables false
set_option linter.unusedSimpArgs false
open HP
theorem nn_sm (ms : List MoveD) : A.nn (.s 8) (sl 8 cMove ms) = sl 8 cMove ms := by cases ms <;> rfl
def recIns (l : List CueD) (n : Int) : List CueD := if hasC l n = true then l else insAt l (posC l n) (newCue n)
def putAll (o : List CueD) (a : Nat) (ms : List MoveD) : List CueD := ms.foldl (fun o m => setMv o a (putM · m)) o
def recNx (way : Int) (o : List CueD) (a : Nat) : Int := if way = 1 then (match blkF o (a + 1) with | some j => (j : Int) | none => -1) else ((a + 1 : Nat) : Int)
def recTo (l : List CueD) (n : Int) (nx : Nat) : Nat := if hasC l n = true then nx + 1 else nx
def recKs (o : List CueD) (a nx : Nat) (ks : List KeyD) : List KeyD := ks.filter fun k => !(((o.drop (a + 1)).take (nx - (a + 1))).any fun c => hasM c.moves k)
def recF (l : List CueD) (n : Int) (ms : List MoveD) (way : Int) : List CueD :=
 let a := posC l n
 let o := putAll (recIns l n) a ms
 let k := recNx way o a
 if k < 0 ∨ (o.length : Int) ≤ k then o
 else setMv o k.toNat fun old => (recKs o a k.toNat (ms.map (·.key))).foldl (restP fun x => mvOf x (tfind x (stateF (l.take (recTo l n k.toNat))))) old
def recErr (l : List CueD) (n : Int) (ms : List MoveD) (way : Int) : Int :=
 if ¬ (formF l = 0) then formF l else if withinB n 1 9999999 = false then 1 else if 2000 < (ms.length : Int) then 2 else if ¬ (movesF ms = 0) then movesF ms else if ¬ (way = 1 ∨ way = 2) then 4 else 0
def recRes (l : List CueD) (n : Int) (ms : List MoveD) (way : Int) : List CueD × Int :=
 if ¬ (recErr l n ms way = 0) then ([], recErr l n ms way) else doneF (recF l n ms way)
theorem recErr_zero {l : List CueD} {n : Int} {ms : List MoveD} {way : Int} (h : recErr l n ms way = 0) : formF l = 0 ∧ (1 ≤ n ∧ n ≤ 9999999) ∧ ms.length ≤ 2000 ∧ movesF ms = 0 ∧ (way = 1 ∨ way = 2) := by
 unfold recErr at h
 by_cases h1 : formF l = 0
 case neg => rw [if_pos h1] at h; exact absurd h h1
 rw [if_neg (by simp [h1])] at h
 cases h2 : withinB n 1 9999999
 ·rw [h2, if_pos rfl] at h; cases h
 rw [h2, if_neg (by decide)] at h
 by_cases h3 : 2000 < (ms.length : Int)
 ·rw [if_pos h3] at h; cases h
 rw [if_neg h3] at h
 by_cases h4 : movesF ms = 0
 case neg => rw [if_pos h4] at h; exact absurd h h4
 rw [if_neg (by simp [h4])] at h
 by_cases h5 : way = 1 ∨ way = 2
 case neg => rw [if_pos h5] at h; cases h
 refine ⟨h1, ?_, by omega, h4, h5⟩
 unfold withinB at h2
 simpa using h2
theorem Inv.setG {k d : Nat} {l : List CueD} (h : Inv k l) (i : Nat) {g : List MoveD → List MoveD} (hg : ∀ ms, srtM ms → srtM (g ms) ∧ (g ms).length ≤ ms.length + d) : Inv (k + d) (Go.Proofs.Ytphgchakmkankaa.setMv l i g) := by
 refine ⟨by rw [setMv_len]; exact h.1, fun c hc => ?_⟩
 unfold Go.Proofs.Ytphgchakmkankaa.setMv at hc
 split at hc
 ·rename_i x hx
  rcases List.mem_or_eq_of_mem_set hc with hc | hc
  ·exact ⟨(h.2 c hc).1, by have := (h.2 c hc).2; omega⟩
  ·subst hc
   have hx' := h.2 x (List.mem_of_getElem? hx)
   have := hg x.moves hx'.1
   exact ⟨this.1, by have := this.2; show (g x.moves).length ≤ _; omega⟩
 ·exact ⟨(h.2 c hc).1, by have := (h.2 c hc).2; omega⟩
theorem len_insAt {l : List CueD} {i : Nat} (hi : i ≤ l.length) (c : CueD) : (insAt l i c).length = l.length + 1 := by
 unfold insAt; simp; omega
theorem mem_insAt {l : List CueD} {i : Nat} {c x : CueD} (h : x ∈ insAt l i c) : x ∈ l ∨ x = c := by
 unfold insAt at h
 simp only [List.mem_append, List.mem_singleton] at h
 rcases h with (h | h) | h
 ·exact .inl (List.mem_of_mem_take h)
 ·exact .inr h
 ·exact .inl (List.mem_of_mem_drop h)
theorem at_insAt {l : List CueD} {i : Nat} (hi : i ≤ l.length) (c : CueD) : (insAt l i c)[i]? = some c := by
 unfold insAt
 rw [List.append_assoc, List.getElem?_append_right (by simp; omega)]
 simp [Nat.min_eq_left hi]
theorem recIns_inv {l : List CueD} (hg : Good l) (n : Int) : Inv 0 (recIns l n) := by
 have h0 := inv_good hg
 unfold recIns
 split
 ·exact h0
 ·refine ⟨by rw [len_insAt (posC_le _ _)]; have := hg.len; omega, fun c hc => ?_⟩
  rcases mem_insAt hc with hc | rfl
  ·exact h0.2 c hc
  ·exact ⟨List.Pairwise.nil, Nat.zero_le _⟩
theorem recIns_ok {l : List CueD} (hl : OkC l) {n : Int} (hn : inI n) : OkC (recIns l n) := by
 unfold recIns
 split
 ·exact hl
 ·intro c hc
  rcases mem_insAt hc with hc | rfl
  ·exact hl c hc
  ·have i0 : inI 0 := by unfold inI; decide
   have i1 : inI 1 := by unfold inI; decide
   have i2 : inI (-1) := by unfold inI; decide
   exact ⟨hn, Nat.zero_le _, i0, i0, i0, i0, ⟨i1, Nat.zero_le _, fun x hx => nomatch hx⟩, i2, Nat.zero_le _, fun x hx => nomatch hx⟩
theorem recIns_len {l : List CueD} (n : Int) : (recIns l n).length = if hasC l n = true then l.length else l.length + 1 := by
 unfold recIns
 split
 ·rfl
 ·exact len_insAt (posC_le _ _) _
theorem recIns_at {l : List CueD} (hg : Good l) (n : Int) : ∃ x, (recIns l n)[posC l n]? = some x := by
 unfold recIns
 split
 ·rename_i h
  obtain ⟨x, hx, _⟩ := hasC_at hg h
  exact ⟨x, hx⟩
 ·exact ⟨_, at_insAt (posC_le _ _) _⟩
theorem putAll_len (o : List CueD) (a : Nat) : ∀ (ms : List MoveD), (putAll o a ms).length = o.length := by
 intro ms
 unfold putAll
 induction ms generalizing o with
 | nil => rfl
 | cons m ms ih => rw [List.foldl_cons, ih, setMv_len]
theorem putAll_inv {k : Nat} {a : Nat} : ∀ (ms : List MoveD) {o : List CueD}, Inv k o → Inv (k + ms.length) (putAll o a ms)
 | [], o, h => h
 | m :: ms, o, h => by
  have := putAll_inv (k := k + 1) (a := a) ms (h.setMv a m)
  exact this.mono (by simp; omega)
theorem putAll_ok {k : Nat} {a : Nat} : ∀ (ms : List MoveD) {o : List CueD}, OkC o → Inv k o → k + ms.length ≤ 100000 → (∀ m ∈ ms, okMove m) → OkC (putAll o a ms)
 | [], o, h, _, _, _ => h
 | m :: ms, o, h, hI, hk, hm => by
  simp only [List.length_cons] at hk
  exact putAll_ok (k := k + 1) ms (okC_put h hI (by omega) a (hm m (by simp))) (hI.setMv a m) (by omega) (fun x hx => hm x (by simp [hx]))
theorem mem_upd {ν : Type} {k : KeyD} {v : ν} : ∀ {s : List (KeyD × ν)} {x : KeyD × ν}, x ∈ tupd k v s → x ∈ s ∨ x.2 = v
 | [], x, h => by simp [tupd] at h; exact .inr (by rw [h])
 | (a, b) :: s, x, h => by
  rw [tupd] at h
  split at h
  ·rcases List.mem_cons.1 h with rfl | h
   ·exact .inr rfl
   ·exact .inl (List.mem_cons_of_mem _ h)
  ·rcases List.mem_cons.1 h with rfl | h
   ·exact .inl List.mem_cons_self
   ·rcases mem_upd h with h | h
    ·exact .inl (List.mem_cons_of_mem _ h)
    ·exact .inr h
theorem state_ok {P : ValueD → Prop} {l : List CueD} (h : ∀ c ∈ l, ∀ m ∈ c.moves, P m.value) : ∀ p ∈ stateF l, P p.2.value := by
 have inner : ∀ (n : Int) (ms : List MoveD) (s : List (KeyD × EntryD)), (∀ m ∈ ms, P m.value) → (∀ p ∈ s, P p.2.value) → ∀ p ∈ ms.foldl (stepM n) s, P p.2.value := by
  intro n ms
  induction ms with
  | nil => intro s _ h; exact h
  | cons m ms ih =>
   intro s hm hs
   refine ih _ (fun x hx => hm x (by simp [hx])) (fun p hp => ?_)
   unfold stepM at hp
   split at hp
   ·exact hs p (mem_del hp)
   ·rcases mem_upd hp with hp | hp
    ·exact hs p hp
    ·rw [hp]; exact hm m (by simp)
 unfold stateF
 have key : ∀ (l : List CueD) (s : List (KeyD × EntryD)), (∀ c ∈ l, ∀ m ∈ c.moves, P m.value) → (∀ p ∈ s, P p.2.value) → ∀ p ∈ l.foldl (fun s c => c.moves.foldl (stepM c.number) s) s, P p.2.value := by
  intro l
  induction l with
  | nil => intro s _ h; exact h
  | cons c l ih =>
   intro s hl hs
   exact ih _ (fun x hx => hl x (by simp [hx])) (inner c.number c.moves s (hl c (by simp)) hs)
 exact key l [] h (by simp)
theorem mem_tfind {ν : Type} {k : KeyD} : ∀ {s : List (KeyD × ν)} {e : ν}, tfind k s = some e → ∃ p ∈ s, p.2 = e
 | [], e, h => by cases h
 | (a, b) :: s, e, h => by
  rw [tfind] at h
  split at h
  ·injection h with h; exact ⟨(a, b), by simp, h⟩
  ·obtain ⟨p, hp, q⟩ := mem_tfind h
   exact ⟨p, List.mem_cons_of_mem _ hp, q⟩
theorem inI_0 : inI 0 := by unfold inI; decide
theorem mvOf_ok {k : KeyD} {o : Option EntryD} (hk : okKey k) (ho : ∀ e, o = some e → okValue e.value) : okMove (mvOf k o) := by
 cases o with
 | none => exact ⟨hk, ⟨inI_0, inI_0⟩, inI_0, inI_0⟩
 | some e => exact ⟨hk, ho e rfl, inI_0, inI_0⟩
theorem rest_ok {g : KeyD → MoveD} : ∀ (ks : List KeyD) {ms : List MoveD}, (∀ k ∈ ks, okMove (g k)) → (∀ m ∈ ms, okMove m) → ∀ m ∈ ks.foldl (restP g) ms, okMove m
 | [], ms, _, h => h
 | k :: ks, ms, hk, h => by
  refine rest_ok ks (fun x hx => hk x (by simp [hx])) (fun m hm => ?_)
  unfold restP at hm
  split at hm
  ·exact h m hm
  ·rcases mem_put hm with hm | rfl
   ·exact h m hm
   ·exact hk k (by simp)
theorem rec_ok {l : List CueD} (hl : OkC l) (hg : Good l) {n : Int} (hn : inI n) {ms : List MoveD} (hm : ∀ m ∈ ms, okMove m) (hml : ms.length ≤ 2000) (way : Int) : OkC (recF l n ms way) ∧ Inv 4000 (recF l n ms way) := by
 have hI0 := recIns_inv hg n
 have hI := putAll_inv (a := posC l n) ms hI0
 have hO := putAll_ok (a := posC l n) ms (recIns_ok hl hn) hI0 (by omega) hm
 unfold recF
 simp only
 split
 ·exact ⟨hO, hI.mono (by omega)⟩
 ·obtain ⟨ks, hks⟩ : ∃ ks, ks = recKs (putAll (recIns l n) (posC l n) ms) (posC l n) (recNx way (putAll (recIns l n) (posC l n) ms) (posC l n)).toNat (ms.map (·.key)) := ⟨_, rfl⟩
  rw [← hks]
  have hksl : ks.length ≤ 2000 := by
   rw [hks]; unfold recKs
   refine Nat.le_trans (List.length_filter_le _ _) ?_
   simpa using hml
  have hkso : ∀ k ∈ ks, okKey k := fun k hk => by
   rw [hks] at hk
   have := (List.mem_filter.1 hk).1
   obtain ⟨m, h1, h2⟩ := List.mem_map.1 this
   rw [← h2]; exact (hm m h1).1
  refine ⟨okC_set hO _ fun c hc => ?_, (hI.setG _ (d := 2000) fun ms' h' => ?_).mono (by omega)⟩
  ·have hcI := hI.2 c hc
   obtain ⟨h1, h2⟩ := rest_fold (g := fun x => mvOf x (tfind x (stateF (l.take (recTo l n (recNx way (putAll (recIns l n) (posC l n) ms) (posC l n)).toNat))))) ks hcI.1
   refine ⟨by unfold mxl; omega, rest_ok ks (fun k hk => mvOf_ok (hkso k hk) fun e he => ?_) (hO c hc).2.2.2.2.2.2.2.2.2⟩
   obtain ⟨p, hp, rfl⟩ := mem_tfind he
   exact state_ok (P := okValue) (fun c hc m hm => ((hl c (List.mem_of_mem_take hc)).2.2.2.2.2.2.2.2.2 m hm).2.1) p hp
  ·obtain ⟨h1, h2⟩ := rest_fold (g := fun x => mvOf x (tfind x (stateF (l.take (recTo l n (recNx way (putAll (recIns l n) (posC l n) ms) (posC l n)).toNat))))) ks h'
   exact ⟨h1, by omega⟩
end Go.Proofs.Ytphgchakmkankaa

namespace Go.Proofs.Ytphgchakmkankaa
set_option linter.unusedSectionVars false
set_option linter.unusedVariables false
set_option linter.unusedSimpArgs false
open HP
theorem exb2 {α : Type} {X Y : α} : (bif (AX.exit 2 == AX.exit 2) then X else Y) = X := rfl
theorem row3 (a b c : Int) : ((((A.cell (.int .i64 a)).bind fun v => some [v]).bind fun c6 => (A.splice 0 c6 [(AV.int .i64 0), (AV.int .i64 0), (AV.int .i64 0)]).bind fun c7 => ((A.cell (.int .i64 b)).bind fun v => some [v]).bind fun c8 => (A.splice 1 c8 c7).bind fun c9 => ((A.cell (.int .i64 c)).bind fun v => some [v]).bind fun c10 => (A.splice 2 c10 c9).bind fun c11 => some c11).bind fun cs => some (AV.sl 1 (chunks 1 3 cs))) = some (sl 1 cInt [a, b, c]) := rfl
theorem agg2 : ((((A.cell (AV.int .i64 1)).bind fun v => some [v]).bind fun c31 => (A.splice 0 c31 [(AV.int .i64 0), AV.nsl]).bind fun c32 => some c32).bind fun cs => some (AV.agg cs)) = some (.agg [.int .i64 1, .nsl]) := rfl
theorem aggN (n : Int) : ((((A.cell (.int .i64 n)).bind fun v => some [v]).bind fun c34 => (A.splice 0 c34 [(AV.int .i64 0), (AV.str ⟨#[]⟩), (AV.int .i64 0), (AV.int .i64 0), (AV.int .i64 0), (AV.int .i64 0), (AV.int .i64 0), AV.nsl, (AV.bool false), (AV.int .i64 0), AV.nsl]).bind fun c35 => (A.cells 2 (.agg [.int .i64 1, .nsl])).bind fun c36 => (A.splice 6 c36 c35).bind fun c37 => ((A.cell (AV.int .i64 (-1))).bind fun v => some [v]).bind fun c38 => (A.splice 9 c38 c37).bind fun c39 => some c39).bind fun cs => some (AV.agg cs)) = some (.agg (newRow n)) := rfl
theorem rowN (n : Int) : (((A.cells 11 (.agg (newRow n))).bind fun c41 => (A.splice 0 c41 [(AV.int .i64 0), (AV.str ⟨#[]⟩), (AV.int .i64 0), (AV.int .i64 0), (AV.int .i64 0), (AV.int .i64 0), (AV.int .i64 0), AV.nsl, (AV.bool false), (AV.int .i64 0), AV.nsl]).bind fun c42 => some c42).bind fun cs => some (AV.sl 11 (chunks 11 1 cs))) = some (.sl 11 [newRow n]) := rfl
theorem nx_cases (way : Int) (o : List CueD) (a : Nat) : recNx way o a = -1 ∨ (a : Int) + 1 ≤ recNx way o a := by
 unfold recNx
 split
 ·split
  ·rename_i j hj
   have := (blk_at _ _ hj).1
   exact .inr (by omega)
  ·exact .inl rfl
 ·exact .inr (by omega)
theorem recKs_take {o : List CueD} {a nx : Nat} {ks : List KeyD} {i : Nat} {k : KeyD} (hx : ks[i]? = some k) : recKs o a nx (ks.take (i + 1)) = if (((o.drop (a + 1)).take (nx - (a + 1))).any fun c => hasM c.moves k) = true then recKs o a nx (ks.take i) else recKs o a nx (ks.take i) ++ [k] := by
 unfold recKs
 rw [List.take_add_one, hx, Option.toList_some, List.filter_append]
 simp only [List.filter_cons, List.filter_nil]
 cases ((o.drop (a + 1)).take (nx - (a + 1))).any fun c => hasM c.moves k <;> simp only [Bool.not_false, Bool.not_true, Bool.false_eq_true, if_true, if_false, List.append_nil]
theorem Record_s {l : List CueD} (hl : okL okCue l) {n : Int} (hn : inI n) {ms : List MoveD} (hm : okL okMove ms) (way : Int) (σ : Heap) : m_cue_Record [sl 11 cCue l, .int .i64 n, sl 8 cMove ms, .int .i64 way] σ = some (.tup [sl 11 cCue (recRes l n ms way).1, .int .i64 (recRes l n ms way).2], σ) := by
 have run : ∃ b, r_cue_Record (sl 11 cCue l) (.int .i64 n) (sl 8 cMove ms) (.int .i64 way) σ = some b ∧ b.2 = σ ∧ A.nn (.t [(.e 11 shCue), .k]) b.1 = .tup [sl 11 cCue (recRes l n ms way).1, .int .i64 (recRes l n ms way).2] := by
  unfold r_cue_Record
  rw [h_cue_form (form_t l hl), Option.bind_some, h_cue_numberFault (a0 := n) (σ := σ) (r := (if (!(withinB n 1 9999999)) = true then 1 else 0)) rfl, Option.bind_some, lenS_sl, Option.bind_some, aGtr, Option.bind_some, When_eq, Option.bind_some]
  simp only
  rw [row3, Option.bind_some, First_eq _ (by simp [mxl]), Option.bind_some, find3]
  simp only
  rw [h_cue_checkMoves (checkMoves_t ms hm), Option.bind_some]
  rw [h_cue_wayFault (a0 := way) (σ := σ) (r := (if ((decide (¬ (way = 1))) && (decide (¬ (way = 2)))) = true then 4 else 0)) rfl, Option.bind_some]
  simp only
  rw [row3, Option.bind_some, First_eq _ (by simp [mxl]), Option.bind_some, find3]
  have he : (if ¬((if ¬formF l = 0 then formF l else if ¬(if (!(withinB n 1 9999999)) = true then (1 : Int) else 0) = 0 then (if (!(withinB n 1 9999999)) = true then (1 : Int) else 0) else if decide (2000 < (ms.length : Int)) = true then 2 else 0) = 0) then (if ¬formF l = 0 then formF l else if ¬(if (!(withinB n 1 9999999)) = true then (1 : Int) else 0) = 0 then (if (!(withinB n 1 9999999)) = true then (1 : Int) else 0) else if decide (2000 < (ms.length : Int)) = true then 2 else 0) else if ¬movesF ms = 0 then movesF ms else if ((decide (¬ (way = 1))) && (decide (¬ (way = 2)))) = true then (4 : Int) else 0) = recErr l n ms way := by
   unfold recErr
   by_cases h1 : formF l = 0
   case neg => simp [h1]
   cases h2 : withinB n 1 9999999
   ·simp [h1, h2]
   by_cases h3 : 2000 < (ms.length : Int)
   ·simp [h1, h2, h3]
   by_cases h4 : movesF ms = 0
   case neg => simp [h1, h2, h3, h4]
   by_cases h5 : way = 1
   ·simp [h1, h2, h3, h4, h5]
   by_cases h6 : way = 2
   ·simp [h1, h2, h3, h4, h6]
   simp [h1, h2, h3, h4, h5, h6]
  rw [he, aNeI, Option.bind_some]
  unfold recRes
  by_cases hz : recErr l n ms way = 0
  case neg =>
   rw [decide_eq_true hz, cnd_t, if_pos hz]
   exact ⟨_, fin_same _ _, rfl, nn_nil⟩
  rw [decide_eq_false (by simp [hz]), cnd_f, if_neg (by simp [hz])]
  obtain ⟨hf, hnb, hml, hmz, hway⟩ := recErr_zero hz
  have hg := good_of hf
  have hlen := hg.len
  obtain ⟨a, ha⟩ : ∃ a, a = posC l n := ⟨_, rfl⟩
  have hal : a ≤ l.length := ha ▸ posC_le l n
  have hI0 := recIns_inv hg n
  obtain ⟨hRok, hRI⟩ := rec_ok hl.2 hg hn hm.2 hml way
  obtain ⟨v, s1, e1, K1⟩ := copied_s (small_of hg) (by unfold mxl; omega) (hs_nil (B := anyB) σ)
  rw [e1, Option.bind_some, place_own K1 hg hn hnb.1, Option.bind_some, ext0, Option.bind_some, ext1, Option.bind_some, show A.not (.bool (hasC l n)) = some (.bool (!hasC l n)) from rfl, Option.bind_some, ← ha]
  have ins : ∃ r, (A.cond (.bool (!hasC l n)) (
    ((((A.cell (AV.int .i64 1)).bind fun v => some [v]).bind fun c31 => (A.splice 0 c31 [(AV.int .i64 0), AV.nsl]).bind fun c32 => some c32).bind fun cs => some (AV.agg cs)).bind fun x33 =>
    ((((A.cell (.int .i64 n)).bind fun v => some [v]).bind fun c34 => (A.splice 0 c34 [(AV.int .i64 0), (AV.str ⟨#[]⟩), (AV.int .i64 0), (AV.int .i64 0), (AV.int .i64 0), (AV.int .i64 0), (AV.int .i64 0), AV.nsl, (AV.bool false), (AV.int .i64 0), AV.nsl]).bind fun c35 => (A.cells 2 x33).bind fun c36 => (A.splice 6 c36 c35).bind fun c37 => ((A.cell (AV.int .i64 (-1))).bind fun v => some [v]).bind fun c38 => (A.splice 9 c38 c37).bind fun c39 => some c39).bind fun cs => some (AV.agg cs)).bind fun x40 =>
    (((A.cells 11 x40).bind fun c41 => (A.splice 0 c41 [(AV.int .i64 0), (AV.str ⟨#[]⟩), (AV.int .i64 0), (AV.int .i64 0), (AV.int .i64 0), (AV.int .i64 0), (AV.int .i64 0), AV.nsl, (AV.bool false), (AV.int .i64 0), AV.nsl]).bind fun c42 => some c42).bind fun cs => some (AV.sl 11 (chunks 11 1 cs))).bind fun x43 =>
    (m_slices_Insert_api_Cue [v, .int .i64 (a : Int), x43] s1).bind fun r44 =>
    some ([r44.1], r44.2)) (
    some ([v], s1))) = some r ∧ ∃ v1 s2, r = ([v1], s2) ∧ Hs anyB σ s2 (Sl CueE 11 v1 (recIns l n) * emp) := by
   unfold recIns
   cases hh : hasC l n
   ·rw [show (!false) = true from rfl, cnd_t, agg2, Option.bind_some, aggN, Option.bind_some, rowN, Option.bind_some]
    obtain ⟨v1, s2, e2, K2⟩ := insC hal (by omega) (hs_eq (show CueE (newRow n) (newCue n) * (Sl CueE 11 v l * emp) = Sl CueE 11 v l * (CueE (newRow n) (newCue n) * emp) by ac_rfl) (newRow_E n K1))
    rw [e2, Option.bind_some]
    exact ⟨_, rfl, v1, s2, rfl, by rw [if_neg (by decide), ← ha]; exact K2⟩
   ·rw [show (!true) = false from rfl, cnd_f]
    exact ⟨_, rfl, v, s1, rfl, by rw [if_pos rfl]; exact K1⟩
  obtain ⟨r, e2, v1, s2, hr, K2⟩ := ins
  subst hr
  rw [e2, Option.bind_some, Option.bind_some]
  simp only [List.getD_cons_zero]
  -- all moves are put
  refine loop_k (Q := fun q => q.1 = .exit 0 ∧ Hs anyB σ q.2.2 (Sl CueE 11 v1 (putAll (recIns l n) a ms) * emp)) (loop_hs ms (fun i w s => w = [.int .i64 (i : Int)] ∧ Hs anyB σ s (Sl CueE 11 v1 (putAll (recIns l n) a (ms.take i)) * emp)) ?_ ?_ ⟨rfl, K2⟩) ?_
  ·rintro i m w s hx ⟨rfl, K⟩
   have hi := (List.getElem?_eq_some_iff.1 hx).1
   have hI := putAll_inv (a := a) (ms.take i) hI0
   obtain ⟨x0, hx0⟩ := recIns_at hg n
   have hlt : a < (putAll (recIns l n) a (ms.take i)).length := by
    rw [putAll_len, ha]; exact (List.getElem?_eq_some_iff.1 hx0).1
   have hx1 : (putAll (recIns l n) a (ms.take i))[a]? = some (putAll (recIns l n) a (ms.take i))[a] := List.getElem?_eq_getElem hlt
   simp only [List.getD_cons_zero]
   rw [ix_lt hx, Option.bind_some, cnd_t, ix_for hx, Option.bind_some]
   simp only [A.deref, Option.bind_some]
   obtain ⟨p, s', g1, g2, K3⟩ := put_at hx1 m hI (by simp; omega) K
   rw [pA_cMove, Option.bind_some, ce_cMove, Option.bind_some, sp_cMove m _ rfl, Option.bind_some, g1, Option.bind_some, pA_cMove, Option.bind_some, g2, Option.bind_some, ix_inc hx hm.1, Option.bind_some]
   refine ⟨_, _, rfl, rfl, ?_⟩
   rw [putAll, foldl_take _ _ _ hx]
   exact K3
  ·rintro w s ⟨rfl, K⟩
   simp only [List.getD_cons_zero]
   rw [ix_end, Option.bind_some, cnd_f]
   rw [List.take_length] at K
   exact ⟨_, rfl, by simp, rfl, K⟩
  rintro ⟨e, w, s⟩ ⟨h1, K⟩
  simp only at h1 K
  subst h1
  simp only [exb]
  obtain ⟨o, ho⟩ : ∃ o, o = putAll (recIns l n) a ms := ⟨_, rfl⟩
  have hI := putAll_inv (a := a) ms hI0
  have hol : o.length = (if hasC l n = true then l.length else l.length + 1) := by rw [ho, putAll_len, recIns_len]
  rw [← ho] at hI K
  have hol2 : o.length ≤ 301 := by rw [hol]; split <;> omega
  have hrec : recF l n ms way = if recNx way o a < 0 ∨ (o.length : Int) ≤ recNx way o a then o
    else setMv o (recNx way o a).toNat fun old => (recKs o a (recNx way o a).toNat (ms.map (·.key))).foldl (restP fun x => mvOf x (tfind x (stateF (l.take (recTo l n (recNx way o a).toNat))))) old := by
   rw [ho, ha]; rfl
  -- the end
  have hend : ∀ {s : Heap} {R : HP}, Hs anyB σ s (Sl CueE 11 v1 (recF l n ms way) * R) → ∃ b : AV × Heap, ((m_cue_done [v1] s).bind fun r70 =>
    (A.ext 0 r70.1).bind fun x71 =>
    (A.ext 1 r70.1).bind fun x72 =>
    A.fin σ (AV.tup [x71, x72]) r70.2) = some b ∧ b.2 = σ ∧ A.nn (.t [(.e 11 shCue), .k]) b.1 = .tup [sl 11 cCue (doneF (recF l n ms way)).1, .int .i64 (doneF (recF l n ms way)).2] := by
   intro s R K
   rw [done_own K (okL_of hRok hRI), Option.bind_some]
   simp only
   rw [ext0, Option.bind_some, ext1, Option.bind_some]
   unfold doneF
   by_cases hq : formF (recF l n ms way) = 0
   ·rw [if_pos hq, if_pos hq, hq]
    obtain ⟨v', j1, j2⟩ := fin_ret (e := 0) (cues_weak K)
    exact ⟨_, j1, rfl, nn_ret j2⟩
   ·rw [if_neg hq, if_neg hq]
    exact ⟨_, fin_nil K, rfl, nn_nil⟩
  rw [tadd1 (by omega), Option.bind_some, aEq, Option.bind_some]
  have sel : ∃ r, (A.cond (.bool (decide (way = 1))) (
    (m_cue_blocked [v1, .int .i64 ((a + 1 : Nat) : Int)] s).bind fun r63 =>
    some ([r63.1], r63.2)) (
    some ([.int .i64 ((a + 1 : Nat) : Int)], s))) = some r ∧ r = ([.int .i64 (recNx way o a)], s) := by
   unfold recNx
   by_cases hw : way = 1
   ·rw [decide_eq_true hw, cnd_t, if_pos hw, blocked_own K (by omega), Option.bind_some]
    exact ⟨_, rfl, rfl⟩
   ·rw [decide_eq_false hw, cnd_f, if_neg hw]
    exact ⟨_, rfl, rfl⟩
  obtain ⟨r, hr1, hr2⟩ := sel
  subst hr2
  rw [hr1, Option.bind_some]
  simp only [List.getD_cons_zero]
  have hlv : A.lenS v1 = some (.int .i64 (o.length : Int)) := sl_len K
  rw [tlss0, Option.bind_some]
  rcases nx_cases way o a with hk | hk
  ·rw [hk] at hrec ⊢
   rw [if_pos (.inl (by decide))] at hrec
   simp only [show decide ((-1 : Int) < 0) = true from rfl, A.guard, show (true == false) = false from rfl, cond_false, Option.bind_some, A.pick, cond_true, cnd_t]
   exact hend (hrec ▸ K)
  obtain ⟨nx, hkk⟩ : ∃ nx : Nat, recNx way o a = (nx : Int) := ⟨(recNx way o a).toNat, by omega⟩
  rw [hkk] at hk hrec ⊢
  rw [decide_eq_false (by omega)]
  simp only [A.guard, beq_self_eq_true, cond_true, Option.bind_some, hlv, A.pick, cond_false]
  rw [aGeq]
  try simp only [Option.bind_some]
  by_cases hno : nx < o.length
  case neg =>
   rw [if_pos (.inr (by omega))] at hrec
   rw [decide_eq_true (by omega), cnd_t]
   exact hend (hrec ▸ K)
  rw [if_neg (by omega), Int.toNat_natCast] at hrec
  rw [decide_eq_false (by omega), cnd_f]
  have hto : recTo l n nx ≤ l.length := by
   unfold recTo
   split
   ·rename_i h; rw [if_pos h] at hol; omega
   ·rename_i h; rw [if_neg h] at hol; omega
  have old : ∃ q : Nat, q + 1 = recTo l n nx ∧ (A.cond (.bool (!hasC l n)) (
     (A.sub (.int .i64 (nx : Int)) (AV.int .i64 1)).bind fun x75 =>
     some ([x75], s)) (
     some ([.int .i64 (nx : Int)], s))) = some ([.int .i64 (q : Int)], s) := by
   unfold recTo
   cases hh : hasC l n
   ·rw [show (!false) = true from rfl, cnd_t, show A.sub (.int .i64 (nx : Int)) (AV.int .i64 1) = some (.int .i64 ((nx - 1 : Nat) : Int)) from sub_nn (b := 1) (by omega) (by omega), Option.bind_some]
    exact ⟨nx - 1, by rw [if_neg (by decide)]; omega, rfl⟩
   ·exact ⟨nx, by rw [if_pos rfl], rfl⟩
  obtain ⟨q, hq, e3⟩ := old
  rw [e3, Option.bind_some]
  simp only [List.getD_cons_zero]
  rw [tadd1 (by omega), Option.bind_some, hq, sliceS_take 11 cCue l hto, Option.bind_some]
  obtain ⟨st, hst⟩ : ∃ st, st = stateF (l.take (recTo l n nx)) := ⟨_, rfl⟩
  rw [← hst] at hrec
  rw [h_cue_state (r := st) (by rw [hst]; exact state_t (by simp; unfold mxl; omega) (fun c hc => (hl.2 c (List.mem_of_mem_take hc)).2.2.2.2.2.2.2.2.1)), Option.bind_some]
  obtain ⟨kv, s3, e4, K3⟩ := ks_at (B := anyB) (fun _ _ => trivial) (keysOf_s (l := ms) (by omega)) K
  simp only
  rw [e4, Option.bind_some, sl_len K3, Option.bind_some]
  obtain ⟨keys, hkeys⟩ : ∃ keys, keys = ms.map (·.key) := ⟨_, rfl⟩
  rw [← hkeys] at K3 hrec ⊢
  have hkl : keys.length ≤ 2000 := by rw [hkeys]; simpa using hml
  refine loop_k (Q := fun q => ∃ h w, q.1 = .exit 2 ∧ q.2.1 = [h, w] ∧ Hs anyB σ q.2.2 (Sl (fl cKey) 2 h (recKs o a nx keys) * (Sl (fl cKey) 2 kv keys * (Sl CueE 11 v1 o * emp)))) (loop_hs keys (fun i w s => ∃ h, w = [h, .int .i64 (i : Int)] ∧ Hs anyB σ s (Sl (fl cKey) 2 h (recKs o a nx (keys.take i)) * (Sl (fl cKey) 2 kv keys * (Sl CueE 11 v1 o * emp)))) ?_ ?_ ⟨.nsl, rfl, slz K3 (.inl rfl)⟩) ?_
  ·rintro i k w s hx ⟨h, rfl, K⟩
   have hi := (List.getElem?_eq_some_iff.1 hx).1
   obtain ⟨pk, f1, f2⟩ := slf_at (hs_eq (show _ = Sl (fl cKey) 2 kv keys * (Sl (fl cKey) 2 h (recKs o a nx (keys.take i)) * (Sl CueE 11 v1 o * emp)) by ac_rfl) K) hx
   simp only [List.getD_cons_zero, List.getD_cons_succ]
   rw [ix_lt hx, Option.bind_some, cnd_t, f1, Option.bind_some, f2, Option.bind_some, show A.partA 0 2 (cKey k) = some (.agg (cKey k)) from rfl, Option.bind_some, show A.cells 2 (.agg (cKey k)) = some (cKey k) from rfl, Option.bind_some, show A.splice 0 (cKey k) [(AV.int .i64 0), (AV.str ⟨#[]⟩)] = some (cKey k) from rfl, Option.bind_some]
   obtain ⟨vs, f3, f4⟩ := moved_own (v' := .undef) (lo := a + 1) (hi := nx) (hs_eq (show _ = Sl CueE 11 v1 o * (Sl (fl cKey) 2 h (recKs o a nx (keys.take i)) * (Sl (fl cKey) 2 kv keys * emp)) by ac_rfl) K) (by omega) (by omega) (by unfold mxl; omega) (hI.small (by omega)) k
   rw [f3, Option.bind_some, show A.partA 0 2 (cKey k) = some (.agg (cKey k)) from rfl, Option.bind_some, quiet_of f4, Option.bind_some, recKs_take hx]
   have hkk : (recKs o a nx (keys.take i)).length < 1000000 := by
    unfold recKs
    have := List.length_filter_le (fun k => !(((o.drop (a + 1)).take (nx - (a + 1))).any fun c => hasM c.moves k)) (keys.take i)
    simp at this ⊢; omega
   cases hmm : (((o.drop (a + 1)).take (nx - (a + 1))).any fun c => hasM c.moves k)
   ·rw [show A.not (.bool false) = some (.bool true) from rfl, Option.bind_some, cnd_t, Option.bind_some, row_key, Option.bind_some]
    obtain ⟨h', s', f5, K5⟩ := appK k hkk (fun _ _ _ _ => trivial) K
    rw [f5, Option.bind_some, Option.bind_some]
    simp only [List.getD_cons_zero]
    rw [ix_inc hx (by unfold mxl; omega), Option.bind_some]
    exact ⟨_, _, rfl, h', rfl, by simpa using K5⟩
   ·rw [show A.not (.bool true) = some (.bool false) from rfl, Option.bind_some, cnd_f, Option.bind_some]
    simp only [List.getD_cons_zero]
    rw [ix_inc hx (by unfold mxl; omega), Option.bind_some]
    exact ⟨_, _, rfl, h, rfl, by simpa using K⟩
  ·rintro w s ⟨h, rfl, K⟩
   simp only [List.getD_cons_zero, List.getD_cons_succ]
   rw [ix_end, Option.bind_some, cnd_f]
   rw [List.take_length] at K
   exact ⟨_, rfl, by simp, h, _, rfl, rfl, K⟩
  rintro ⟨e, w, s⟩ ⟨h, w', h1, h2, K⟩
  simp only at h1 h2 K
  subst h1; subst h2
  simp only [exb2, List.getD_cons_zero]
  have hox : o[nx]? = some o[nx] := List.getElem?_eq_getElem hno
  obtain ⟨ks, hks⟩ : ∃ ks, ks = recKs o a nx keys := ⟨_, rfl⟩
  rw [← hks] at K hrec
  have hksl : ks.length ≤ 2000 := by
   rw [hks]; unfold recKs
   have := List.length_filter_le (fun k => !(((o.drop (a + 1)).take (nx - (a + 1))).any fun c => hasM c.moves k)) keys
   omega
  obtain ⟨p, F, e, f1, hC, K4, back⟩ := sl_cell (hs_eq (show _ = Sl CueE 11 v1 o * (Sl (fl cKey) 2 h ks * (Sl (fl cKey) 2 kv keys * emp)) by ac_rfl) K) hox
  have hsr := hI.2 o[nx] (List.mem_of_getElem? hox)
  obtain ⟨s', e', f2, K5⟩ := restore_s st hC hsr.1 (by omega) (hs_eq (show _ = F e * (CueE e o[nx] * (Sl (fl cKey) 2 h ks * (Sl (fl cKey) 2 kv keys * emp))) by ac_rfl) K4)
  rw [f1, Option.bind_some, f2, Option.bind_some]
  have K6 := back K5
  have hfin : recF l n ms way = o.set nx { o[nx] with moves := ks.foldl (restP fun x => mvOf x (tfind x st)) o[nx].moves } := by
   rw [hrec, setMv, hox]
  rw [← hfin] at K6
  exact hend K6
 obtain ⟨⟨b, s⟩, h1, h2, h3⟩ := run
 simp only at h2 h3
 subst h2
 refine wrap_eq rfl ?_ h3
 rw [show A.nnL [Sh.e 11 [.k, .k, .k, .k, .k, .k, .k, .s 2, .k, .k, .s 8], .k, .s 8] [sl 11 cCue l, .int .i64 n, sl 8 cMove ms, .int .i64 way] = [sl 11 cCue l, .int .i64 n, sl 8 cMove ms, .int .i64 way] from nn_t1 (nn_idem_cues l) (nn_t1 (nn_k _) (nn_t1 (nn_sm ms) rfl))]
 exact h1
end Go.Proofs.Ytphgchakmkankaa

namespace Go.Proofs.Ytphgchakmkankaa
set_option linter.unusedSectionVars false
set_option linter.unusedVariables false
set_option linter.unusedSimpArgs false
open HP
section
variable {σ0 σ : Heap} {R : HP}
theorem put5_at {v : AV} {l : List CueD} {i : Nat} {x : CueD} (hx : l[i]? = some x) (m : MoveD) (hs : srtM x.moves) (hl : x.moves.length < 1000000) (H : Hs anyB σ0 σ (Sl CueE 11 v l * R)) :
  ∃ p q vm v' σ1 σ2, A.iaddr 11 v (.int .i64 (i : Int)) = some p ∧ A.faddr 10 p = some q ∧ ((A.deref q σ).bind fun c => A.part1 0 c) = some vm ∧ m_R5_put [vm, .agg (cMove m)] σ = some (v', σ1) ∧ A.cell v' = some v' ∧ A.storeAt q [v'] σ1 = some σ2 ∧ Hs anyB σ0 σ2 (Sl CueE 11 v (setMv l i (putM · m)) * R) := by
 obtain ⟨p, F, e, f1, hC, K, back⟩ := sl_cell H hx
 obtain ⟨q, vm, b1, b2, _, b4⟩ := put5_cell hC K hs (by omega)
 obtain ⟨v', σ1, σ2, c1, c2, c3, e', K2⟩ := b4 m
 refine ⟨p, q, vm, v', σ1, σ2, f1, b1, b2, c1, c2, c3, ?_⟩
 rw [setMv, hx]
 exact back K2
theorem valued_own {v : AV} {st : List EntryD} (H : Hs anyB σ0 σ (Sl (fl cEntry) 5 v st * R)) (hs : srtE st) (hl : st.length < 4611686018427387904) (k : KeyD) : m_R5_valued [v, .agg (cKey k)] σ = some (.agg (cMove (mvOf k (lookE st k))), σ) :=
 lent (ain := [.s 5]) (ts := [sl 5 cEntry st, .agg (cKey k)]) ⟨lt_slf fz_cEntry H, lt_fz (fz_agg (fz_cKey k)) rfl, trivial⟩ (fun σ => h_R5_valued (valued_t hs hl k)) rfl
theorem restore5_s {p wv : AV} {F : List AV → HP} {e : List AV} {x : CueD} {st : List EntryD} (k : KeyD) (hC : Cl p F) (hs : srtM x.moves) (hl : x.moves.length < 1000000) (hst : srtE st) (hsl : st.length < 4611686018427387904) (H : Hs anyB σ0 σ (F e * (CueE e x * (Sl (fl cEntry) 5 wv st * R)))) :
  ∃ σ' e', m_R5_restore [p, wv, .agg (cKey k)] σ = some (.tup [], σ') ∧ Hs anyB σ0 σ' (F e' * (CueE e' { x with moves := restP (fun y => mvOf y (lookE st y)) x.moves k } * (Sl (fl cEntry) 5 wv st * R))) := by
 have run : ∃ σ' e', r_R5_restore p wv (.agg (cKey k)) σ = some (.tup [], σ') ∧ Hs anyB σ0 σ' (F e' * (CueE e' { x with moves := restP (fun y => mvOf y (lookE st y)) x.moves k } * (Sl (fl cEntry) 5 wv st * R))) := by
  unfold r_R5_restore
  obtain ⟨q, vm, b1, b2, b3, b4⟩ := put5_cell hC H hs (by omega)
  rw [show A.cells 2 (.agg (cKey k)) = some (cKey k) from rfl, Option.bind_some, hC.nc, Option.bind_some, b1, Option.bind_some, b2, Option.bind_some, show A.partA 0 2 (cKey k) = some (.agg (cKey k)) from rfl, Option.bind_some, quiet_of (b3 k), Option.bind_some, ext0, Option.bind_some, ext1, Option.bind_some, show A.not (.bool (hasM x.moves k)) = some (.bool (!hasM x.moves k)) from rfl, Option.bind_some]
  unfold restP
  cases hh : hasM x.moves k
  ·have hv := valued_own (hs_eq (show _ = Sl (fl cEntry) 5 wv st * (F e * (CueE e x * R)) by ac_rfl) H) hst hsl k
   obtain ⟨v', s2, s3, c1, c2, c3, e', K5⟩ := b4 (mvOf k (lookE st k))
   rw [show (!false) = true from rfl, cnd_t]
   simp only [Option.bind_some]
   rw [b1, Option.bind_some, b2, Option.bind_some, quiet_of hv, Option.bind_some, c1, Option.bind_some]
   simp only [Option.bind_some]
   rw [c2, Option.bind_some, Option.bind_some, c3, Option.bind_some, Option.bind_some]
   exact ⟨_, e', rfl, by simpa using K5⟩
  ·rw [show (!true) = false from rfl, cnd_f, Option.bind_some]
   exact ⟨_, e, rfl, by simpa using H⟩
 obtain ⟨σ', e', h1, h2⟩ := run
 refine ⟨σ', e', ?_, h2⟩
 unfold m_R5_restore A.wrap
 rw [Bool.false_and, cond_false, show A.nnL [] [p, wv, .agg (cKey k)] = [p, wv, .agg (cKey k)] by simp [A.nnL]]
 show (r_R5_restore p wv (.agg (cKey k)) σ).map _ = _
 rw [h1]
 simp [nn_k]
theorem num_at {v : AV} {l : List CueD} {i : Nat} {x : CueD} (hx : l[i]? = some x) (H : Hs anyB σ0 σ (Sl CueE 11 v l * R)) : ∃ p q, A.iaddr 11 v (.int .i64 (i : Int)) = some p ∧ A.faddr 0 p = some q ∧ ((A.deref q σ).bind fun c => A.part1 0 c) = some (.int .i64 x.number) := by
 obtain ⟨p, F, e, f1, hC, K, back⟩ := sl_cell H hx
 obtain ⟨vp, vm, he, _⟩ := cueP (hs_eq (show _ = CueP (Sl (fl cMove) 8) e x * (F e * R) by rw [show CueE e x = CueP (Sl (fl cMove) 8) e x from rfl]; ac_rfl) K)
 obtain ⟨q, g1, g2⟩ := faddr_at hC 0 K (vm := .int .i64 x.number) (by rw [he]; rfl)
 exact ⟨p, q, f1, g1, g2⟩
theorem insert5_s {v : AV} {l : List CueD} {c : CueD} {vp vm : AV} (hp : A.cell vp = some vp) (hv : A.cell vm = some vm) (hs : l.Pairwise fun a b => a.number < b.number) (hl : l.length < 1000000) (H : Hs anyB σ0 σ (Sl CueE 11 v l * (CueE (cCueH c vp vm) c * R))) :
  ∃ v' σ', m_R5_insert [v, .agg (cCueH c vp vm)] σ = some (.tup [v', .int .i64 (posC l c.number : Int)], σ') ∧ Hs anyB σ0 σ' (Sl CueE 11 v' (insAt l (posC l c.number) c) * R) := by
 have hple := posC_le l c.number
 have run : ∃ b : AV × Heap, r_R5_insert v (.agg (cCueH c vp vm)) σ = some b ∧ ∃ v', b.1 = .tup [v', .int .i64 (posC l c.number : Int)] ∧ Hs anyB σ0 b.2 (Sl CueE 11 v' (insAt l (posC l c.number) c) * R) := by
  unfold r_R5_insert
  rw [show A.cells 11 (.agg (cCueH c vp vm)) = some (cCueH c vp vm) from rfl, Option.bind_some]
  have hlen : (l.take (posC l c.number)).length = posC l c.number := by simp; omega
  have hlv : A.lenS v = some (.int .i64 (l.length : Int)) := sl_len H
  refine loop_k (Q := fun q => q = (.exit 0, [.lbx (cCueH c vp vm), .int .i64 (posC l c.number : Int)], σ)) (loop_hs (l.take (posC l c.number)) (fun i w s => w = [.lbx (cCueH c vp vm), .int .i64 (i : Int)] ∧ s = σ) ?_ ?_ ⟨rfl, rfl⟩) ?_
  ·rintro i x w s hx ⟨rfl, rfl⟩
   have hi := (List.getElem?_eq_some_iff.1 hx).1
   rw [hlen] at hi
   rw [List.getElem?_take_of_lt hi] at hx
   obtain ⟨p, q, g1, g2, g3⟩ := num_at hx H
   simp only [List.getD_cons_zero, List.getD_cons_succ]
   rw [hlv, Option.bind_some, tlss, Option.bind_some, decide_eq_true (by omega)]
   simp only [A.guard, beq_self_eq_true, cond_true, Option.bind_some, g1, g2, g3, A.lb]
   rw [show A.part1 0 (cCueH c vp vm) = some (.int .i64 c.number) from rfl, Option.bind_some, aLss, decide_eq_true ((posC_lt hs hx).2 hi)]
   simp only [Option.bind_some, A.pick, cond_true, cnd_t]
   rw [tadd1 (by omega), Option.bind_some]
   exact ⟨_, _, rfl, rfl, rfl⟩
  ·rintro w s ⟨rfl, rfl⟩
   rw [hlen]
   simp only [List.getD_cons_zero, List.getD_cons_succ]
   rw [hlv, Option.bind_some, tlss, Option.bind_some]
   by_cases hlt : posC l c.number < l.length
   ·have hx : l[posC l c.number]? = some l[posC l c.number] := List.getElem?_eq_getElem hlt
    obtain ⟨p, q, g1, g2, g3⟩ := num_at hx H
    rw [decide_eq_true hlt]
    simp only [A.guard, beq_self_eq_true, cond_true, Option.bind_some, g1, g2, g3, A.lb]
    rw [show A.part1 0 (cCueH c vp vm) = some (.int .i64 c.number) from rfl, Option.bind_some, aLss, decide_eq_false (fun h => Nat.lt_irrefl _ ((posC_lt hs hx).1 h))]
    simp only [Option.bind_some, A.pick, cond_true, cnd_f]
    exact ⟨_, rfl, by simp, rfl⟩
   ·rw [decide_eq_false hlt]
    simp only [A.guard, show (false == true) = false from rfl, cond_false, Option.bind_some, A.pick, A.lb]
    rw [cnd_f]
    exact ⟨_, rfl, by simp, rfl⟩
  ·rintro q rfl
   simp only [exb, List.getD_cons_zero, List.getD_cons_succ]
   rw [show ((A.lb (.lbx (cCueH c vp vm))).bind fun c20 => A.partA 0 11 c20) = some (.agg (cCueH c vp vm)) from rfl, Option.bind_some, row_cueH, Option.bind_some]
   obtain ⟨v', s2, e2, K2⟩ := insC hple hl H
   rw [e2, Option.bind_some]
   exact ⟨_, rfl, v', rfl, K2⟩
 obtain ⟨⟨b, σ'⟩, h1, v', h2, h3⟩ := run
 simp only at h2 h3
 subst h2
 refine ⟨v', σ', ?_, h3⟩
 unfold m_R5_insert A.wrap
 rw [Bool.false_and, cond_false, show A.nnL [] [v, .agg (cCueH c vp vm)] = [v, .agg (cCueH c vp vm)] by simp [A.nnL]]
 show (r_R5_insert v (.agg (cCueH c vp vm)) σ).map _ = _
 rw [h1]
 simp [nn_k]
end
end Go.Proofs.Ytphgchakmkankaa

namespace Go.Proofs.Ytphgchakmkankaa
set_option linter.unusedSectionVars false
set_option linter.unusedVariables false
set_option linter.unusedSimpArgs false
open HP
def recStep5 (was : List EntryD) (a : Nat) (way : Int) (o : List CueD) (m : MoveD) : List CueD :=
 setMv (if k5F o a way m < 0 ∨ (o.length : Int) ≤ k5F o a way m then o else setMv o (k5F o a way m).toNat fun old => restP (fun y => mvOf y (lookE was y)) old m.key) a (putM · m)
def recWas (l : List CueD) (n : Int) : List EntryD := beforeF ((recIns l n).take (posC l n + 1))
def recF5 (l : List CueD) (n : Int) (ms : List MoveD) (way : Int) : List CueD := ms.foldl (recStep5 (recWas l n) (posC l n) way) (recIns l n)
theorem rs5_mid_len (was : List EntryD) (a : Nat) (way : Int) (o : List CueD) (m : MoveD) : (if k5F o a way m < 0 ∨ (o.length : Int) ≤ k5F o a way m then o else setMv o (k5F o a way m).toNat fun old => restP (fun y => mvOf y (lookE was y)) old m.key).length = o.length := by
 split
 ·rfl
 ·exact setMv_len _ _ _
theorem rs5_len (was : List EntryD) (a : Nat) (way : Int) (o : List CueD) (m : MoveD) : (recStep5 was a way o m).length = o.length := by
 unfold recStep5
 rw [setMv_len, rs5_mid_len]
theorem rs5_mid_inv {was : List EntryD} {a : Nat} {way : Int} {o : List CueD} {m : MoveD} {k : Nat} (h : Inv k o) : Inv (k + 1) (if k5F o a way m < 0 ∨ (o.length : Int) ≤ k5F o a way m then o else setMv o (k5F o a way m).toNat fun old => restP (fun y => mvOf y (lookE was y)) old m.key) := by
 split
 ·exact h.mono (by omega)
 ·exact h.setG _ fun ms hm => restP_srt hm _
theorem rs5_inv {was : List EntryD} {a : Nat} {way : Int} {o : List CueD} {m : MoveD} {k : Nat} (h : Inv k o) : Inv (k + 2) (recStep5 was a way o m) := (rs5_mid_inv h).setMv a m
theorem rs5_fold {was : List EntryD} {a : Nat} {way : Int} : ∀ (ms : List MoveD) {k : Nat} {o : List CueD}, Inv k o → Inv (k + 2 * ms.length) (ms.foldl (recStep5 was a way) o) ∧ (ms.foldl (recStep5 was a way) o).length = o.length
 | [], k, o, h => ⟨h, rfl⟩
 | m :: ms, k, o, h => by
  obtain ⟨h1, h2⟩ := rs5_fold ms (rs5_inv (was := was) (a := a) (way := way) (m := m) h)
  exact ⟨h1.mono (by simp; omega), by rw [List.foldl_cons, h2, rs5_len]⟩
section
variable {σ0 σ : Heap} {R : HP}
theorem takeM {v : AV} {l : List CueD} {i : Nat} {x : CueD} (hx : l[i]? = some x) (H : Hs anyB σ0 σ (Sl CueE 11 v l * R)) :
  ∃ p q vm σ', A.iaddr 11 v (.int .i64 (i : Int)) = some p ∧ A.faddr 10 p = some q ∧ ((A.deref q σ).bind fun c => A.part1 0 c) = some vm ∧ A.cell vm = some vm ∧ A.storeAt q [.nsl] σ = some σ' ∧ Hs anyB σ0 σ' (Sl CueE 11 v (l.set i { x with moves := [] }) * (Sl (fl cMove) 8 vm x.moves * R)) := by
 obtain ⟨p, F, e, f1, hC, K, back⟩ := sl_cell H hx
 obtain ⟨vp, vm, he, K2⟩ := cueP (hs_eq (show _ = CueP (Sl (fl cMove) 8) e x * (F e * R) by rw [show CueE e x = CueP (Sl (fl cMove) 8) e x from rfl]; ac_rfl) K)
 subst he
 have hmv : Hs anyB σ0 σ (Sl (fl cMove) 8 vm x.moves * (F (cCueH x vp vm) * (Sf cPoint 2 vp x.curve.points * R))) := hs_eq (by ac_rfl) K2
 have hc := cell_sl hmv
 obtain ⟨q, g1, g2⟩ := faddr_at hC 10 K (vm := vm) (by
  simp only [cCueH, List.drop_succ_cons, List.drop_zero, A.part1, List.getElem?_cons_zero, Option.bind_some]
  exact hc)
 obtain ⟨q', k1, _, k3⟩ := hC.fa 10
 rw [g1] at k1; injection k1 with k1; subst k1
 obtain ⟨σ', e3, K3⟩ := k3 (hs_eq (show _ = F (cCueH x vp vm) * (Sl (fl cMove) 8 vm x.moves * (Sf cPoint 2 vp x.curve.points * R)) by ac_rfl) hmv) (new := [.nsl]) (e' := cCueH x vp .nsl) rfl
 refine ⟨p, q, vm, σ', f1, g1, g2, hc, e3, back (e := cCueH x vp .nsl) ?_⟩
 have K4 : Hs anyB σ0 σ' (Sl (fl cMove) 8 .nsl [] * (F (cCueH x vp .nsl) * (Sl (fl cMove) 8 vm x.moves * (Sf cPoint 2 vp x.curve.points * R)))) := slz K3 (.inl rfl)
 have K5 := cueP_of (M := Sl (fl cMove) 8) (x := { x with moves := [] }) (e := cCueH x vp .nsl) (vp := vp) (vm := .nsl) (R := F (cCueH x vp .nsl) * (Sl (fl cMove) 8 vm x.moves * R)) rfl (hs_eq (by ac_rfl) K4)
 exact hs_eq (by rw [show CueE (cCueH x vp .nsl) { x with moves := [] } = CueP (Sl (fl cMove) 8) (cCueH x vp .nsl) { x with moves := [] } from rfl]; ac_rfl) K5
theorem giveM {v vm : AV} {l : List CueD} {ms : List MoveD} {i : Nat} {x : CueD} (hx : l[i]? = some x) (H : Hs anyB σ0 σ (Sl CueE 11 v l * (Sl (fl cMove) 8 vm ms * R))) :
  ∃ p q σ', A.iaddr 11 v (.int .i64 (i : Int)) = some p ∧ A.faddr 10 p = some q ∧ A.storeAt q [vm] σ = some σ' ∧ Hs anyB σ0 σ' (Sl CueE 11 v (l.set i { x with moves := ms }) * R) := by
 obtain ⟨p, F, e, f1, hC, K, back⟩ := sl_cell H hx
 obtain ⟨vp, vm', he, K2⟩ := cueP (hs_eq (show _ = CueP (Sl (fl cMove) 8) e x * (F e * (Sl (fl cMove) 8 vm ms * R)) by rw [show CueE e x = CueP (Sl (fl cMove) 8) e x from rfl]; ac_rfl) K)
 subst he
 have K3 := hs_drop (hs_eq (show _ = Sl (fl cMove) 8 vm' x.moves * (F (cCueH x vp vm') * (Sf cPoint 2 vp x.curve.points * (Sl (fl cMove) 8 vm ms * R))) by ac_rfl) K2)
 obtain ⟨q, g1, _, k3⟩ := hC.fa 10
 obtain ⟨σ', e3, K4⟩ := k3 K3 (new := [vm]) (e' := cCueH x vp vm) rfl
 refine ⟨p, q, σ', f1, g1, e3, back (e := cCueH x vp vm) ?_⟩
 have K5 := cueP_of (M := Sl (fl cMove) 8) (x := { x with moves := ms }) (e := cCueH x vp vm) (vp := vp) (vm := vm) (R := F (cCueH x vp vm) * R) rfl (hs_eq (by ac_rfl) K4)
 exact hs_eq (by rw [show CueE (cCueH x vp vm) { x with moves := ms } = CueP (Sl (fl cMove) 8) (cCueH x vp vm) { x with moves := ms } from rfl]; ac_rfl) K5
theorem row_at {v : AV} {l : List CueD} {i : Nat} {x : CueD} (hx : l[i]? = some x) (H : Hs anyB σ0 σ (Sl CueE 11 v l * R)) : ∃ p e, A.iaddr 11 v (.int .i64 (i : Int)) = some p ∧ ((A.deref p σ).bind fun c => A.partA 0 11 c) = some (.agg e) ∧ Lt σ (.a shCue) (.agg e) (.agg (cCue x)) := by
 obtain ⟨p, F, e, f1, hC, K, back⟩ := sl_cell H hx
 obtain ⟨vp, vm, he, _⟩ := cueP (hs_eq (show _ = CueP (Sl (fl cMove) 8) e x * (F e * R) by rw [show CueE e x = CueP (Sl (fl cMove) 8) e x from rfl]; ac_rfl) K)
 refine ⟨p, e, f1, ?_, lt_cueF (cue_weak (hs_eq (show _ = CueE e x * (F e * R) by ac_rfl) K))⟩
 rw [hC.ld K, Option.bind_some, he]; rfl
theorem set_same {l : List CueD} {i : Nat} {x : CueD} (h : l[i]? = some x) : l.set i x = l := by
 apply List.ext_getElem?
 intro j
 rw [List.getElem?_set]
 split
 ·rename_i e; subst e; rw [h, if_pos (List.getElem?_eq_some_iff.1 h).1]
 ·rfl
theorem RRecord_s {l : List CueD} (hl : okL okCue l) {n : Int} (hn : inI n) {ms : List MoveD} (hm : okL okMove ms) (way : Int) (heq : recErr l n ms way = 0 → recF5 l n ms way = recF l n ms way) (σ : Heap) : m_R5_Record [sl 11 cCue l, .int .i64 n, sl 8 cMove ms, .int .i64 way] σ = some (.tup [sl 11 cCue (recRes l n ms way).1, .int .i64 (recRes l n ms way).2], σ) := by
 have run : ∃ b, r_R5_Record (sl 11 cCue l) (.int .i64 n) (sl 8 cMove ms) (.int .i64 way) σ = some b ∧ b.2 = σ ∧ A.nn (.t [(.e 11 shCue), .k]) b.1 = .tup [sl 11 cCue (recRes l n ms way).1, .int .i64 (recRes l n ms way).2] := by
  unfold r_R5_Record
  have bad : ∀ {e : Int}, recErr l n ms way = e → e ≠ 0 → ∃ b : AV × Heap, A.fin σ (AV.tup [AV.nsl, .int .i64 e]) σ = some b ∧ b.2 = σ ∧ A.nn (.t [(.e 11 shCue), .k]) b.1 = .tup [sl 11 cCue (recRes l n ms way).1, .int .i64 (recRes l n ms way).2] := by
   intro e h1 h2
   unfold recRes
   rw [h1, if_pos h2]
   exact ⟨_, fin_same _ _, rfl, nn_nil⟩
  rw [h_R5_CheckForm (CheckForm5_t l hl), Option.bind_some, aNeI, Option.bind_some]
  by_cases h1 : formF l = 0
  case neg =>
   rw [decide_eq_true h1, cnd_t]
   exact bad (by unfold recErr; rw [if_pos h1]) h1
  rw [decide_eq_false (by simp [h1]), cnd_f, Within1_eq, Option.bind_some, show A.not (.bool (withinB n 1 9999999)) = some (.bool (!withinB n 1 9999999)) from rfl, Option.bind_some]
  cases h2 : withinB n 1 9999999
  ·rw [show (!false) = true from rfl, cnd_t]
   exact bad (by unfold recErr; simp [h1, h2]) (by decide)
  rw [show (!true) = false from rfl, cnd_f, h_R5_checkMoves (checkMoves5_t ms hm), Option.bind_some, aNeI, Option.bind_some]
  by_cases h3 : 2000 < (ms.length : Int)
  ·rw [if_pos h3, decide_eq_true (by decide), cnd_t]
   exact bad (by unfold recErr; simp [h1, h2, h3]) (by decide)
  rw [if_neg h3]
  by_cases h4 : movesF ms = 0
  case neg =>
   rw [decide_eq_true h4, cnd_t]
   exact bad (by unfold recErr; simp [h1, h2, h3, h4]) h4
  rw [decide_eq_false (by simp [h4]), cnd_f, Within1_eq, Option.bind_some, show A.not (.bool (withinB way 1 2)) = some (.bool (!withinB way 1 2)) from rfl, Option.bind_some]
  by_cases hw : way = 1 ∨ way = 2
  case neg =>
   have : withinB way 1 2 = false := by unfold withinB; rw [decide_eq_false]; omega
   rw [this, show (!false) = true from rfl, cnd_t]
   exact bad (by unfold recErr; simp [h1, h2, h3, h4]; omega) (by decide)
  have hw2 : withinB way 1 2 = true := by unfold withinB; rw [decide_eq_true]; omega
  rw [hw2, show (!true) = false from rfl, cnd_f]
  have hz : recErr l n ms way = 0 := by unfold recErr; simp [h1, h2, h3, h4]; omega
  obtain ⟨_, hnb, hml, hmz, hway⟩ := recErr_zero hz
  have heq := heq hz
  unfold recRes
  rw [if_neg (by simp [hz])]
  have hg := good_of h1
  have hlen := hg.len
  obtain ⟨a, ha⟩ : ∃ a, a = posC l n := ⟨_, rfl⟩
  have hal : a ≤ l.length := ha ▸ posC_le l n
  have hI0 := recIns_inv hg n
  obtain ⟨hRok, hRI⟩ := rec_ok hl.2 hg hn hm.2 hml way
  obtain ⟨v, s1, e1, K1⟩ := cloned_s (small_of hg) (by unfold mxl; omega) (hs_nil (B := anyB) σ)
  rw [e1, Option.bind_some, At5_own K1 hg n, Option.bind_some, tlss0, Option.bind_some, ← ha]
  have ins : ∃ r, (A.cond (.bool (decide ((if hasC l n = true then (a : Int) else -1) < 0))) (
      ((((A.cell (AV.int .i64 1)).bind fun v => some [v]).bind fun c13 => (A.splice 0 c13 [(AV.int .i64 0), AV.nsl]).bind fun c14 => some c14).bind fun cs => some (AV.agg cs)).bind fun x15 =>
      ((((A.cell (.int .i64 n)).bind fun v => some [v]).bind fun c16 => (A.splice 0 c16 [(AV.int .i64 0), (AV.str ⟨#[]⟩), (AV.int .i64 0), (AV.int .i64 0), (AV.int .i64 0), (AV.int .i64 0), (AV.int .i64 0), AV.nsl, (AV.bool false), (AV.int .i64 0), AV.nsl]).bind fun c17 => (A.cells 2 x15).bind fun c18 => (A.splice 6 c18 c17).bind fun c19 => ((A.cell (AV.int .i64 (-1))).bind fun v => some [v]).bind fun c20 => (A.splice 9 c20 c19).bind fun c21 => some c21).bind fun cs => some (AV.agg cs)).bind fun x22 =>
      (m_R5_insert [v, x22] s1).bind fun r23 =>
      (A.ext 0 r23.1).bind fun x24 =>
      (A.ext 1 r23.1).bind fun x25 =>
      some ([x24, x25], r23.2)) (
      some ([v, .int .i64 (if hasC l n = true then (a : Int) else -1)], s1))) = some r ∧ ∃ v1 s2, r = ([v1, .int .i64 (a : Int)], s2) ∧ Hs anyB σ s2 (Sl CueE 11 v1 (recIns l n) * emp) := by
   unfold recIns
   cases hh : hasC l n
   ·simp only [Bool.false_eq_true, if_false]
    rw [decide_eq_true (by decide), cnd_t, agg2, Option.bind_some, aggN, Option.bind_some]
    obtain ⟨v1, s2, e2, K2⟩ := insert5_s (c := newCue n) (vp := .nsl) (vm := .nsl) rfl rfl hg.srt (by omega) (hs_eq (show CueE (newRow n) (newCue n) * (Sl CueE 11 v l * emp) = Sl CueE 11 v l * (CueE (newRow n) (newCue n) * emp) by ac_rfl) (newRow_E n K1))
    rw [show newRow n = cCueH (newCue n) .nsl .nsl from rfl, e2, Option.bind_some]
    simp only
    rw [ext0, Option.bind_some, ext1, Option.bind_some]
    exact ⟨_, rfl, v1, s2, by rw [ha]; rfl, K2⟩
   ·simp only [if_true]
    rw [decide_eq_false (by omega), cnd_f]
    exact ⟨_, rfl, v, s1, rfl, K1⟩
  obtain ⟨r, e2, v1, s2, hr, K2⟩ := ins
  subst hr
  simp only at e2
  simp only
  rw [e2, Option.bind_some]
  simp only [List.getD_cons_zero, List.getD_cons_succ]
  obtain ⟨x, hx⟩ := recIns_at hg n
  rw [← ha] at hx
  have hxal := (List.getElem?_eq_some_iff.1 hx).1
  have hxI := hI0.2 x (List.mem_of_getElem? hx)
  obtain ⟨o1, ho1⟩ : ∃ o1, o1 = recIns l n := ⟨_, rfl⟩
  rw [← ho1] at hx hxal hI0 K2
  -- the moves are laid aside
  obtain ⟨p, q, vm, s3, f1, f2, f3, f4, f5, K3⟩ := takeM hx K2
  rw [f1, Option.bind_some, f2, Option.bind_some, f3, Option.bind_some, Option.bind_some, f2, Option.bind_some, show ((A.cell AV.nsl).bind fun v => some [v]) = some [.nsl] from rfl, Option.bind_some, f5, Option.bind_some]
  -- the state ahead
  obtain ⟨o1', ho1'⟩ : ∃ o1', o1' = o1.set a { x with moves := [] } := ⟨_, rfl⟩
  rw [← ho1'] at K3
  have hl1 : o1.length ≤ 1000 := hI0.1
  have hmv1 : ∀ c ∈ o1, c.moves.length ≤ 2000000 := fun c hc => by have := (hI0.2 c hc).2; omega
  have hmv1' : ∀ c ∈ o1', c.moves.length ≤ 2000000 := fun c hc => by
   rw [ho1'] at hc
   rcases List.mem_or_eq_of_mem_set hc with hc | hc
   ·exact hmv1 c hc
   ·subst hc; exact Nat.zero_le _
  have htk : o1'.take a = o1.take a := by rw [ho1', List.take_set_of_le (Nat.le_refl a)]
  obtain ⟨st0, hst0⟩ : ∃ st0, st0 = beforeF (o1.take a) := ⟨_, rfl⟩
  have lb : ∃ bv s4, m_R5_Before [v1, .int .i64 (a : Int)] s3 = some (bv, s4) ∧ Hs anyB σ s4 (Sl (fl cEntry) 5 bv (beforeF (o1'.take a)) * (Sl CueE 11 v1 o1' * (Sl (fl cMove) 8 vm x.moves * emp))) := lentK (B := anyB) (fun _ _ => trivial) (ain := [.e 11 shCue]) (ts := [sl 11 cCue o1', .int .i64 (a : Int)]) ⟨lt_cues K3, lt_int _, trivial⟩ (Before_s (l := o1') (n := a) (by rw [ho1', List.length_set]; omega) (by rw [ho1', List.length_set]; exact hl1) hmv1') K3
  obtain ⟨bv, s4, e3, K4⟩ := lb
  rw [htk, ← hst0] at K4
  rw [e3, Option.bind_some]
  -- and back
  obtain ⟨p', q', s5, g1, g2, g3, K5⟩ := giveM (x := { x with moves := [] }) (i := a) (by rw [ho1', List.getElem?_set_self hxal]) (hs_eq (show _ = Sl CueE 11 v1 o1' * (Sl (fl cMove) 8 vm x.moves * (Sl (fl cEntry) 5 bv st0 * emp)) by ac_rfl) K4)
  rw [f1] at g1; injection g1 with g1; subst g1
  rw [f2] at g2; injection g2 with g2; subst g2
  have hback : o1'.set a { ({ x with moves := [] } : CueD) with moves := x.moves } = o1 := by
   rw [ho1', List.set_set]
   exact set_same hx
  rw [hback] at K5
  simp only
  rw [Option.bind_some, f2, Option.bind_some, f4, Option.bind_some, Option.bind_some, g3, Option.bind_some, Option.bind_some]
  obtain ⟨p', e, g1, g2, g4⟩ := row_at hx K5
  rw [f1] at g1; injection g1 with g1; subst g1
  obtain ⟨i1', i2⟩ := before_inv (l := o1.take a) (fun c hc => hmv1 c (List.mem_of_mem_take hc)) 0 [] List.Pairwise.nil (Nat.zero_le _)
  have i1 : srtE st0 := by rw [hst0]; exact i1'
  have i3 : st0.length ≤ 2000000000 := by
   have : (o1.take a).length ≤ 1000 := by simp; omega
   rw [hst0]; unfold beforeF; omega
  have hxm := hxI.2
  have i4 : st0.length + x.moves.length < 1099511627776 := by omega
  obtain ⟨wv, s6, e4, K6⟩ := after_lent (B := anyB) (fun _ _ => trivial) i1 i4 (by unfold mxl; omega) (hs_eq (show _ = Sl (fl cEntry) 5 bv st0 * (Sl CueE 11 v1 o1 * emp) by ac_rfl) K5) g4
  rw [g2, Option.bind_some, e4, Option.bind_some, lenS_sl, Option.bind_some]
  obtain ⟨was, hwas⟩ : ∃ was, was = recWas l n := ⟨_, rfl⟩
  have hwas2 : afterF st0 x = was := by
   rw [hwas]; unfold recWas
   rw [← ha, ← ho1, hst0, beforeF, beforeF, foldl_take _ _ _ hx]
  obtain ⟨j1, j2⟩ := fold_stepE (n := x.number) x.moves i1
  have j3 : srtE was := by rw [← hwas2]; exact j1
  have j4 : was.length < 4611686018427387904 := by rw [← hwas2]; show (x.moves.foldl (stepE x.number) st0).length < _; omega
  rw [hwas2] at K6
  refine loop_k (Q := fun q => q.1 = .exit 0 ∧ ∃ R, Hs anyB σ q.2.2 (Sl CueE 11 v1 (recF l n ms way) * R)) (loop_hs ms (fun i w s => w = [.int .i64 (i : Int)] ∧ Hs anyB σ s (Sl CueE 11 v1 ((ms.take i).foldl (recStep5 was a way) o1) * (Sl (fl cEntry) 5 wv was * (Sl (fl cEntry) 5 bv st0 * emp)))) ?_ ?_ ⟨rfl, hs_eq (by rw [List.take_zero, List.foldl_nil]; ac_rfl) K6⟩) ?_
  ·rintro i m w s hxm ⟨rfl, K⟩
   have hi := (List.getElem?_eq_some_iff.1 hxm).1
   obtain ⟨hI, hL⟩ := rs5_fold (was := was) (a := a) (way := way) (ms.take i) hI0
   rw [foldl_take _ _ _ hxm]
   obtain ⟨o, ho⟩ : ∃ o, o = (ms.take i).foldl (recStep5 was a way) o1 := ⟨_, rfl⟩
   rw [← ho] at hI hL K ⊢
   have hil : (ms.take i).length ≤ 2000 := by simp; omega
   obtain ⟨mid, hmid⟩ : ∃ mid, mid = (if k5F o a way m < 0 ∨ (o.length : Int) ≤ k5F o a way m then o else setMv o (k5F o a way m).toNat fun old => restP (fun y => mvOf y (lookE was y)) old m.key) := ⟨_, rfl⟩
   have hmI := rs5_mid_inv (was := was) (a := a) (way := way) (m := m) hI
   have hmL := rs5_mid_len was a way o m
   rw [← hmid] at hmI hmL
   have hstep : recStep5 was a way o m = setMv mid a (putM · m) := by unfold recStep5; rw [← hmid]
   rw [hstep]
   have hma : mid[a]? = some (mid[a]'(by omega)) := List.getElem?_eq_getElem (by omega)
   have hmaI := hmI.2 _ (List.mem_of_getElem? hma)
   have tail : ∀ {s' : Heap} {R : HP}, R = (Sl (fl cEntry) 5 wv was * (Sl (fl cEntry) 5 bv st0 * emp)) → Hs anyB σ s' (Sl CueE 11 v1 mid * R) → ∃ v'' σ'', ((A.faddr 10 p).bind fun x72 =>
        ((A.deref x72 s').bind fun c73 => A.part1 0 c73).bind fun x74 =>
        ((A.lb (AV.lbx (cMove m))).bind fun c75 => A.partA 0 8 c75).bind fun x76 =>
        (m_R5_put [x74, x76] s').bind fun r77 =>
        (A.faddr 10 p).bind fun x79 =>
        ((A.cell r77.1).bind fun v => some [v]).bind fun c80 =>
        (A.storeAt x79 c80 r77.2).bind fun c81 =>
        (A.add (.int .i64 (i : Int)) (AV.int .i64 1)).bind fun x82 =>
        some (AX.normal, [x82], c81)) = some (AX.normal, v'', σ'') ∧ v'' = [.int .i64 ((i + 1 : Nat) : Int)] ∧ Hs anyB σ σ'' (Sl CueE 11 v1 (setMv mid a (putM · m)) * (Sl (fl cEntry) 5 wv was * (Sl (fl cEntry) 5 bv st0 * emp))) := by
    rintro s' R rfl K
    obtain ⟨pp, qq, vk, v', t1, t2, c1, c2, c3, c4, c5, c6, K7⟩ := put5_at hma m hmaI.1 (by omega) K
    rw [f1] at c1; injection c1 with c1; subst c1
    rw [f2] at c2; injection c2 with c2; subst c2
    rw [f2, Option.bind_some, c3, Option.bind_some, show ((A.lb (.lbx (cMove m))).bind fun c75 => A.partA 0 8 c75) = some (.agg (cMove m)) from rfl, Option.bind_some, c4, Option.bind_some, Option.bind_some]
    simp only
    rw [c5, Option.bind_some, Option.bind_some, c6, Option.bind_some, ix_inc hxm hm.1, Option.bind_some]
    exact ⟨_, _, rfl, rfl, K7⟩
   simp only [List.getD_cons_zero]
   rw [ix_lt hxm, Option.bind_some, cnd_t, ix_for hxm, Option.bind_some]
   simp only [A.deref, Option.bind_some]
   rw [pA_cMove, Option.bind_some, ce_cMove, Option.bind_some, sp_cMove m _ rfl, Option.bind_some, tadd1 (by omega), Option.bind_some, aEq, Option.bind_some]
   have sel : ∃ r, (A.cond (.bool (decide (way = 1))) (
        (some (AV.int .i64 ((a + 1 : Nat) : Int))).bind fun x25 =>
        (A.partA 0 2 (cMove m)).bind fun x26 =>
        (m_R5_blocked [v1, x25, x26] s).bind fun r27 =>
        some ([(AV.lbx (cMove m)), r27.1], r27.2)) (
        some ([(AV.lbx (cMove m)), AV.int .i64 ((a + 1 : Nat) : Int)], s))) = some r ∧ r = ([.lbx (cMove m), .int .i64 (k5F o a way m)], s) := by
    unfold k5F
    by_cases hw : way = 1
    ·rw [decide_eq_true hw, cnd_t, if_pos hw, Option.bind_some, pA_cMove_key, Option.bind_some, blocked5_own K (by omega) (hI.small (by omega)), Option.bind_some]
     exact ⟨_, rfl, rfl⟩
    ·rw [decide_eq_false hw, cnd_f, if_neg hw]
     exact ⟨_, rfl, rfl⟩
   obtain ⟨r, hr1, hr2⟩ := sel
   subst hr2
   rw [hr1, Option.bind_some]
   simp only [List.getD_cons_zero, List.getD_cons_succ]
   have hlv : A.lenS v1 = some (.int .i64 (o.length : Int)) := sl_len K
   rw [aGeq, Option.bind_some]
   rcases k5_gt o a way m with hk | hk
   ·rw [hk] at hmid ⊢
    rw [if_pos (.inl (by decide))] at hmid
    rw [decide_eq_false (by decide : ¬ ((0 : Int) ≤ -1))]
    simp only [A.guard, show (false == true) = false from rfl, cond_false, Option.bind_some, A.pick]
    rw [cnd_f]
    rw [← hmid] at K
    simp only [Option.bind_some, List.getD_cons_zero]
    exact tail rfl K
   ·obtain ⟨k, hkk⟩ : ∃ k : Nat, k5F o a way m = (k : Int) := ⟨(k5F o a way m).toNat, by omega⟩
    rw [hkk] at hk hmid ⊢
    rw [decide_eq_true (by omega)]
    simp only [A.guard, beq_self_eq_true, cond_true, Option.bind_some, hlv, A.pick, tlss]
    by_cases hko : k < o.length
    case neg =>
     rw [if_pos (.inr (by omega))] at hmid
     rw [decide_eq_false (by omega), cnd_f]
     rw [← hmid] at K
     simp only [Option.bind_some, List.getD_cons_zero]
     exact tail rfl K
    rw [if_neg (by omega), Int.toNat_natCast] at hmid
    rw [decide_eq_true hko, cnd_t]
    have hok1 : o[k]? = some o[k] := List.getElem?_eq_getElem hko
    have hsr := hI.2 o[k] (List.mem_of_getElem? hok1)
    obtain ⟨pk, F, e, f5, hC, K3, back⟩ := sl_cell K hok1
    obtain ⟨s', e', f6, K4⟩ := restore5_s m.key hC hsr.1 (by omega) j3 j4 K3
    have K5 := back K4
    have hmid2 : mid = o.set k { o[k] with moves := restP (fun y => mvOf y (lookE was y)) o[k].moves m.key } := by rw [hmid, setMv, hok1]
    rw [← hmid2] at K5
    rw [f5, Option.bind_some, show ((A.lb (.lbx (cMove m))).bind fun _ => some (0)) = some 0 from rfl, Option.bind_some, show ((A.lb (.lbx (cMove m))).bind fun c40 => A.partA 0 2 c40) = some (.agg (cKey m.key)) from rfl, Option.bind_some, f6, Option.bind_some]
    simp only [Option.bind_some, List.getD_cons_zero]
    exact tail rfl K5
  ·rintro w s ⟨rfl, K⟩
   simp only [List.getD_cons_zero]
   rw [ix_end, Option.bind_some, cnd_f]
   rw [List.take_length] at K
   have hq : ms.foldl (recStep5 was a way) o1 = recF l n ms way := by
    rw [← heq]
    unfold recF5
    rw [← ha, ← ho1, ← hwas]
   rw [hq] at K
   exact ⟨_, rfl, by simp, rfl, _, K⟩
  rintro ⟨e, w, s⟩ ⟨h1, R, K⟩
  simp only at h1 K
  subst h1
  simp only [exb]
  rw [shaped_own K (okL_of hRok hRI), Option.bind_some]
  simp only
  rw [ext0, Option.bind_some, ext1, Option.bind_some]
  unfold doneF
  by_cases hq : formF (recF l n ms way) = 0
  ·rw [if_pos hq, if_pos hq, hq]
   obtain ⟨v', j1, j2⟩ := fin_ret (e := 0) (cues_weak K)
   exact ⟨_, j1, rfl, nn_ret j2⟩
  ·rw [if_neg hq, if_neg hq]
   exact ⟨_, fin_nil K, rfl, nn_nil⟩
 obtain ⟨⟨b, s⟩, h1, h2, h3⟩ := run
 simp only at h2 h3
 subst h2
 refine wrap_eq rfl ?_ h3
 rw [show A.nnL [Sh.e 11 [.k, .k, .k, .k, .k, .k, .k, .s 2, .k, .k, .s 8], .k, .s 8] [sl 11 cCue l, .int .i64 n, sl 8 cMove ms, .int .i64 way] = [sl 11 cCue l, .int .i64 n, sl 8 cMove ms, .int .i64 way] from nn_t1 (nn_idem_cues l) (nn_t1 (nn_k _) (nn_t1 (nn_sm ms) rfl))]
 exact h1
end
end Go.Proofs.Ytphgchakmkankaa

namespace Go.Proofs.Ytphgchakmkankaa
set_option linter.unusedSectionVars false
set_option linter.unusedVariables false
set_option linter.unusedSimpArgs false
open HP
theorem look_fold {n : Int} {k : KeyD} : ∀ (ms : List MoveD) {st : List EntryD}, srtE st → (∀ m ∈ ms, m.key ≠ k) → lookE (ms.foldl (stepE n) st) k = lookE st k
 | [], _, _, _ => rfl
 | m :: ms, st, h, hk => by
  obtain ⟨h1, h2, _⟩ := stepE_spec (n := n) h m
  rw [List.foldl_cons, look_fold ms h1 (fun x hx => hk x (by simp [hx])), h2, if_neg (fun e => hk m (by simp) e.symm)]
theorem no_has {ms : List MoveD} {k : KeyD} (h : hasM ms k = false) : ∀ m ∈ ms, m.key ≠ k := fun m hm e => by
 rw [Bool.eq_false_iff] at h
 exact h (List.any_eq_true.2 ⟨m, hm, by simp [e]⟩)
theorem look_cues {k : KeyD} : ∀ (l : List CueD) {st : List EntryD}, srtE st → (∀ c ∈ l, hasM c.moves k = false) → lookE (l.foldl afterF st) k = lookE st k
 | [], _, _, _ => rfl
 | c :: l, st, h, hk => by
  rw [List.foldl_cons, look_cues l (st := afterF st c) (fold_stepE (n := c.number) c.moves h).1 (fun x hx => hk x (by simp [hx]))]
  exact look_fold c.moves h (no_has (hk c (by simp)))
theorem setMv_id {l : List CueD} {i : Nat} {g : List MoveD → List MoveD} (h : ∀ x, l[i]? = some x → g x.moves = x.moves) : setMv l i g = l := by
 unfold setMv
 split
 ·rename_i x hx
  rw [h x hx]
  exact set_same hx
 ·rfl
theorem setMv_get (l : List CueD) (i j : Nat) (g : List MoveD → List MoveD) : (setMv l i g)[j]? = if i = j then l[j]?.map (fun c => { c with moves := g c.moves }) else l[j]? := by
 by_cases h : i = j
 ·subst h
  rw [if_pos rfl]
  unfold setMv
  split
  ·rename_i x hx
   rw [List.getElem?_set_self (List.getElem?_eq_some_iff.1 hx).1, hx]; rfl
  ·rename_i hx; rw [hx]; rfl
 ·rw [if_neg h, setMv_ne h]
theorem setMv_comm (l : List CueD) {i j : Nat} (h : i ≠ j) (g f : List MoveD → List MoveD) : setMv (setMv l i g) j f = setMv (setMv l j f) i g := by
 apply List.ext_getElem?
 intro k
 rw [setMv_get, setMv_get, setMv_get, setMv_get]
 by_cases h1 : j = k
 ·subst h1; rw [if_pos rfl, if_neg h, if_neg h, if_pos rfl]
 ·rw [if_neg h1, if_neg h1]
theorem setMv_two (l : List CueD) (i : Nat) (g f : List MoveD → List MoveD) : setMv (setMv l i g) i f = setMv l i (fun x => f (g x)) := by
 apply List.ext_getElem?
 intro k
 rw [setMv_get, setMv_get, setMv_get]
 by_cases h1 : i = k
 ·subst h1
  rw [if_pos rfl, if_pos rfl, if_pos rfl]
  cases l[i]? <;> rfl
 ·rw [if_neg h1, if_neg h1, if_neg h1]
theorem putAll_comm {a nx : Nat} (h : a ≠ nx) (g : List MoveD → List MoveD) : ∀ (ms : List MoveD) (o : List CueD), putAll (setMv o nx g) a ms = setMv (putAll o a ms) nx g
 | [], o => rfl
 | m :: ms, o => by
  show putAll (setMv (setMv o nx g) a (putM · m)) a ms = setMv (putAll (setMv o a (putM · m)) a ms) nx g
  rw [setMv_comm o (Ne.symm h), putAll_comm h g ms]
def stepA (g : KeyD → MoveD) (mv : KeyD → Bool) (a nx : Nat) (o : List CueD) (m : MoveD) : List CueD := setMv (if mv m.key = true then o else setMv o nx fun old => restP g old m.key) a (putM · m)
theorem foldA {g : KeyD → MoveD} {mv : KeyD → Bool} {a nx : Nat} (h : a ≠ nx) : ∀ (ms : List MoveD) (o : List CueD), ms.foldl (stepA g mv a nx) o = setMv (putAll o a ms) nx fun old => ((ms.map (·.key)).filter fun k => !mv k).foldl (restP g) old
 | [], o => (setMv_id (fun _ _ => rfl)).symm
 | m :: ms, o => by
  rw [List.foldl_cons, foldA h ms]
  unfold stepA
  rw [List.map_cons, List.filter_cons]
  show _ = setMv (putAll (setMv o a (putM · m)) a ms) nx _
  cases hm : mv m.key
  ·simp only [Bool.false_eq_true, if_false, Bool.not_false, if_true, List.foldl_cons]
   rw [setMv_comm o (Ne.symm h), putAll_comm h, setMv_two]
  ·simp only [if_true, Bool.not_true, Bool.false_eq_true, if_false]
theorem scan_key {l : List CueD} (k : KeyD) : ∀ (i j : Nat), scanL (fun j c => if c.block = true then some j else none) l i = some j →
  (scanL (fun j c => if hasM c.moves k = true then some (-1) else if c.block = true then some (j : Int) else none) l i).getD (-1) = if ((l.take (j + 1 - i)).any fun c => hasM c.moves k) = true then -1 else (j : Int) := by
 induction l with
 | nil => intro i j h; cases h
 | cons x l ih =>
  intro i j h
  rw [scanL] at h ⊢
  cases hb : x.block
  ·rw [hb] at h; simp only [Bool.false_eq_true, if_false] at h
   have hj := (blk_at (i + 1) j h).1
   rw [show j + 1 - i = (j + 1 - (i + 1)) + 1 by omega, List.take_succ_cons, List.any_cons]
   cases hasM x.moves k
   ·simp only [Bool.false_eq_true, if_false, Bool.false_or]
    exact ih (i + 1) j h
   ·simp
  ·rw [hb] at h; simp only [if_true, Option.some.injEq] at h
   subst h
   rw [show i + 1 - i = 0 + 1 by omega, List.take_succ_cons, List.take_zero]
   cases hm : hasM x.moves k <;> simp [hm]
def mvF (o : List CueD) (a nx : Nat) (k : KeyD) : Bool := ((o.drop (a + 1)).take (nx - (a + 1))).any fun c => hasM c.moves k
theorem drop_setMv_lt (g : List MoveD → List MoveD) (l : List CueD) {k a : Nat} (h : k < a) : (setMv l k g).drop a = l.drop a := by
 unfold setMv
 split
 ·rw [List.drop_set, if_pos h]
 ·rfl
theorem take_setMv (g : List MoveD → List MoveD) (l : List CueD) {k a : Nat} (h : a ≤ k) : (setMv l k g).take a = l.take a := by
 unfold setMv
 split
 ·rw [List.take_set_of_le h]
 ·rfl
def Same (way : Int) (a nx : Nat) (mv : KeyD → Bool) (o : List CueD) : Prop := nx < o.length ∧ (∀ k, mvF o a nx k = mv k) ∧ recNx way o a = (nx : Int)
theorem same_a {way : Int} {a nx : Nat} {mv : KeyD → Bool} {o : List CueD} (h : Same way a nx mv o) (g : List MoveD → List MoveD) : Same way a nx mv (setMv o a g) := by
 obtain ⟨h1, h2, h3⟩ := h
 refine ⟨by rw [setMv_len]; exact h1, fun k => ?_, ?_⟩
 ·unfold mvF; rw [drop_setMv_lt g o (Nat.lt_succ_self a)]; exact h2 k
 ·unfold recNx blkF; rw [drop_setMv_lt g o (Nat.lt_succ_self a)]; exact h3
theorem same_nx {way : Int} {a nx : Nat} {mv : KeyD → Bool} {o : List CueD} (han : a + 1 ≤ nx) (h : Same way a nx mv o) (g : List MoveD → List MoveD) : Same way a nx mv (setMv o nx g) := by
 obtain ⟨h1, h2, h3⟩ := h
 refine ⟨by rw [setMv_len]; exact h1, fun k => ?_, ?_⟩
 ·unfold mvF; rw [drop_setMv g o _ _ han, take_setMv g _ (Nat.le_refl _)]; exact h2 k
 ·unfold recNx blkF; rw [drop_setMv g o _ _ han, blk_setMv]; exact h3
theorem stepA_same {g : KeyD → MoveD} {way : Int} {a nx : Nat} {mv : KeyD → Bool} {o : List CueD} (han : a + 1 ≤ nx) (h : Same way a nx mv o) (m : MoveD) : Same way a nx mv (stepA g mv a nx o m) := by
 unfold stepA
 refine same_a ?_ _
 split
 ·exact h
 ·exact same_nx han h _
theorem step_rec {was : List EntryD} {way : Int} {a nx : Nat} {mv : KeyD → Bool} {o : List CueD} (han : a + 1 ≤ nx) (h : Same way a nx mv o) (m : MoveD) : recStep5 was a way o m = stepA (fun y => mvOf y (lookE was y)) mv a nx o m := by
 obtain ⟨h1, h2, h3⟩ := h
 unfold recStep5 stepA
 congr 1
 have hx : o[nx]? = some o[nx] := List.getElem?_eq_getElem h1
 have hid : hasM o[nx].moves m.key = true → setMv o nx (fun old => restP (fun y => mvOf y (lookE was y)) old m.key) = o := fun hh => setMv_id fun x hx' => by
  rw [hx] at hx'; injection hx' with hx'; subst hx'
  unfold restP; rw [if_pos hh]
 unfold recNx at h3
 by_cases hw : way = 1
 ·rw [if_pos hw] at h3
  have hb : blkF o (a + 1) = some nx := by
   cases hb : blkF o (a + 1) with
   | none => rw [hb] at h3; simp only at h3; omega
   | some j => rw [hb] at h3; simp only at h3; congr 1; omega
  have hk : k5F o a way m = if (((o.drop (a + 1)).take (nx + 1 - (a + 1))).any fun c => hasM c.moves m.key) = true then -1 else (nx : Int) := by
   unfold k5F blkK
   rw [if_pos hw]
   exact scan_key m.key (a + 1) nx hb
  have hany : (((o.drop (a + 1)).take (nx + 1 - (a + 1))).any fun c => hasM c.moves m.key) = (mv m.key || hasM o[nx].moves m.key) := by
   rw [← h2, mvF, show nx + 1 - (a + 1) = (nx - (a + 1)) + 1 by omega, List.take_add_one, List.any_append, List.getElem?_drop, show a + 1 + (nx - (a + 1)) = nx by omega, hx]
   simp
  rw [hany] at hk
  cases hmv : mv m.key
  ·cases hh : hasM o[nx].moves m.key
   ·rw [hmv, hh] at hk
    simp only [Bool.or_self, Bool.false_eq_true, if_false] at hk ⊢
    rw [hk, if_neg (by omega), Int.toNat_natCast]
   ·rw [hmv, hh] at hk
    simp only [Bool.or_true, if_true, Bool.false_eq_true, if_false] at hk ⊢
    rw [hk, if_pos (.inl (by decide)), hid hh]
  ·rw [hmv] at hk
   simp only [Bool.true_or, if_true] at hk ⊢
   rw [hk, if_pos (.inl (by decide))]
 ·rw [if_neg hw] at h3
  have hn : nx = a + 1 := by omega
  have hmv : mv m.key = false := by rw [← h2, mvF, hn, Nat.sub_self, List.take_zero]; rfl
  have hk : k5F o a way m = (nx : Int) := by unfold k5F; rw [if_neg hw, hn]
  rw [hmv, hk, if_neg (by omega), Int.toNat_natCast]
  simp
theorem fold_rec {was : List EntryD} {way : Int} {a nx : Nat} {mv : KeyD → Bool} (han : a + 1 ≤ nx) : ∀ (ms : List MoveD) {o : List CueD}, Same way a nx mv o → ms.foldl (recStep5 was a way) o = ms.foldl (stepA (fun y => mvOf y (lookE was y)) mv a nx) o
 | [], _, _ => rfl
 | m :: ms, o, h => by
  rw [List.foldl_cons, List.foldl_cons, step_rec han h m]
  exact fold_rec han ms (stepA_same han h m)
theorem rest_same {g g' : KeyD → MoveD} : ∀ (ks : List KeyD) {ms : List MoveD}, srtM ms → (∀ k, (g k).key = k) → (∀ k ∈ ks, hasM ms k = false → g k = g' k) → ks.foldl (restP g) ms = ks.foldl (restP g') ms
 | [], _, _, _, _ => rfl
 | k :: ks, ms, hs, hg, h => by
  have e : restP g ms k = restP g' ms k := by
   unfold restP
   cases hh : hasM ms k
   ·rw [h k (by simp) hh]
   ·rfl
  rw [List.foldl_cons, List.foldl_cons, ← e]
  refine rest_same ks (restP_srt hs k).1 hg (fun x hx hh => h x (by simp [hx]) ?_)
  unfold restP at hh
  split at hh
  ·exact hh
  ·rw [has_put hs] at hh
   rw [Bool.or_eq_false_iff] at hh
   exact hh.1
theorem setMv_congr {l : List CueD} {i : Nat} {g f : List MoveD → List MoveD} (h : ∀ x, l[i]? = some x → g x.moves = f x.moves) : setMv l i g = setMv l i f := by
 unfold setMv
 split
 ·rename_i x hx
  rw [h x hx]
 ·rfl
theorem putAll_ne {a j : Nat} (h : a ≠ j) : ∀ (ms : List MoveD) (o : List CueD), (putAll o a ms)[j]? = o[j]?
 | [], o => rfl
 | m :: ms, o => by
  show (putAll (setMv o a (putM · m)) a ms)[j]? = _
  rw [putAll_ne h ms, setMv_ne h]
theorem putAll_same {way : Int} {a nx : Nat} {mv : KeyD → Bool} : ∀ (ms : List MoveD) {o : List CueD}, Same way a nx mv o → Same way a nx mv (putAll o a ms)
 | [], _, h => h
 | m :: ms, _, h => putAll_same ms (same_a h _)
theorem putAll_nx (way : Int) (a : Nat) : ∀ (ms : List MoveD) (o : List CueD), recNx way (putAll o a ms) a = recNx way o a
 | [], _ => rfl
 | m :: ms, o => by
  show recNx way (putAll (setMv o a (putM · m)) a ms) a = _
  rw [putAll_nx way a ms]
  unfold recNx blkF
  rw [drop_setMv_lt _ o (Nat.lt_succ_self a)]
theorem fold_out {was : List EntryD} {way : Int} {a : Nat} : ∀ (ms : List MoveD) {o : List CueD}, (recNx way o a < 0 ∨ (o.length : Int) ≤ recNx way o a) → ms.foldl (recStep5 was a way) o = putAll o a ms
 | [], _, _ => rfl
 | m :: ms, o, h => by
  have hk : k5F o a way m < 0 ∨ (o.length : Int) ≤ k5F o a way m := by
   unfold recNx at h
   unfold k5F
   by_cases hw : way = 1
   ·rw [if_pos hw] at h ⊢
    have hb : blkF o (a + 1) = none := by
     cases hb : blkF o (a + 1) with
     | none => rfl
     | some j =>
      rw [hb] at h; simp only at h
      have := blk_at _ _ hb
      rw [List.length_drop] at this
      omega
    unfold blkK
    rw [scan_none m.key (a + 1) (a + 1) hb]
    exact .inl (by decide)
   ·rw [if_neg hw] at h ⊢
    exact h
  have hs : recStep5 was a way o m = setMv o a (putM · m) := by unfold recStep5; rw [if_pos hk]
  rw [List.foldl_cons, hs]
  refine fold_out ms ?_
  have := putAll_nx way a [m] o
  rw [show putAll o a [m] = setMv o a (putM · m) from rfl] at this
  rw [this, setMv_len]
  exact h
theorem rec_state {l : List CueD} {n : Int} {nx : Nat} (han : posC l n + 1 ≤ nx) : beforeF (l.take (recTo l n nx)) = (((recIns l n).drop (posC l n + 1)).take (nx - posC l n)).foldl afterF (recWas l n) := by
 have hle := posC_le l n
 unfold recTo recWas recIns
 cases hh : hasC l n
 ·simp only [Bool.false_eq_true, if_false]
  have e1 : (insAt l (posC l n) (newCue n)).drop (posC l n + 1) = l.drop (posC l n) := by
   unfold insAt
   rw [List.drop_append, List.drop_of_length_le (by simp; omega), List.nil_append]
   simp [Nat.min_eq_left hle]
  have e2 : (insAt l (posC l n) (newCue n)).take (posC l n + 1) = l.take (posC l n) ++ [newCue n] := by
   unfold insAt
   rw [List.take_append_of_le_length (by simp; omega), List.take_of_length_le (by simp; omega)]
  rw [e1, e2, show nx = posC l n + (nx - posC l n) by omega, List.take_add, beforeF, beforeF, List.foldl_append, List.foldl_append, show posC l n + (nx - posC l n) - posC l n = nx - posC l n by omega]
  rfl
 ·simp only [if_true]
  rw [show nx + 1 = (posC l n + 1) + (nx - posC l n) by omega, List.take_add, beforeF, beforeF, List.foldl_append]
theorem rec_eq {l : List CueD} (hg : Good l) (n : Int) (ms : List MoveD) (way : Int) : recF5 l n ms way = recF l n ms way := by
 obtain ⟨a, ha⟩ : ∃ a, a = posC l n := ⟨_, rfl⟩
 obtain ⟨o1, ho1⟩ : ∃ o1, o1 = recIns l n := ⟨_, rfl⟩
 have hI0 := recIns_inv hg n
 unfold recF5 recF
 simp only
 rw [← ha, ← ho1, putAll_nx, putAll_len]
 rw [← ho1] at hI0
 by_cases hout : recNx way o1 a < 0 ∨ (o1.length : Int) ≤ recNx way o1 a
 ·rw [if_pos hout, fold_out ms hout]
 rw [if_neg hout]
 obtain ⟨nx, hnx⟩ : ∃ nx : Nat, recNx way o1 a = (nx : Int) := ⟨(recNx way o1 a).toNat, by omega⟩
 have han : a + 1 ≤ nx := by rcases nx_cases way o1 a with h | h <;> omega
 have hlt : nx < o1.length := by omega
 rw [hnx, Int.toNat_natCast]
 have hS : Same way a nx (mvF o1 a nx) o1 := ⟨hlt, fun _ => rfl, hnx⟩
 have hS2 := putAll_same ms hS
 have hks : recKs (putAll o1 a ms) a nx (ms.map (·.key)) = (ms.map (·.key)).filter fun k => !mvF o1 a nx k := by
  unfold recKs
  congr 1
  funext k
  rw [← hS2.2.1 k]
  rfl
 rw [fold_rec han ms hS, foldA (by omega), hks]
 refine setMv_congr fun x hx => ?_
 rw [putAll_ne (by omega)] at hx
 refine rest_same _ (hI0.2 x (List.mem_of_getElem? hx)).1 (fun k => mvOf_key _ _) (fun k hk hh => ?_)
 have hmv : mvF o1 a nx k = false := by
  have := (List.mem_filter.1 hk).2
  simpa using this
 have hst := rec_state (l := l) (n := n) (nx := nx) (ha ▸ han)
 rw [← ha, ← ho1] at hst
 rw [(same_state (l.take (recTo l n nx))).2.2 k, hst]
 have hsrt : srtE (recWas l n) := (same_state _).2.1
 rw [look_cues _ hsrt]
 intro c hc
 rw [show nx - a = (nx - (a + 1)) + 1 by omega, List.take_add_one, List.getElem?_drop, show a + 1 + (nx - (a + 1)) = nx by omega, hx, Option.toList_some, List.mem_append] at hc
 rcases hc with hc | hc
 ·rw [Bool.eq_false_iff]
  intro e
  rw [Bool.eq_false_iff] at hmv
  exact hmv (List.any_eq_true.2 ⟨c, hc, e⟩)
 ·simp only [List.mem_singleton] at hc
  subst hc
  exact hh
end Go.Proofs.Ytphgchakmkankaa

namespace Go.Proofs.Ytphgchakmkankaa
set_option linter.unusedSectionVars false
set_option linter.unusedVariables false
set_option linter.unusedSimpArgs false
theorem eqSelf {α : Type} {l : List α} {body : Nat → α → Unit → Option (Lr Unit Unit Unit)} {K : Unit → Option Bool} (hl : l.length ≤ mxl) (hb : ∀ i x, l[i]? = some x → body i x () = some (.go ())) : forE l body (fun s => some ()) () (fun _ => some true) K = some true := by
 rw [forE_find (p := fun _ => false) (r := fun _ => ()) hl (fun i x hx => by rw [hb i x hx]; rfl)]
 have : l.find? (fun _ => false) = none := by simp
 rw [this]
theorem EqualP_t (l : List PointD) (hl : l.length ≤ mxl) : t_slices_Equal_api_Point l l = some true := by
 unfold t_slices_Equal_api_Point
 simp only [not_true_eq_false, if_false]
 refine eqSelf hl fun i x hx => ?_
 rw [tIx_get (x := x) (by omega) (by simpa using hx)]
 simp
theorem EqualM_t (l : List MoveD) (hl : l.length ≤ mxl) : t_slices_Equal_api_Move l l = some true := by
 unfold t_slices_Equal_api_Move
 simp only [not_true_eq_false, if_false]
 refine eqSelf hl fun i x hx => ?_
 rw [tIx_get (x := x) (by omega) (by simpa using hx)]
 simp
theorem sameCue_t (c : CueD) (h : okCue c) : t_W5_sameCue c c = some true := by
 unfold t_W5_sameCue
 have h1 : c.curve.points.length ≤ mxl := h.2.2.2.2.2.2.1.2.1
 have h2 : c.moves.length ≤ mxl := h.2.2.2.2.2.2.2.2.1
 simp only [decide_true, Bool.and_self, if_true, EqualP_t _ h1, EqualM_t _ h2, Option.bind_some]
theorem sameList_t (l : List CueD) (hl : okL okCue l) (σ : Heap) : m_W5_sameList [sl 11 cCue l, sl 11 cCue l] σ = some (.bool true, σ) := by
 have hd : ∀ x ∈ l, A.tab (fun _ _ => none) [(201, m_W5_sameCue)] 201 [.agg (cCue x), .agg (cCue x)] σ = some (.bool true, σ) := fun x hx => h_W5_sameCue (sameCue_t x (hl.2 x hx))
 have key : m_slices_EqualFunc_api_Cue (A.tab (fun _ _ => none) [(201, m_W5_sameCue)]) [sl 11 cCue l, sl 11 cCue l, .fn 201 []] σ = some (.bool true, σ) := by
  refine wrap_eq rfl ?_ rfl
  show r_slices_EqualFunc_api_Cue _ (sl 11 cCue l) (sl 11 cCue l) (.fn 201 []) σ = _
  unfold r_slices_EqualFunc_api_Cue
  rw [lenS_sl, Option.bind_some, Option.bind_some, aNe, Option.bind_some, decide_eq_false (by simp)]
  show ((A.loop _ _ _).bind _) = _
  have hloop : ∀ (pre rest : List CueD), l = pre ++ rest → ∃ n, A.iter (fun v5 s6 =>
    (A.lss (v5.getD 1 AV.undef) (.int .i64 (l.length : Int))).bind fun x8 =>
    A.cond x8 (
     (A.iaddr 11 (sl 11 cCue l) (v5.getD 1 AV.undef)).bind fun x9 =>
     ((A.deref x9 s6).bind fun c10 => A.partA 0 11 c10).bind fun x11 =>
     (A.cells 11 x11).bind fun c12 =>
     (A.splice 0 c12 [(AV.int .i64 0), (AV.str ⟨#[]⟩), (AV.int .i64 0), (AV.int .i64 0), (AV.int .i64 0), (AV.int .i64 0), (AV.int .i64 0), AV.nsl, (AV.bool false), (AV.int .i64 0), AV.nsl]).bind fun c13 =>
     (A.iaddr 11 (sl 11 cCue l) (v5.getD 1 AV.undef)).bind fun x14 =>
     ((A.deref x14 s6).bind fun c15 => A.partA 0 11 c15).bind fun x16 =>
     (A.cells 11 x16).bind fun c17 =>
     (A.splice 0 c17 [(AV.int .i64 0), (AV.str ⟨#[]⟩), (AV.int .i64 0), (AV.int .i64 0), (AV.int .i64 0), (AV.int .i64 0), (AV.int .i64 0), AV.nsl, (AV.bool false), (AV.int .i64 0), AV.nsl]).bind fun c18 =>
     (A.partA 0 11 c13).bind fun x19 =>
     (A.partA 0 11 c18).bind fun x20 =>
     (A.callv (A.tab (fun _ _ => none) [(201, m_W5_sameCue)]) (.fn 201 []) [x19, x20] s6).bind fun r21 =>
     (A.not r21.1).bind fun x22 =>
     A.cond x22 (
      some (AX.ret, [(AV.bool false), (v5.getD 1 AV.undef)], r21.2)) (
      (A.add (v5.getD 1 AV.undef) (AV.int .i64 1)).bind fun x23 =>
      some (AX.normal, [(v5.getD 0 AV.undef), x23], r21.2))) (
     some (AX.exit 0, [(v5.getD 0 AV.undef), (v5.getD 1 AV.undef)], s6))) n [.bool false, .int .i64 (pre.length : Int)] σ = some (.exit 0, [.bool false, .int .i64 (l.length : Int)], σ) := by
   intro pre rest
   induction rest generalizing pre with
   | nil =>
    intro h
    rw [List.append_nil] at h
    subst h
    refine loop_done ?_ (by simp)
    simp only [List.getD_cons_zero, List.getD_cons_succ]
    rw [ix_end]; rfl
   | cons x rest ih =>
    intro h
    have hx : l[pre.length]? = some x := by rw [h]; simp
    have hdx := hd x (List.mem_of_getElem? hx)
    refine loop_step (σ' := σ) (v' := [.bool false, .int .i64 ((pre.length + 1 : Nat) : Int)]) ?_ ?_
    ·simp only [List.getD_cons_zero, List.getD_cons_succ]
     rw [ix_lt hx, Option.bind_some]
     show ((A.iaddr 11 (sl 11 cCue l) (.int .i64 (pre.length : Int))).bind _) = _
     rw [ix_for hx, Option.bind_some]
     have hsp : A.splice 0 (cCue x) [(AV.int .i64 0), (AV.str ⟨#[]⟩), (AV.int .i64 0), (AV.int .i64 0), (AV.int .i64 0), (AV.int .i64 0), (AV.int .i64 0), AV.nsl, (AV.bool false), (AV.int .i64 0), AV.nsl] = some (cCue x) := sp_cCue _ _ rfl
     simp only [A.deref, Option.bind_some, pA_cCue, ce_cCue, hsp, ix_for hx, A.callv, List.append_nil]
     rw [hdx, Option.bind_some, show A.not (.bool true) = some (.bool false) from rfl, Option.bind_some]
     simp only [A.cond, cond_false]
     rw [ix_inc hx hl.1]; rfl
    ·have := ih (pre ++ [x]) (by rw [h]; simp)
     rwa [List.length_append, List.length_singleton] at this
  obtain ⟨n, hn⟩ := hloop [] l rfl
  rw [List.length_nil] at hn
  erw [loop_of_iter hn]
  exact fin_same _ _
 refine wrap_eq rfl ?_ rfl
 rw [show A.nnL [Sh.e 11 [.k, .k, .k, .k, .k, .k, .k, .s 2, .k, .k, .s 8], Sh.e 11 [.k, .k, .k, .k, .k, .k, .k, .s 2, .k, .k, .s 8]] [sl 11 cCue l, sl 11 cCue l] = [sl 11 cCue l, sl 11 cCue l] from nn_t1 (nn_e (fun _ => rfl) _) (nn_t1 (nn_e (fun _ => rfl) _) nn_t0)]
 show r_W5_sameList (sl 11 cCue l) (sl 11 cCue l) σ = _
 unfold r_W5_sameList
 rw [key, Option.bind_some]
 exact fin_same _ _
end Go.Proofs.Ytphgchakmkankaa

namespace Go.Proofs.Ytphgchakmkankaa
set_option linter.unusedSectionVars false
set_option linter.unusedSimpArgs false
set_option linter.unusedVariables false
theorem okL_none : okL okCue [] := ⟨Nat.zero_le _, by simp⟩
theorem recRes_ok {l : List CueD} (hl : okL okCue l) {n : Int} (hn : inI n) {ms : List MoveD} (hm : okL okMove ms) (way : Int) : okL okCue (recRes l n ms way).1 := by
 unfold recRes
 split
 ·exact okL_none
 rename_i hz
 obtain ⟨hf, _, hml, _, _⟩ := recErr_zero (Decidable.not_not.1 hz)
 obtain ⟨k1, k2⟩ := rec_ok hl.2 (good_of hf) hn hm.2 hml way
 unfold doneF
 split
 ·exact okL_of k1 k2
 ·exact okL_none
theorem h_W5_CueRecordsMatchSpec {l : List CueD} {n : Int} {ms : List MoveD} {way : Int} {σ : Heap} (h : okL okCue l ∧ inI n ∧ okL okMove ms ∧ inI way) : m_W5_CueRecordsMatchSpec [sl 11 cCue l, .int .i64 n, sl 8 cMove ms, .int .i64 way] σ = some (.bool true, σ) := by
 obtain ⟨hl, hn, hm, hw⟩ := h
 have run : r_W5_CueRecordsMatchSpec (sl 11 cCue l) (.int .i64 n) (sl 8 cMove ms) (.int .i64 way) σ = some (.bool true, σ) := by
  unfold r_W5_CueRecordsMatchSpec
  rw [Record_s hl hn hm way σ, Option.bind_some, ext0, Option.bind_some, ext1, Option.bind_some, RRecord_s hl hn hm way (fun hz => rec_eq (good_of (recErr_zero hz).1) n ms way) σ, Option.bind_some, ext0, Option.bind_some, ext1, Option.bind_some, sameList_t _ (recRes_ok hl hn hm way) σ, Option.bind_some]
  simp only [A.guard, beq_self_eq_true, cond_true, Option.bind_some, A.pick]
  rw [aEq]
  simp only [decide_true, Option.bind_some]
  exact fin_same _ _
 refine wrap_eq rfl ?_ rfl
 rw [show A.nnL [Sh.e 11 [.k, .k, .k, .k, .k, .k, .k, .s 2, .k, .k, .s 8], .k, .s 8] [sl 11 cCue l, .int .i64 n, sl 8 cMove ms, .int .i64 way] = [sl 11 cCue l, .int .i64 n, sl 8 cMove ms, .int .i64 way] from nn_t1 (nn_idem_cues l) (nn_t1 (nn_k _) (nn_t1 (nn_sm ms) rfl))]
 exact run
theorem cueRecordsMatchSpec_true (l : List CueD) (n : Int) (ms : List MoveD) (way : Int) (hl : okL okCue l) (hn : inI n) (hm : okL okMove ms) (hw : inI way) : okL okCue l ∧ inI n ∧ okL okMove ms ∧ inI way := ⟨hl, hn, hm, hw⟩
end Go.Proofs.Ytphgchakmkankaa

namespace Go.Proofs.Ytphgchakmkankaa
set_option linter.unusedSectionVars false
set_option linter.unusedSimpArgs false
set_option linter.unusedVariables false
open Go.ChangeShapes Go.WideShapes Go.ChangeAt Go.RowKit

theorem own : ownKnob Try.prog.godebug = none := by kernel_rfl
theorem laidOut : laidOutB Try.prog = true := by kernel_rfl

theorem trodAll_below {H : Type} {enc : TypeId × Value → H} {P : Program} (hl : laidOutB P = true) {W W' : World} (hb : Below W.heap.size W W') :
  ∀ {ts : List TypeId} {vs : List Value} {ds : List (DataW H)} {ps : List MemPlace}, (ts.all fun t => P.readableRec t && decide (t < P.types.size)) = true →
   DataW.TrodAll enc P W 0 (fun _ => true) true ts vs ds ps → (∀ x ∈ ps, x.block < W.heap.size) → DataW.TrodAll enc P W' 0 (fun b => decide (b < W.heap.size)) true ts vs ds ps
 | [], [], [], _, _, h, _ => h
 | t :: ts, v :: vs, d :: ds, ps, hts, h, hlt => by
  obtain ⟨p, q, h1, h2, rfl⟩ := h
  simp only [List.all_cons, Bool.and_eq_true, decide_eq_true_eq] at hts
  exact ⟨p, q, Below.trod hl hts.1.1 hts.1.2 h1 hb (fun x hx => hlt x (List.mem_append_left _ hx)),
   trodAll_below hl hb (by simpa using hts.2) h2 (fun x hx => hlt x (List.mem_append_right _ hx)), rfl⟩
 | [], _ :: _, _, _, _, h, _ => h.elim
 | [], [], _ :: _, _, _, h, _ => h.elim
 | _ :: _, [], _, _, _, h, _ => h.elim
 | _ :: _, _ :: _, [], _, _, h, _ => h.elim

theorem law_post {H : Type} {enc : TypeId × Value → H} {f : Func} {s : ChangeSpec} {W W' : World} {args : Array Value} {ds gs : List (DataW H)} {before : List MemPlace} {t : TypeId}
  (hts : (f.params.toList.all fun t => Try.prog.readableRec t && decide (t < Try.prog.types.size)) = true) (hrt : f.resultTypes = #[t]) (ht : Try.prog.underlying t = some .bool) (hvs : s.vars = [])
  (hW : DataW.Whole enc Try.prog f.params.toList s.vars false W args.toList ds gs before) (hb : Below W.heap.size W W')
  (hspec : s.fn H (ds ++ gs) = { results := [.lit (.bool true)], args := ds }) :
  s.post enc Try.prog f false true false false W args (.bool true) W' := by
 have hW' := hW
 obtain ⟨p, q, hA, hV, rfl, hfz, hnd⟩ := hW
 have hlt : ∀ x ∈ p ++ q, x.block < W.heap.size := fun x hx => hW'.lt x hx
 refine ⟨ds, gs, p ++ q, [], p, [], hW', ?_, ?_, ?_, hb.frame _, fun h => by cases h⟩
 ·rw [hspec, hrt]
  exact trodAll_cons_mk (shut_bool ht _) trodAll_mk0
 ·rw [hspec]
  exact trodAll_below laidOut hb hts hA (fun x hx => hlt x (List.mem_append_left _ hx))
 ·rw [hspec, hvs]
  exact rfl
end Go.Proofs.Ytphgchakmkankaa

namespace Go.Proofs.Ytphgchakmkankaa
set_option linter.unusedSectionVars false
open Go.RowKit
set_option linter.unusedVariables false
set_option linter.unusedSimpArgs false

def Gr (w w' : World) : Prop := Below w.heap.size w w'
theorem Gr.refl (w : World) : Gr w w := Below.refl _ _
theorem Gr.below {w w' : World} (h : Gr w w') : Below w.heap.size w w' := h
theorem Gr.of {w w' : World} (h : Below w.heap.size w w') : Gr w w' := h
theorem Gr.trans {a b c : World} (h : Gr a b) (k : Gr b c) : Gr a c := Below.trans h (Below.mono k (Below.size h))
theorem Gr.alloc {a b : World} (h : Gr a b) (o : Obj) : Gr a (b.alloc o) := Below.alloc h (Below.size h) o
theorem Gr.drew {a b : World} (h : Gr a b) : Gr a b.drew := Below.drew h
theorem Gr.set {a b : World} (h : Gr a b) {k o : Nat} (hp : a.heap.size ≤ k) (u : Value) : Gr a (b.setCell ⟨k, o, none⟩ u) := Below.setCell h hp u
theorem Gr.put {a b : World} {k o : Nat} (hp : a.heap.size ≤ k) (h : Gr a b) (u : Value) : Gr a (b.setCell ⟨k, o, none⟩ u) := Below.setCell h hp u
theorem Gr.after {a b c : World} (k : Gr b c) (h : Gr a b) : Gr a c := h.trans k
theorem Gr.size {a b : World} (h : Gr a b) : a.heap.size ≤ b.heap.size := Below.size h
theorem Gr.cell {a b : World} (h : Gr a b) {p : Addr} {v : Value} (hc : a.cell? p = some v) : b.cell? p = some v := by
 by_cases hp : p.block < a.heap.size
 ·rw [Below.cell h hp]; exact hc
 ·have : a.heap[p.block]? = none := Array.getElem?_eq_none (by omega)
  simp [World.cell?, this] at hc
theorem Gr.free {a b : World} (h : Gr a b) {p : Addr} (hp : p.block < a.heap.size) {x : Bool} (hc : a.frozen? p = x) : b.frozen? p = x := by
 rw [Below.frozen h hp]; exact hc
theorem Gr.lt {w w1 : World} {o : Obj} (h : Gr (w.alloc o) w1) : w.heap.size < w1.heap.size := by have := h.size; simp at this; omega
abbrev Box1 (w : World) (b : Nat) (v0 : Value) : Prop := (w.cell? ⟨b, 0, none⟩ = some v0) ∧ (w.frozen? ⟨b, 0, none⟩ = false) ∧ b < w.heap.size
theorem Box1.mono {w w1 : World} {b : Nat} {v0 : Value} (k : Box1 w b v0) (h : Gr w w1) : Box1 w1 b v0 := by
 obtain ⟨k0, f0, hlt⟩ := k
 exact ⟨h.cell k0, h.free (by exact hlt) f0, Nat.lt_of_lt_of_le hlt h.size⟩
theorem Box1.of {w : World} {b : Nat} {v0 : Value} {t : TypeId} (h : w.heap[b]? = some (.cells #[v0] t (0, 0))) : Box1 w b v0 := by
 have hlt : b < w.heap.size := (Array.getElem?_eq_some_iff.1 h).1
 refine ⟨?_, ?_, hlt⟩ <;> simp [World.cell?, World.frozen?, h]
theorem Box1.at {w w1 : World} {b : Nat} {v0 : Value} {t : TypeId} (g : Gr w w1) (h : w.heap[b]? = some (.cells #[v0] t (0, 0))) : Box1 w1 b v0 := (Box1.of h).mono g
abbrev Box2 (w : World) (b : Nat) (v0 v1 : Value) : Prop := (w.cell? ⟨b, 0, none⟩ = some v0 ∧ w.cell? ⟨b, 1, none⟩ = some v1) ∧ (w.frozen? ⟨b, 0, none⟩ = false ∧ w.frozen? ⟨b, 1, none⟩ = false) ∧ b < w.heap.size
theorem Box2.mono {w w1 : World} {b : Nat} {v0 v1 : Value} (k : Box2 w b v0 v1) (h : Gr w w1) : Box2 w1 b v0 v1 := by
 obtain ⟨⟨k0, k1⟩, ⟨f0, f1⟩, hlt⟩ := k
 exact ⟨⟨h.cell k0, h.cell k1⟩, ⟨h.free (by exact hlt) f0, h.free (by exact hlt) f1⟩, Nat.lt_of_lt_of_le hlt h.size⟩
theorem Box2.of {w : World} {b : Nat} {v0 v1 : Value} {t : TypeId} (h : w.heap[b]? = some (.cells #[v0, v1] t (0, 0))) : Box2 w b v0 v1 := by
 have hlt : b < w.heap.size := (Array.getElem?_eq_some_iff.1 h).1
 refine ⟨⟨?_, ?_⟩, ⟨?_, ?_⟩, hlt⟩ <;> simp [World.cell?, World.frozen?, h]
theorem Box2.at {w w1 : World} {b : Nat} {v0 v1 : Value} {t : TypeId} (g : Gr w w1) (h : w.heap[b]? = some (.cells #[v0, v1] t (0, 0))) : Box2 w1 b v0 v1 := (Box2.of h).mono g
abbrev Box3 (w : World) (b : Nat) (v0 v1 v2 : Value) : Prop := (w.cell? ⟨b, 0, none⟩ = some v0 ∧ w.cell? ⟨b, 1, none⟩ = some v1 ∧ w.cell? ⟨b, 2, none⟩ = some v2) ∧ (w.frozen? ⟨b, 0, none⟩ = false ∧ w.frozen? ⟨b, 1, none⟩ = false ∧ w.frozen? ⟨b, 2, none⟩ = false) ∧ b < w.heap.size
theorem Box3.mono {w w1 : World} {b : Nat} {v0 v1 v2 : Value} (k : Box3 w b v0 v1 v2) (h : Gr w w1) : Box3 w1 b v0 v1 v2 := by
 obtain ⟨⟨k0, k1, k2⟩, ⟨f0, f1, f2⟩, hlt⟩ := k
 exact ⟨⟨h.cell k0, h.cell k1, h.cell k2⟩, ⟨h.free (by exact hlt) f0, h.free (by exact hlt) f1, h.free (by exact hlt) f2⟩, Nat.lt_of_lt_of_le hlt h.size⟩
theorem Box3.of {w : World} {b : Nat} {v0 v1 v2 : Value} {t : TypeId} (h : w.heap[b]? = some (.cells #[v0, v1, v2] t (0, 0))) : Box3 w b v0 v1 v2 := by
 have hlt : b < w.heap.size := (Array.getElem?_eq_some_iff.1 h).1
 refine ⟨⟨?_, ?_, ?_⟩, ⟨?_, ?_, ?_⟩, hlt⟩ <;> simp [World.cell?, World.frozen?, h]
theorem Box3.at {w w1 : World} {b : Nat} {v0 v1 v2 : Value} {t : TypeId} (g : Gr w w1) (h : w.heap[b]? = some (.cells #[v0, v1, v2] t (0, 0))) : Box3 w1 b v0 v1 v2 := (Box3.of h).mono g
abbrev Box4 (w : World) (b : Nat) (v0 v1 v2 v3 : Value) : Prop := (w.cell? ⟨b, 0, none⟩ = some v0 ∧ w.cell? ⟨b, 1, none⟩ = some v1 ∧ w.cell? ⟨b, 2, none⟩ = some v2 ∧ w.cell? ⟨b, 3, none⟩ = some v3) ∧ (w.frozen? ⟨b, 0, none⟩ = false ∧ w.frozen? ⟨b, 1, none⟩ = false ∧ w.frozen? ⟨b, 2, none⟩ = false ∧ w.frozen? ⟨b, 3, none⟩ = false) ∧ b < w.heap.size
theorem Box4.mono {w w1 : World} {b : Nat} {v0 v1 v2 v3 : Value} (k : Box4 w b v0 v1 v2 v3) (h : Gr w w1) : Box4 w1 b v0 v1 v2 v3 := by
 obtain ⟨⟨k0, k1, k2, k3⟩, ⟨f0, f1, f2, f3⟩, hlt⟩ := k
 exact ⟨⟨h.cell k0, h.cell k1, h.cell k2, h.cell k3⟩, ⟨h.free (by exact hlt) f0, h.free (by exact hlt) f1, h.free (by exact hlt) f2, h.free (by exact hlt) f3⟩, Nat.lt_of_lt_of_le hlt h.size⟩
theorem Box4.of {w : World} {b : Nat} {v0 v1 v2 v3 : Value} {t : TypeId} (h : w.heap[b]? = some (.cells #[v0, v1, v2, v3] t (0, 0))) : Box4 w b v0 v1 v2 v3 := by
 have hlt : b < w.heap.size := (Array.getElem?_eq_some_iff.1 h).1
 refine ⟨⟨?_, ?_, ?_, ?_⟩, ⟨?_, ?_, ?_, ?_⟩, hlt⟩ <;> simp [World.cell?, World.frozen?, h]
theorem Box4.at {w w1 : World} {b : Nat} {v0 v1 v2 v3 : Value} {t : TypeId} (g : Gr w w1) (h : w.heap[b]? = some (.cells #[v0, v1, v2, v3] t (0, 0))) : Box4 w1 b v0 v1 v2 v3 := (Box4.of h).mono g
abbrev Box5 (w : World) (b : Nat) (v0 v1 v2 v3 v4 : Value) : Prop := (w.cell? ⟨b, 0, none⟩ = some v0 ∧ w.cell? ⟨b, 1, none⟩ = some v1 ∧ w.cell? ⟨b, 2, none⟩ = some v2 ∧ w.cell? ⟨b, 3, none⟩ = some v3 ∧ w.cell? ⟨b, 4, none⟩ = some v4) ∧ (w.frozen? ⟨b, 0, none⟩ = false ∧ w.frozen? ⟨b, 1, none⟩ = false ∧ w.frozen? ⟨b, 2, none⟩ = false ∧ w.frozen? ⟨b, 3, none⟩ = false ∧ w.frozen? ⟨b, 4, none⟩ = false) ∧ b < w.heap.size
theorem Box5.mono {w w1 : World} {b : Nat} {v0 v1 v2 v3 v4 : Value} (k : Box5 w b v0 v1 v2 v3 v4) (h : Gr w w1) : Box5 w1 b v0 v1 v2 v3 v4 := by
 obtain ⟨⟨k0, k1, k2, k3, k4⟩, ⟨f0, f1, f2, f3, f4⟩, hlt⟩ := k
 exact ⟨⟨h.cell k0, h.cell k1, h.cell k2, h.cell k3, h.cell k4⟩, ⟨h.free (by exact hlt) f0, h.free (by exact hlt) f1, h.free (by exact hlt) f2, h.free (by exact hlt) f3, h.free (by exact hlt) f4⟩, Nat.lt_of_lt_of_le hlt h.size⟩
theorem Box5.of {w : World} {b : Nat} {v0 v1 v2 v3 v4 : Value} {t : TypeId} (h : w.heap[b]? = some (.cells #[v0, v1, v2, v3, v4] t (0, 0))) : Box5 w b v0 v1 v2 v3 v4 := by
 have hlt : b < w.heap.size := (Array.getElem?_eq_some_iff.1 h).1
 refine ⟨⟨?_, ?_, ?_, ?_, ?_⟩, ⟨?_, ?_, ?_, ?_, ?_⟩, hlt⟩ <;> simp [World.cell?, World.frozen?, h]
theorem Box5.at {w w1 : World} {b : Nat} {v0 v1 v2 v3 v4 : Value} {t : TypeId} (g : Gr w w1) (h : w.heap[b]? = some (.cells #[v0, v1, v2, v3, v4] t (0, 0))) : Box5 w1 b v0 v1 v2 v3 v4 := (Box5.of h).mono g
abbrev Box6 (w : World) (b : Nat) (v0 v1 v2 v3 v4 v5 : Value) : Prop := (w.cell? ⟨b, 0, none⟩ = some v0 ∧ w.cell? ⟨b, 1, none⟩ = some v1 ∧ w.cell? ⟨b, 2, none⟩ = some v2 ∧ w.cell? ⟨b, 3, none⟩ = some v3 ∧ w.cell? ⟨b, 4, none⟩ = some v4 ∧ w.cell? ⟨b, 5, none⟩ = some v5) ∧ (w.frozen? ⟨b, 0, none⟩ = false ∧ w.frozen? ⟨b, 1, none⟩ = false ∧ w.frozen? ⟨b, 2, none⟩ = false ∧ w.frozen? ⟨b, 3, none⟩ = false ∧ w.frozen? ⟨b, 4, none⟩ = false ∧ w.frozen? ⟨b, 5, none⟩ = false) ∧ b < w.heap.size
theorem Box6.mono {w w1 : World} {b : Nat} {v0 v1 v2 v3 v4 v5 : Value} (k : Box6 w b v0 v1 v2 v3 v4 v5) (h : Gr w w1) : Box6 w1 b v0 v1 v2 v3 v4 v5 := by
 obtain ⟨⟨k0, k1, k2, k3, k4, k5⟩, ⟨f0, f1, f2, f3, f4, f5⟩, hlt⟩ := k
 exact ⟨⟨h.cell k0, h.cell k1, h.cell k2, h.cell k3, h.cell k4, h.cell k5⟩, ⟨h.free (by exact hlt) f0, h.free (by exact hlt) f1, h.free (by exact hlt) f2, h.free (by exact hlt) f3, h.free (by exact hlt) f4, h.free (by exact hlt) f5⟩, Nat.lt_of_lt_of_le hlt h.size⟩
theorem Box6.of {w : World} {b : Nat} {v0 v1 v2 v3 v4 v5 : Value} {t : TypeId} (h : w.heap[b]? = some (.cells #[v0, v1, v2, v3, v4, v5] t (0, 0))) : Box6 w b v0 v1 v2 v3 v4 v5 := by
 have hlt : b < w.heap.size := (Array.getElem?_eq_some_iff.1 h).1
 refine ⟨⟨?_, ?_, ?_, ?_, ?_, ?_⟩, ⟨?_, ?_, ?_, ?_, ?_, ?_⟩, hlt⟩ <;> simp [World.cell?, World.frozen?, h]
theorem Box6.at {w w1 : World} {b : Nat} {v0 v1 v2 v3 v4 v5 : Value} {t : TypeId} (g : Gr w w1) (h : w.heap[b]? = some (.cells #[v0, v1, v2, v3, v4, v5] t (0, 0))) : Box6 w1 b v0 v1 v2 v3 v4 v5 := (Box6.of h).mono g
abbrev Box7 (w : World) (b : Nat) (v0 v1 v2 v3 v4 v5 v6 : Value) : Prop := (w.cell? ⟨b, 0, none⟩ = some v0 ∧ w.cell? ⟨b, 1, none⟩ = some v1 ∧ w.cell? ⟨b, 2, none⟩ = some v2 ∧ w.cell? ⟨b, 3, none⟩ = some v3 ∧ w.cell? ⟨b, 4, none⟩ = some v4 ∧ w.cell? ⟨b, 5, none⟩ = some v5 ∧ w.cell? ⟨b, 6, none⟩ = some v6) ∧ (w.frozen? ⟨b, 0, none⟩ = false ∧ w.frozen? ⟨b, 1, none⟩ = false ∧ w.frozen? ⟨b, 2, none⟩ = false ∧ w.frozen? ⟨b, 3, none⟩ = false ∧ w.frozen? ⟨b, 4, none⟩ = false ∧ w.frozen? ⟨b, 5, none⟩ = false ∧ w.frozen? ⟨b, 6, none⟩ = false) ∧ b < w.heap.size
theorem Box7.mono {w w1 : World} {b : Nat} {v0 v1 v2 v3 v4 v5 v6 : Value} (k : Box7 w b v0 v1 v2 v3 v4 v5 v6) (h : Gr w w1) : Box7 w1 b v0 v1 v2 v3 v4 v5 v6 := by
 obtain ⟨⟨k0, k1, k2, k3, k4, k5, k6⟩, ⟨f0, f1, f2, f3, f4, f5, f6⟩, hlt⟩ := k
 exact ⟨⟨h.cell k0, h.cell k1, h.cell k2, h.cell k3, h.cell k4, h.cell k5, h.cell k6⟩, ⟨h.free (by exact hlt) f0, h.free (by exact hlt) f1, h.free (by exact hlt) f2, h.free (by exact hlt) f3, h.free (by exact hlt) f4, h.free (by exact hlt) f5, h.free (by exact hlt) f6⟩, Nat.lt_of_lt_of_le hlt h.size⟩
theorem Box7.of {w : World} {b : Nat} {v0 v1 v2 v3 v4 v5 v6 : Value} {t : TypeId} (h : w.heap[b]? = some (.cells #[v0, v1, v2, v3, v4, v5, v6] t (0, 0))) : Box7 w b v0 v1 v2 v3 v4 v5 v6 := by
 have hlt : b < w.heap.size := (Array.getElem?_eq_some_iff.1 h).1
 refine ⟨⟨?_, ?_, ?_, ?_, ?_, ?_, ?_⟩, ⟨?_, ?_, ?_, ?_, ?_, ?_, ?_⟩, hlt⟩ <;> simp [World.cell?, World.frozen?, h]
theorem Box7.at {w w1 : World} {b : Nat} {v0 v1 v2 v3 v4 v5 v6 : Value} {t : TypeId} (g : Gr w w1) (h : w.heap[b]? = some (.cells #[v0, v1, v2, v3, v4, v5, v6] t (0, 0))) : Box7 w1 b v0 v1 v2 v3 v4 v5 v6 := (Box7.of h).mono g
abbrev Box8 (w : World) (b : Nat) (v0 v1 v2 v3 v4 v5 v6 v7 : Value) : Prop := (w.cell? ⟨b, 0, none⟩ = some v0 ∧ w.cell? ⟨b, 1, none⟩ = some v1 ∧ w.cell? ⟨b, 2, none⟩ = some v2 ∧ w.cell? ⟨b, 3, none⟩ = some v3 ∧ w.cell? ⟨b, 4, none⟩ = some v4 ∧ w.cell? ⟨b, 5, none⟩ = some v5 ∧ w.cell? ⟨b, 6, none⟩ = some v6 ∧ w.cell? ⟨b, 7, none⟩ = some v7) ∧ (w.frozen? ⟨b, 0, none⟩ = false ∧ w.frozen? ⟨b, 1, none⟩ = false ∧ w.frozen? ⟨b, 2, none⟩ = false ∧ w.frozen? ⟨b, 3, none⟩ = false ∧ w.frozen? ⟨b, 4, none⟩ = false ∧ w.frozen? ⟨b, 5, none⟩ = false ∧ w.frozen? ⟨b, 6, none⟩ = false ∧ w.frozen? ⟨b, 7, none⟩ = false) ∧ b < w.heap.size
theorem Box8.mono {w w1 : World} {b : Nat} {v0 v1 v2 v3 v4 v5 v6 v7 : Value} (k : Box8 w b v0 v1 v2 v3 v4 v5 v6 v7) (h : Gr w w1) : Box8 w1 b v0 v1 v2 v3 v4 v5 v6 v7 := by
 obtain ⟨⟨k0, k1, k2, k3, k4, k5, k6, k7⟩, ⟨f0, f1, f2, f3, f4, f5, f6, f7⟩, hlt⟩ := k
 exact ⟨⟨h.cell k0, h.cell k1, h.cell k2, h.cell k3, h.cell k4, h.cell k5, h.cell k6, h.cell k7⟩, ⟨h.free (by exact hlt) f0, h.free (by exact hlt) f1, h.free (by exact hlt) f2, h.free (by exact hlt) f3, h.free (by exact hlt) f4, h.free (by exact hlt) f5, h.free (by exact hlt) f6, h.free (by exact hlt) f7⟩, Nat.lt_of_lt_of_le hlt h.size⟩
theorem Box8.of {w : World} {b : Nat} {v0 v1 v2 v3 v4 v5 v6 v7 : Value} {t : TypeId} (h : w.heap[b]? = some (.cells #[v0, v1, v2, v3, v4, v5, v6, v7] t (0, 0))) : Box8 w b v0 v1 v2 v3 v4 v5 v6 v7 := by
 have hlt : b < w.heap.size := (Array.getElem?_eq_some_iff.1 h).1
 refine ⟨⟨?_, ?_, ?_, ?_, ?_, ?_, ?_, ?_⟩, ⟨?_, ?_, ?_, ?_, ?_, ?_, ?_, ?_⟩, hlt⟩ <;> simp [World.cell?, World.frozen?, h]
theorem Box8.at {w w1 : World} {b : Nat} {v0 v1 v2 v3 v4 v5 v6 v7 : Value} {t : TypeId} (g : Gr w w1) (h : w.heap[b]? = some (.cells #[v0, v1, v2, v3, v4, v5, v6, v7] t (0, 0))) : Box8 w1 b v0 v1 v2 v3 v4 v5 v6 v7 := (Box8.of h).mono g
abbrev Box9 (w : World) (b : Nat) (v0 v1 v2 v3 v4 v5 v6 v7 v8 : Value) : Prop := (w.cell? ⟨b, 0, none⟩ = some v0 ∧ w.cell? ⟨b, 1, none⟩ = some v1 ∧ w.cell? ⟨b, 2, none⟩ = some v2 ∧ w.cell? ⟨b, 3, none⟩ = some v3 ∧ w.cell? ⟨b, 4, none⟩ = some v4 ∧ w.cell? ⟨b, 5, none⟩ = some v5 ∧ w.cell? ⟨b, 6, none⟩ = some v6 ∧ w.cell? ⟨b, 7, none⟩ = some v7 ∧ w.cell? ⟨b, 8, none⟩ = some v8) ∧ (w.frozen? ⟨b, 0, none⟩ = false ∧ w.frozen? ⟨b, 1, none⟩ = false ∧ w.frozen? ⟨b, 2, none⟩ = false ∧ w.frozen? ⟨b, 3, none⟩ = false ∧ w.frozen? ⟨b, 4, none⟩ = false ∧ w.frozen? ⟨b, 5, none⟩ = false ∧ w.frozen? ⟨b, 6, none⟩ = false ∧ w.frozen? ⟨b, 7, none⟩ = false ∧ w.frozen? ⟨b, 8, none⟩ = false) ∧ b < w.heap.size
theorem Box9.mono {w w1 : World} {b : Nat} {v0 v1 v2 v3 v4 v5 v6 v7 v8 : Value} (k : Box9 w b v0 v1 v2 v3 v4 v5 v6 v7 v8) (h : Gr w w1) : Box9 w1 b v0 v1 v2 v3 v4 v5 v6 v7 v8 := by
 obtain ⟨⟨k0, k1, k2, k3, k4, k5, k6, k7, k8⟩, ⟨f0, f1, f2, f3, f4, f5, f6, f7, f8⟩, hlt⟩ := k
 exact ⟨⟨h.cell k0, h.cell k1, h.cell k2, h.cell k3, h.cell k4, h.cell k5, h.cell k6, h.cell k7, h.cell k8⟩, ⟨h.free (by exact hlt) f0, h.free (by exact hlt) f1, h.free (by exact hlt) f2, h.free (by exact hlt) f3, h.free (by exact hlt) f4, h.free (by exact hlt) f5, h.free (by exact hlt) f6, h.free (by exact hlt) f7, h.free (by exact hlt) f8⟩, Nat.lt_of_lt_of_le hlt h.size⟩
theorem Box9.of {w : World} {b : Nat} {v0 v1 v2 v3 v4 v5 v6 v7 v8 : Value} {t : TypeId} (h : w.heap[b]? = some (.cells #[v0, v1, v2, v3, v4, v5, v6, v7, v8] t (0, 0))) : Box9 w b v0 v1 v2 v3 v4 v5 v6 v7 v8 := by
 have hlt : b < w.heap.size := (Array.getElem?_eq_some_iff.1 h).1
 refine ⟨⟨?_, ?_, ?_, ?_, ?_, ?_, ?_, ?_, ?_⟩, ⟨?_, ?_, ?_, ?_, ?_, ?_, ?_, ?_, ?_⟩, hlt⟩ <;> simp [World.cell?, World.frozen?, h]
theorem Box9.at {w w1 : World} {b : Nat} {v0 v1 v2 v3 v4 v5 v6 v7 v8 : Value} {t : TypeId} (g : Gr w w1) (h : w.heap[b]? = some (.cells #[v0, v1, v2, v3, v4, v5, v6, v7, v8] t (0, 0))) : Box9 w1 b v0 v1 v2 v3 v4 v5 v6 v7 v8 := (Box9.of h).mono g
abbrev Box10 (w : World) (b : Nat) (v0 v1 v2 v3 v4 v5 v6 v7 v8 v9 : Value) : Prop := (w.cell? ⟨b, 0, none⟩ = some v0 ∧ w.cell? ⟨b, 1, none⟩ = some v1 ∧ w.cell? ⟨b, 2, none⟩ = some v2 ∧ w.cell? ⟨b, 3, none⟩ = some v3 ∧ w.cell? ⟨b, 4, none⟩ = some v4 ∧ w.cell? ⟨b, 5, none⟩ = some v5 ∧ w.cell? ⟨b, 6, none⟩ = some v6 ∧ w.cell? ⟨b, 7, none⟩ = some v7 ∧ w.cell? ⟨b, 8, none⟩ = some v8 ∧ w.cell? ⟨b, 9, none⟩ = some v9) ∧ (w.frozen? ⟨b, 0, none⟩ = false ∧ w.frozen? ⟨b, 1, none⟩ = false ∧ w.frozen? ⟨b, 2, none⟩ = false ∧ w.frozen? ⟨b, 3, none⟩ = false ∧ w.frozen? ⟨b, 4, none⟩ = false ∧ w.frozen? ⟨b, 5, none⟩ = false ∧ w.frozen? ⟨b, 6, none⟩ = false ∧ w.frozen? ⟨b, 7, none⟩ = false ∧ w.frozen? ⟨b, 8, none⟩ = false ∧ w.frozen? ⟨b, 9, none⟩ = false) ∧ b < w.heap.size
theorem Box10.mono {w w1 : World} {b : Nat} {v0 v1 v2 v3 v4 v5 v6 v7 v8 v9 : Value} (k : Box10 w b v0 v1 v2 v3 v4 v5 v6 v7 v8 v9) (h : Gr w w1) : Box10 w1 b v0 v1 v2 v3 v4 v5 v6 v7 v8 v9 := by
 obtain ⟨⟨k0, k1, k2, k3, k4, k5, k6, k7, k8, k9⟩, ⟨f0, f1, f2, f3, f4, f5, f6, f7, f8, f9⟩, hlt⟩ := k
 exact ⟨⟨h.cell k0, h.cell k1, h.cell k2, h.cell k3, h.cell k4, h.cell k5, h.cell k6, h.cell k7, h.cell k8, h.cell k9⟩, ⟨h.free (by exact hlt) f0, h.free (by exact hlt) f1, h.free (by exact hlt) f2, h.free (by exact hlt) f3, h.free (by exact hlt) f4, h.free (by exact hlt) f5, h.free (by exact hlt) f6, h.free (by exact hlt) f7, h.free (by exact hlt) f8, h.free (by exact hlt) f9⟩, Nat.lt_of_lt_of_le hlt h.size⟩
theorem Box10.of {w : World} {b : Nat} {v0 v1 v2 v3 v4 v5 v6 v7 v8 v9 : Value} {t : TypeId} (h : w.heap[b]? = some (.cells #[v0, v1, v2, v3, v4, v5, v6, v7, v8, v9] t (0, 0))) : Box10 w b v0 v1 v2 v3 v4 v5 v6 v7 v8 v9 := by
 have hlt : b < w.heap.size := (Array.getElem?_eq_some_iff.1 h).1
 refine ⟨⟨?_, ?_, ?_, ?_, ?_, ?_, ?_, ?_, ?_, ?_⟩, ⟨?_, ?_, ?_, ?_, ?_, ?_, ?_, ?_, ?_, ?_⟩, hlt⟩ <;> simp [World.cell?, World.frozen?, h]
theorem Box10.at {w w1 : World} {b : Nat} {v0 v1 v2 v3 v4 v5 v6 v7 v8 v9 : Value} {t : TypeId} (g : Gr w w1) (h : w.heap[b]? = some (.cells #[v0, v1, v2, v3, v4, v5, v6, v7, v8, v9] t (0, 0))) : Box10 w1 b v0 v1 v2 v3 v4 v5 v6 v7 v8 v9 := (Box10.of h).mono g
abbrev Box11 (w : World) (b : Nat) (v0 v1 v2 v3 v4 v5 v6 v7 v8 v9 v10 : Value) : Prop := (w.cell? ⟨b, 0, none⟩ = some v0 ∧ w.cell? ⟨b, 1, none⟩ = some v1 ∧ w.cell? ⟨b, 2, none⟩ = some v2 ∧ w.cell? ⟨b, 3, none⟩ = some v3 ∧ w.cell? ⟨b, 4, none⟩ = some v4 ∧ w.cell? ⟨b, 5, none⟩ = some v5 ∧ w.cell? ⟨b, 6, none⟩ = some v6 ∧ w.cell? ⟨b, 7, none⟩ = some v7 ∧ w.cell? ⟨b, 8, none⟩ = some v8 ∧ w.cell? ⟨b, 9, none⟩ = some v9 ∧ w.cell? ⟨b, 10, none⟩ = some v10) ∧ (w.frozen? ⟨b, 0, none⟩ = false ∧ w.frozen? ⟨b, 1, none⟩ = false ∧ w.frozen? ⟨b, 2, none⟩ = false ∧ w.frozen? ⟨b, 3, none⟩ = false ∧ w.frozen? ⟨b, 4, none⟩ = false ∧ w.frozen? ⟨b, 5, none⟩ = false ∧ w.frozen? ⟨b, 6, none⟩ = false ∧ w.frozen? ⟨b, 7, none⟩ = false ∧ w.frozen? ⟨b, 8, none⟩ = false ∧ w.frozen? ⟨b, 9, none⟩ = false ∧ w.frozen? ⟨b, 10, none⟩ = false) ∧ b < w.heap.size
theorem Box11.mono {w w1 : World} {b : Nat} {v0 v1 v2 v3 v4 v5 v6 v7 v8 v9 v10 : Value} (k : Box11 w b v0 v1 v2 v3 v4 v5 v6 v7 v8 v9 v10) (h : Gr w w1) : Box11 w1 b v0 v1 v2 v3 v4 v5 v6 v7 v8 v9 v10 := by
 obtain ⟨⟨k0, k1, k2, k3, k4, k5, k6, k7, k8, k9, k10⟩, ⟨f0, f1, f2, f3, f4, f5, f6, f7, f8, f9, f10⟩, hlt⟩ := k
 exact ⟨⟨h.cell k0, h.cell k1, h.cell k2, h.cell k3, h.cell k4, h.cell k5, h.cell k6, h.cell k7, h.cell k8, h.cell k9, h.cell k10⟩, ⟨h.free (by exact hlt) f0, h.free (by exact hlt) f1, h.free (by exact hlt) f2, h.free (by exact hlt) f3, h.free (by exact hlt) f4, h.free (by exact hlt) f5, h.free (by exact hlt) f6, h.free (by exact hlt) f7, h.free (by exact hlt) f8, h.free (by exact hlt) f9, h.free (by exact hlt) f10⟩, Nat.lt_of_lt_of_le hlt h.size⟩
theorem Box11.of {w : World} {b : Nat} {v0 v1 v2 v3 v4 v5 v6 v7 v8 v9 v10 : Value} {t : TypeId} (h : w.heap[b]? = some (.cells #[v0, v1, v2, v3, v4, v5, v6, v7, v8, v9, v10] t (0, 0))) : Box11 w b v0 v1 v2 v3 v4 v5 v6 v7 v8 v9 v10 := by
 have hlt : b < w.heap.size := (Array.getElem?_eq_some_iff.1 h).1
 refine ⟨⟨?_, ?_, ?_, ?_, ?_, ?_, ?_, ?_, ?_, ?_, ?_⟩, ⟨?_, ?_, ?_, ?_, ?_, ?_, ?_, ?_, ?_, ?_, ?_⟩, hlt⟩ <;> simp [World.cell?, World.frozen?, h]
theorem Box11.at {w w1 : World} {b : Nat} {v0 v1 v2 v3 v4 v5 v6 v7 v8 v9 v10 : Value} {t : TypeId} (g : Gr w w1) (h : w.heap[b]? = some (.cells #[v0, v1, v2, v3, v4, v5, v6, v7, v8, v9, v10] t (0, 0))) : Box11 w1 b v0 v1 v2 v3 v4 v5 v6 v7 v8 v9 v10 := (Box11.of h).mono g
abbrev Box12 (w : World) (b : Nat) (v0 v1 v2 v3 v4 v5 v6 v7 v8 v9 v10 v11 : Value) : Prop := (w.cell? ⟨b, 0, none⟩ = some v0 ∧ w.cell? ⟨b, 1, none⟩ = some v1 ∧ w.cell? ⟨b, 2, none⟩ = some v2 ∧ w.cell? ⟨b, 3, none⟩ = some v3 ∧ w.cell? ⟨b, 4, none⟩ = some v4 ∧ w.cell? ⟨b, 5, none⟩ = some v5 ∧ w.cell? ⟨b, 6, none⟩ = some v6 ∧ w.cell? ⟨b, 7, none⟩ = some v7 ∧ w.cell? ⟨b, 8, none⟩ = some v8 ∧ w.cell? ⟨b, 9, none⟩ = some v9 ∧ w.cell? ⟨b, 10, none⟩ = some v10 ∧ w.cell? ⟨b, 11, none⟩ = some v11) ∧ (w.frozen? ⟨b, 0, none⟩ = false ∧ w.frozen? ⟨b, 1, none⟩ = false ∧ w.frozen? ⟨b, 2, none⟩ = false ∧ w.frozen? ⟨b, 3, none⟩ = false ∧ w.frozen? ⟨b, 4, none⟩ = false ∧ w.frozen? ⟨b, 5, none⟩ = false ∧ w.frozen? ⟨b, 6, none⟩ = false ∧ w.frozen? ⟨b, 7, none⟩ = false ∧ w.frozen? ⟨b, 8, none⟩ = false ∧ w.frozen? ⟨b, 9, none⟩ = false ∧ w.frozen? ⟨b, 10, none⟩ = false ∧ w.frozen? ⟨b, 11, none⟩ = false) ∧ b < w.heap.size
theorem Box12.mono {w w1 : World} {b : Nat} {v0 v1 v2 v3 v4 v5 v6 v7 v8 v9 v10 v11 : Value} (k : Box12 w b v0 v1 v2 v3 v4 v5 v6 v7 v8 v9 v10 v11) (h : Gr w w1) : Box12 w1 b v0 v1 v2 v3 v4 v5 v6 v7 v8 v9 v10 v11 := by
 obtain ⟨⟨k0, k1, k2, k3, k4, k5, k6, k7, k8, k9, k10, k11⟩, ⟨f0, f1, f2, f3, f4, f5, f6, f7, f8, f9, f10, f11⟩, hlt⟩ := k
 exact ⟨⟨h.cell k0, h.cell k1, h.cell k2, h.cell k3, h.cell k4, h.cell k5, h.cell k6, h.cell k7, h.cell k8, h.cell k9, h.cell k10, h.cell k11⟩, ⟨h.free (by exact hlt) f0, h.free (by exact hlt) f1, h.free (by exact hlt) f2, h.free (by exact hlt) f3, h.free (by exact hlt) f4, h.free (by exact hlt) f5, h.free (by exact hlt) f6, h.free (by exact hlt) f7, h.free (by exact hlt) f8, h.free (by exact hlt) f9, h.free (by exact hlt) f10, h.free (by exact hlt) f11⟩, Nat.lt_of_lt_of_le hlt h.size⟩
theorem Box12.of {w : World} {b : Nat} {v0 v1 v2 v3 v4 v5 v6 v7 v8 v9 v10 v11 : Value} {t : TypeId} (h : w.heap[b]? = some (.cells #[v0, v1, v2, v3, v4, v5, v6, v7, v8, v9, v10, v11] t (0, 0))) : Box12 w b v0 v1 v2 v3 v4 v5 v6 v7 v8 v9 v10 v11 := by
 have hlt : b < w.heap.size := (Array.getElem?_eq_some_iff.1 h).1
 refine ⟨⟨?_, ?_, ?_, ?_, ?_, ?_, ?_, ?_, ?_, ?_, ?_, ?_⟩, ⟨?_, ?_, ?_, ?_, ?_, ?_, ?_, ?_, ?_, ?_, ?_, ?_⟩, hlt⟩ <;> simp [World.cell?, World.frozen?, h]
theorem Box12.at {w w1 : World} {b : Nat} {v0 v1 v2 v3 v4 v5 v6 v7 v8 v9 v10 v11 : Value} {t : TypeId} (g : Gr w w1) (h : w.heap[b]? = some (.cells #[v0, v1, v2, v3, v4, v5, v6, v7, v8, v9, v10, v11] t (0, 0))) : Box12 w1 b v0 v1 v2 v3 v4 v5 v6 v7 v8 v9 v10 v11 := (Box12.of h).mono g
abbrev Box13 (w : World) (b : Nat) (v0 v1 v2 v3 v4 v5 v6 v7 v8 v9 v10 v11 v12 : Value) : Prop := (w.cell? ⟨b, 0, none⟩ = some v0 ∧ w.cell? ⟨b, 1, none⟩ = some v1 ∧ w.cell? ⟨b, 2, none⟩ = some v2 ∧ w.cell? ⟨b, 3, none⟩ = some v3 ∧ w.cell? ⟨b, 4, none⟩ = some v4 ∧ w.cell? ⟨b, 5, none⟩ = some v5 ∧ w.cell? ⟨b, 6, none⟩ = some v6 ∧ w.cell? ⟨b, 7, none⟩ = some v7 ∧ w.cell? ⟨b, 8, none⟩ = some v8 ∧ w.cell? ⟨b, 9, none⟩ = some v9 ∧ w.cell? ⟨b, 10, none⟩ = some v10 ∧ w.cell? ⟨b, 11, none⟩ = some v11 ∧ w.cell? ⟨b, 12, none⟩ = some v12) ∧ (w.frozen? ⟨b, 0, none⟩ = false ∧ w.frozen? ⟨b, 1, none⟩ = false ∧ w.frozen? ⟨b, 2, none⟩ = false ∧ w.frozen? ⟨b, 3, none⟩ = false ∧ w.frozen? ⟨b, 4, none⟩ = false ∧ w.frozen? ⟨b, 5, none⟩ = false ∧ w.frozen? ⟨b, 6, none⟩ = false ∧ w.frozen? ⟨b, 7, none⟩ = false ∧ w.frozen? ⟨b, 8, none⟩ = false ∧ w.frozen? ⟨b, 9, none⟩ = false ∧ w.frozen? ⟨b, 10, none⟩ = false ∧ w.frozen? ⟨b, 11, none⟩ = false ∧ w.frozen? ⟨b, 12, none⟩ = false) ∧ b < w.heap.size
theorem Box13.mono {w w1 : World} {b : Nat} {v0 v1 v2 v3 v4 v5 v6 v7 v8 v9 v10 v11 v12 : Value} (k : Box13 w b v0 v1 v2 v3 v4 v5 v6 v7 v8 v9 v10 v11 v12) (h : Gr w w1) : Box13 w1 b v0 v1 v2 v3 v4 v5 v6 v7 v8 v9 v10 v11 v12 := by
 obtain ⟨⟨k0, k1, k2, k3, k4, k5, k6, k7, k8, k9, k10, k11, k12⟩, ⟨f0, f1, f2, f3, f4, f5, f6, f7, f8, f9, f10, f11, f12⟩, hlt⟩ := k
 exact ⟨⟨h.cell k0, h.cell k1, h.cell k2, h.cell k3, h.cell k4, h.cell k5, h.cell k6, h.cell k7, h.cell k8, h.cell k9, h.cell k10, h.cell k11, h.cell k12⟩, ⟨h.free (by exact hlt) f0, h.free (by exact hlt) f1, h.free (by exact hlt) f2, h.free (by exact hlt) f3, h.free (by exact hlt) f4, h.free (by exact hlt) f5, h.free (by exact hlt) f6, h.free (by exact hlt) f7, h.free (by exact hlt) f8, h.free (by exact hlt) f9, h.free (by exact hlt) f10, h.free (by exact hlt) f11, h.free (by exact hlt) f12⟩, Nat.lt_of_lt_of_le hlt h.size⟩
theorem Box13.of {w : World} {b : Nat} {v0 v1 v2 v3 v4 v5 v6 v7 v8 v9 v10 v11 v12 : Value} {t : TypeId} (h : w.heap[b]? = some (.cells #[v0, v1, v2, v3, v4, v5, v6, v7, v8, v9, v10, v11, v12] t (0, 0))) : Box13 w b v0 v1 v2 v3 v4 v5 v6 v7 v8 v9 v10 v11 v12 := by
 have hlt : b < w.heap.size := (Array.getElem?_eq_some_iff.1 h).1
 refine ⟨⟨?_, ?_, ?_, ?_, ?_, ?_, ?_, ?_, ?_, ?_, ?_, ?_, ?_⟩, ⟨?_, ?_, ?_, ?_, ?_, ?_, ?_, ?_, ?_, ?_, ?_, ?_, ?_⟩, hlt⟩ <;> simp [World.cell?, World.frozen?, h]
theorem Box13.at {w w1 : World} {b : Nat} {v0 v1 v2 v3 v4 v5 v6 v7 v8 v9 v10 v11 v12 : Value} {t : TypeId} (g : Gr w w1) (h : w.heap[b]? = some (.cells #[v0, v1, v2, v3, v4, v5, v6, v7, v8, v9, v10, v11, v12] t (0, 0))) : Box13 w1 b v0 v1 v2 v3 v4 v5 v6 v7 v8 v9 v10 v11 v12 := (Box13.of h).mono g
abbrev Box14 (w : World) (b : Nat) (v0 v1 v2 v3 v4 v5 v6 v7 v8 v9 v10 v11 v12 v13 : Value) : Prop := (w.cell? ⟨b, 0, none⟩ = some v0 ∧ w.cell? ⟨b, 1, none⟩ = some v1 ∧ w.cell? ⟨b, 2, none⟩ = some v2 ∧ w.cell? ⟨b, 3, none⟩ = some v3 ∧ w.cell? ⟨b, 4, none⟩ = some v4 ∧ w.cell? ⟨b, 5, none⟩ = some v5 ∧ w.cell? ⟨b, 6, none⟩ = some v6 ∧ w.cell? ⟨b, 7, none⟩ = some v7 ∧ w.cell? ⟨b, 8, none⟩ = some v8 ∧ w.cell? ⟨b, 9, none⟩ = some v9 ∧ w.cell? ⟨b, 10, none⟩ = some v10 ∧ w.cell? ⟨b, 11, none⟩ = some v11 ∧ w.cell? ⟨b, 12, none⟩ = some v12 ∧ w.cell? ⟨b, 13, none⟩ = some v13) ∧ (w.frozen? ⟨b, 0, none⟩ = false ∧ w.frozen? ⟨b, 1, none⟩ = false ∧ w.frozen? ⟨b, 2, none⟩ = false ∧ w.frozen? ⟨b, 3, none⟩ = false ∧ w.frozen? ⟨b, 4, none⟩ = false ∧ w.frozen? ⟨b, 5, none⟩ = false ∧ w.frozen? ⟨b, 6, none⟩ = false ∧ w.frozen? ⟨b, 7, none⟩ = false ∧ w.frozen? ⟨b, 8, none⟩ = false ∧ w.frozen? ⟨b, 9, none⟩ = false ∧ w.frozen? ⟨b, 10, none⟩ = false ∧ w.frozen? ⟨b, 11, none⟩ = false ∧ w.frozen? ⟨b, 12, none⟩ = false ∧ w.frozen? ⟨b, 13, none⟩ = false) ∧ b < w.heap.size
theorem Box14.mono {w w1 : World} {b : Nat} {v0 v1 v2 v3 v4 v5 v6 v7 v8 v9 v10 v11 v12 v13 : Value} (k : Box14 w b v0 v1 v2 v3 v4 v5 v6 v7 v8 v9 v10 v11 v12 v13) (h : Gr w w1) : Box14 w1 b v0 v1 v2 v3 v4 v5 v6 v7 v8 v9 v10 v11 v12 v13 := by
 obtain ⟨⟨k0, k1, k2, k3, k4, k5, k6, k7, k8, k9, k10, k11, k12, k13⟩, ⟨f0, f1, f2, f3, f4, f5, f6, f7, f8, f9, f10, f11, f12, f13⟩, hlt⟩ := k
 exact ⟨⟨h.cell k0, h.cell k1, h.cell k2, h.cell k3, h.cell k4, h.cell k5, h.cell k6, h.cell k7, h.cell k8, h.cell k9, h.cell k10, h.cell k11, h.cell k12, h.cell k13⟩, ⟨h.free (by exact hlt) f0, h.free (by exact hlt) f1, h.free (by exact hlt) f2, h.free (by exact hlt) f3, h.free (by exact hlt) f4, h.free (by exact hlt) f5, h.free (by exact hlt) f6, h.free (by exact hlt) f7, h.free (by exact hlt) f8, h.free (by exact hlt) f9, h.free (by exact hlt) f10, h.free (by exact hlt) f11, h.free (by exact hlt) f12, h.free (by exact hlt) f13⟩, Nat.lt_of_lt_of_le hlt h.size⟩
theorem Box14.of {w : World} {b : Nat} {v0 v1 v2 v3 v4 v5 v6 v7 v8 v9 v10 v11 v12 v13 : Value} {t : TypeId} (h : w.heap[b]? = some (.cells #[v0, v1, v2, v3, v4, v5, v6, v7, v8, v9, v10, v11, v12, v13] t (0, 0))) : Box14 w b v0 v1 v2 v3 v4 v5 v6 v7 v8 v9 v10 v11 v12 v13 := by
 have hlt : b < w.heap.size := (Array.getElem?_eq_some_iff.1 h).1
 refine ⟨⟨?_, ?_, ?_, ?_, ?_, ?_, ?_, ?_, ?_, ?_, ?_, ?_, ?_, ?_⟩, ⟨?_, ?_, ?_, ?_, ?_, ?_, ?_, ?_, ?_, ?_, ?_, ?_, ?_, ?_⟩, hlt⟩ <;> simp [World.cell?, World.frozen?, h]
theorem Box14.at {w w1 : World} {b : Nat} {v0 v1 v2 v3 v4 v5 v6 v7 v8 v9 v10 v11 v12 v13 : Value} {t : TypeId} (g : Gr w w1) (h : w.heap[b]? = some (.cells #[v0, v1, v2, v3, v4, v5, v6, v7, v8, v9, v10, v11, v12, v13] t (0, 0))) : Box14 w1 b v0 v1 v2 v3 v4 v5 v6 v7 v8 v9 v10 v11 v12 v13 := (Box14.of h).mono g
end Go.Proofs.Ytphgchakmkankaa

