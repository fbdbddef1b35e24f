/- Parts of the proof of PickChecksMatchSpec, in order. -/
import Derived.Orders
import Derived.Below
import Derived.WalkKit
import Derived.Test.YtkdafecbdncmiaaDoorRows
import Derived.Lib.LaidTab
import Derived.Lib.ItoaNum
import Derived.KernelRfl
import Derived.Laws.StructEq
import Derived.Laws.Append
import Derived.Laws.AppendOwn
import Derived.Lib.Bytealg
import Derived.Sort.Defs
import Derived.Lib.BitFns
import Derived.Lib.Strings
import Derived.Test.YtkdafecbdncmiaaDoorShelf
import Derived.IntWalk
import Derived.Sort.Statements
import Derived.Lib.ItoaMem
import Derived.Lib.ItoaLen
import Derived.WalkSpells
import Derived.ProofKit
import Derived.OpenShut
import Derived.Deep.QuietTactic
import Derived.BigQuiet
import Derived.Lib.Hide
import Derived.Deep.RegionHeld3
import Derived.Deep.Slices
import Derived.Lib.SmallJoins
import Derived.Deep.DeepHandedRow
import Derived.Test.YtkdafecbdncmiaaDoorKPickChecksMatchSpec3
namespace Go.Proofs.YtkdafecbdncmiaaDoor
set_option linter.unusedSectionVars false
set_option linter.unusedVariables false
set_option linter.unusedSimpArgs false
theorem pSizes_snoc : ∀ (l : List PickD) (p : PickD), pSizes (l ++ [p]) = pSizes l + pSize p
 | [], p => by rw [List.nil_append, pSizes, pSizes, pSizes]; omega
 | q :: l, p => by rw [List.cons_append, pSizes, pSizes, pSizes_snoc l p]; omega
theorem pDeeps_snoc : ∀ (l : List PickD) (p : PickD), pDeeps (l ++ [p]) = max (pDeeps l) (pDeep p)
 | [], p => by rw [List.nil_append, pDeeps, pDeeps, pDeeps]; omega
 | q :: l, p => by rw [List.cons_append, pDeeps, pDeeps, pDeeps_snoc l p]; omega
theorem pSizes_take (l : List PickD) (k : Nat) : pSizes (l.take k) ≤ pSizes l := by
 have h : pSizes (l.take k ++ l.drop k) = pSizes (l.take k) + pSizes (l.drop k) := by
  rw [pSizes_sum, pSizes_sum, pSizes_sum, List.map_append, List.sum_append]
 rw [List.take_append_drop] at h
 omega
theorem pDeeps_size : ∀ l : List PickD, pDeeps l ≤ pSizes l
 | [] => by rw [pDeeps, pSizes]; omega
 | .mk k f t a :: l => by
  rw [pDeeps, pSizes, pDeep, pSize]
  have := pDeeps_size a
  have := pDeeps_size l
  omega
def partF (k f t : Int) (n : Nat) : Int :=
 if ¬ (1 ≤ k ∧ k ≤ 9) then 4
 else if (k ≤ 3 ∧ n ≠ 0) ∨ (k = 4 ∧ n < 2) ∨ (k = 5 ∧ n ≠ 2) ∨ (6 ≤ k ∧ n ≠ 1) ∨ (4 ≤ k ∧ k ≤ 8 ∧ f ≠ 0) ∨ (2 ≤ k ∧ k ≤ 8 ∧ t ≠ 0) then 3
 else if ((k = 1 ∨ k = 9) ∧ ¬ (1 ≤ f ∧ f ≤ 9999)) ∨ ((k = 2 ∨ k = 3) ∧ ¬ (1 ≤ f ∧ f ≤ 999)) ∨ ((k = 1 ∨ k = 9) ∧ ¬ (1 ≤ t ∧ t ≤ 9999)) then 1
 else 0
mutual
def pChk : PickD → Int
 | .mk k f t l => if partF k f t l.length = 0 then pChks l else partF k f t l.length
def pChks : List PickD → Int
 | [] => 0
 | p :: l => if pChk p = 0 then pChks l else pChk p
end
def checkF (p : PickD) : Int := if 200 < pSize p ∨ 12 < pDeep p then 2 else pChk p
mutual
def rP (lv : Nat) : PickD → Nat × Nat
 | .mk _ _ _ l => if 12 < lv then (1, lv) else rPs lv l (1, lv)
def rPs (lv : Nat) : List PickD → Nat × Nat → Nat × Nat
 | [], c => c
 | p :: l, c => rPs lv l (min (c.1 + (rP (lv + 1) p).1) 201, max c.2 (rP (lv + 1) p).2)
end
mutual
theorem rP_bd (lv : Nat) (h : lv ≤ 13) : ∀ p : PickD, (rP lv p).1 ≤ 201 ∧ (rP lv p).2 ≤ 13
 | .mk _ _ _ l => by
  rw [rP]
  by_cases h12 : 12 < lv
  ·rw [if_pos h12]; exact ⟨by show 1 ≤ 201; omega, h⟩
  ·rw [if_neg h12]
   exact rPs_bd lv (by omega) l (1, lv) (by show 1 ≤ 201; omega) h
theorem rPs_bd (lv : Nat) (h : lv ≤ 12) : ∀ (l : List PickD) (c : Nat × Nat), c.1 ≤ 201 → c.2 ≤ 13 → (rPs lv l c).1 ≤ 201 ∧ (rPs lv l c).2 ≤ 13
 | [], c, h1, h2 => by rw [rPs]; exact ⟨h1, h2⟩
 | p :: l, c, h1, h2 => by
  rw [rPs]
  have := rP_bd (lv + 1) (by omega) p
  exact rPs_bd lv h l _ (by show min _ 201 ≤ 201; omega) (by show max _ _ ≤ 13; omega)
end
mutual
theorem rP_in (lv : Nat) : ∀ p : PickD, lv + pDeep p ≤ 13 → rP lv p = (min (pSize p) 201, lv + pDeep p - 1)
 | .mk k f t l, h => by
  rw [pDeep] at h
  rw [rP, if_neg (by omega), rPs_in lv l (1, lv) (by omega) (by show 1 ≤ 201; omega) (Nat.le_refl lv), pSize, pDeep]
  show (min (1 + pSizes l) 201, max lv (lv + pDeeps l)) = _
  rw [show max lv (lv + pDeeps l) = lv + (1 + pDeeps l) - 1 by omega]
theorem rPs_in (lv : Nat) : ∀ (l : List PickD) (c : Nat × Nat), lv + pDeeps l ≤ 12 → c.1 ≤ 201 → lv ≤ c.2 → rPs lv l c = (min (c.1 + pSizes l) 201, max c.2 (lv + pDeeps l))
 | [], (c1, c2), h, h1, h2 => by
  rw [rPs, pSizes, pDeeps]
  have h1 : c1 ≤ 201 := h1
  have h2 : lv ≤ c2 := h2
  show (c1, c2) = (min (c1 + 0) 201, max c2 (lv + 0))
  rw [show min (c1 + 0) 201 = c1 by omega, show max c2 (lv + 0) = c2 by omega]
 | p :: l, (c1, c2), h, h1, h2 => by
  rw [pDeeps] at h
  have h1 : c1 ≤ 201 := h1
  have h2 : lv ≤ c2 := h2
  rw [rPs, rP_in (lv + 1) p (by omega), rPs_in lv l _ (by omega) (by show min _ 201 ≤ 201; omega) (by show lv ≤ max c2 _; omega), pSizes, pDeeps]
  show (min (min (c1 + min (pSize p) 201) 201 + pSizes l) 201, max (max c2 (lv + 1 + pDeep p - 1)) (lv + pDeeps l)) = (min (c1 + (pSize p + pSizes l)) 201, max c2 (lv + max (pDeep p) (pDeeps l)))
  rw [show min (min (c1 + min (pSize p) 201) 201 + pSizes l) 201 = min (c1 + (pSize p + pSizes l)) 201 by omega, show max (max c2 (lv + 1 + pDeep p - 1)) (lv + pDeeps l) = max c2 (lv + max (pDeep p) (pDeeps l)) by omega]
end
mutual
theorem rP_out (lv : Nat) : ∀ p : PickD, lv ≤ 13 → 13 < lv + pDeep p → 12 < (rP lv p).2
 | .mk k f t l, h0, h => by
  rw [pDeep] at h
  rw [rP]
  by_cases h12 : 12 < lv
  ·rw [if_pos h12]; exact h12
  ·rw [if_neg h12]
   exact rPs_out lv l (1, lv) (by omega) (by omega)
theorem rPs_ge (lv : Nat) : ∀ (l : List PickD) (c : Nat × Nat), c.2 ≤ (rPs lv l c).2
 | [], c => by rw [rPs]; omega
 | p :: l, c => by
  rw [rPs]
  have := rPs_ge lv l (min (c.1 + (rP (lv + 1) p).1) 201, max c.2 (rP (lv + 1) p).2)
  have h2 : max c.2 (rP (lv + 1) p).2 ≤ (rPs lv l (min (c.1 + (rP (lv + 1) p).1) 201, max c.2 (rP (lv + 1) p).2)).2 := this
  omega
theorem rPs_out (lv : Nat) : ∀ (l : List PickD) (c : Nat × Nat), lv ≤ 12 → 12 < lv + pDeeps l → 12 < (rPs lv l c).2
 | [], c, h0, h => by rw [pDeeps] at h; omega
 | p :: l, c, h0, h => by
  rw [pDeeps] at h
  rw [rPs]
  by_cases hp : 12 < lv + pDeep p
  ·have h1 := rP_out (lv + 1) p (by omega) (by omega)
   have h2 := rPs_ge lv l (min (c.1 + (rP (lv + 1) p).1) 201, max c.2 (rP (lv + 1) p).2)
   have h3 : max c.2 (rP (lv + 1) p).2 ≤ (rPs lv l (min (c.1 + (rP (lv + 1) p).1) 201, max c.2 (rP (lv + 1) p).2)).2 := h2
   omega
  ·exact rPs_out lv l _ h0 (by omega)
end
theorem large_iff (p : PickD) : (200 < (rP 1 p).1 ∨ 12 < (rP 1 p).2) ↔ (200 < pSize p ∨ 12 < pDeep p) := by
 by_cases h : 1 + pDeep p ≤ 13
 ·rw [rP_in 1 p h]
  show (200 < min (pSize p) 201 ∨ 12 < 1 + pDeep p - 1) ↔ _
  omega
 ·have := rP_out 1 p (by omega) (by omega)
  omega
end Go.Proofs.YtkdafecbdncmiaaDoor

namespace Go.Proofs.YtkdafecbdncmiaaDoor
set_option linter.unusedSectionVars false
set_option linter.unusedVariables false
set_option linter.unusedSimpArgs false
def chkE {α : Type} (f : Nat → α → Int) : List α → Nat → Int
 | [], _ => 0
 | x :: l, i => if f i x = 0 then chkE f l (i + 1) else f i x
section
variable {α β γ S B R : Type}
theorem forE_le {l : List α} {body : Nat → α → S → Option (Lr S B R)} {fin : S → Option B} {s : S} {K1 : B → Option γ} {K2 : R → Option γ} (hl : l.length ≤ mxl) : forE l body fin s K1 K2 = (forL body fin l 0 s).bind fun q => q.elim K1 K2 := if_pos hl
theorem forE_chk {f : Nat → α → Int} {l : List α} {body : Nat → α → Unit → Option (Lr Unit Unit Int)} {fin : Unit → Option Unit} {s : Unit} {K1 : Unit → Option γ} {K2 : Int → Option γ} (hl : l.length ≤ mxl) (hb : ∀ i x, l[i]? = some x → body i x () = some (if f i x = 0 then .go () else .ret (f i x))) (hf : fin () = some () := by rfl) : forE l body fin s K1 K2 = if chkE f l 0 = 0 then K1 () else K2 (chkE f l 0) := by
 rw [forE_le hl]
 have key : ∀ (rest pre : List α), l = pre ++ rest → forL body fin rest pre.length () = some (if chkE f rest pre.length = 0 then .inl () else .inr (chkE f rest pre.length)) := by
  intro rest
  induction rest with
  | nil => intro pre _; simp [forL, hf, chkE]
  | cons x rest ih =>
   intro pre hp
   rw [forL, hb pre.length x (by rw [hp]; simp), Option.bind_some, chkE]
   by_cases h : f pre.length x = 0
   ·simp only [h, if_true]
    have := ih (pre ++ [x]) (by simpa using hp)
    simpa using this
   ·simp only [h, if_false]
 have k := key l [] rfl
 rw [List.length_nil] at k
 rw [show s = () from rfl, k, Option.bind_some]
 split <;> rfl
def pv [Inhabited α] (l : List α) (i : Nat) : α := if 0 < i then l.getD (i - 1) default else default
end
def ltK (a b : KeyD) : Bool := decide (a.unit < b.unit) || (decide (a.unit = b.unit) && Op.bytesLess a.param.toList b.param.toList)
end Go.Proofs.YtkdafecbdncmiaaDoor

namespace Go.Proofs.YtkdafecbdncmiaaDoor
set_option linter.unusedSectionVars false
set_option linter.unusedVariables false
set_option linter.unusedSimpArgs false
section
variable {α S B R γ : Type}
theorem forE_st {l : List α} {body : Nat → α → S → Option (Lr S B R)} {fin : S → Option B} {s : S} {K1 : B → Option γ} {K2 : R → Option γ} (st : Nat → S) (hl : l.length ≤ mxl) (h0 : s = st 0) (hb : ∀ i x, l[i]? = some x → body i x (st i) = some (.go (st (i + 1)))) : forE l body fin s K1 K2 = (fin (st l.length)).bind K1 := by
 rw [forE_le hl]
 have key : ∀ (rest pre : List α), l = pre ++ rest → forL body fin rest pre.length (st pre.length) = (fin (st l.length)).map .inl := by
  intro rest
  induction rest with
  | nil => intro pre hp; rw [List.append_nil] at hp; subst hp; rfl
  | cons x rest ih =>
   intro pre hp
   have hx : l[pre.length]? = some x := by rw [hp]; simp
   rw [forL, hb pre.length x hx, Option.bind_some]
   have := ih (pre ++ [x]) (by simpa using hp)
   simpa using this
 have k := key l [] rfl
 rw [List.length_nil] at k
 rw [h0, k]
 cases fin (st l.length) <;> rfl
end
theorem pSizes_len : ∀ l : List PickD, l.length ≤ pSizes l
 | [] => Nat.zero_le _
 | p :: l => by rw [pSizes, pSize_eq, List.length_cons]; have := pSizes_len l; omega
theorem pDeeps_mem {p : PickD} : ∀ {l : List PickD}, p ∈ l → pDeep p ≤ pDeeps l
 | q :: l, h => by
  rw [pDeeps]
  rcases List.mem_cons.1 h with rfl | h
  ·omega
  ·have := pDeeps_mem h; omega
theorem pDeep_size (p : PickD) : pDeep p ≤ pSize p := by
 rw [pDeep_eq, pSize_eq]; have := pDeeps_size p.args; omega
theorem pDeep_pos (p : PickD) : 1 ≤ pDeep p := by rw [pDeep_eq]; omega
abbrev pMx : Nat := 4611686018427387904
theorem args_mx {p : PickD} (h : pSize p ≤ pMx) : p.args.length ≤ mxl := by
 have := pSizes_len p.args; rw [pSize_eq] at h; unfold pMx at h; unfold mxl; omega
theorem size_t : ∀ (n : Nat) (p : PickD) (σ : Heap), pDeep p ≤ n → pSize p ≤ pMx → fuel R_pick_size n 37 [.agg (cPick p)] σ = some (.tup [.int .i64 (pSize p : Int), .int .i64 (pDeep p : Int)], σ)
 | 0, p, σ, h, _ => by have := pDeep_pos p; omega
 | n + 1, p, σ, h, hs => by
  let q : PickD → Option (Int × Int) := fun p => if pDeep p ≤ n ∧ pSize p ≤ pMx then some ((pSize p : Int), (pDeep p : Int)) else none
  have hd : pDeeps p.args ≤ n := by rw [pDeep_eq] at h; omega
  have hz : 1 + pSizes p.args ≤ pMx := by rw [pSize_eq] at hs; exact hs
  have e : t_pick_size q p = some ((pSize p : Int), (pDeep p : Int)) := by
   unfold t_pick_size
   rw [forE_st (fun i => (((1 + pSizes (p.args.take i) : Nat) : Int), ((1 + pDeeps (p.args.take i) : Nat) : Int))) (args_mx hs) (by simp [pSizes, pDeeps])]
   ·simp only [List.take_length, Option.bind_some, pSize_eq p, pDeep_eq p]
   ·intro i x hx
    have hm := List.mem_of_getElem? hx
    have hxd := pDeeps_mem hm
    have hxs := pSizes_mem hm
    have hi := (List.getElem?_eq_some_iff.1 hx).1
    have ht : p.args.take (i + 1) = p.args.take i ++ [x] := by rw [List.take_add_one, hx]; rfl
    have hle := pSizes_take p.args (i + 1)
    rw [ht, pSizes_snoc] at hle
    have hdl := pDeeps_size (p.args.take i)
    have hds := pDeep_size x
    have hq : q x = some ((pSize x : Int), (pDeep x : Int)) := if_pos ⟨by omega, by omega⟩
    unfold pMx at *
    simp only [hq, Option.bind_some, ht, pSizes_snoc, pDeeps_snoc]
    rw [wrap64 (by unfold inI; omega), wrap64 (by unfold inI; omega)]
    congr 3
    ·omega
    ·split <;> omega
  have hr : fuel R_pick_size (n + 1) 37 = A.wrap true [(.a [.k, .k, .k, (.s 4)])] .k (A.ar1 (r_pick_size (fuel R_pick_size n))) := rfl
  rw [hr]
  exact h_pick_size (rc := fuel R_pick_size n) q (fun x s r hx => by
   by_cases hp : pDeep x ≤ n ∧ pSize x ≤ pMx
   ·have : q x = _ := if_pos hp
    rw [this] at hx; injection hx with hx; subst hx
    exact size_t n x s hp.1 hp.2
   ·have : q x = none := if_neg hp
    rw [this] at hx; cases hx) e
theorem pChks_chkE : ∀ (l : List PickD) (i : Nat), chkE (fun _ x => pChk x) l i = pChks l
 | [], i => by rw [chkE, pChks]
 | p :: l, i => by rw [chkE, pChks, pChks_chkE l (i + 1)]
theorem chk_loop {q : PickD → Option Int} {l : List PickD} (hl : l.length ≤ mxl) (hq : ∀ x ∈ l, q x = some (pChk x)) :
  forE l (fun (i : Nat) e (s : Unit) => (show Option (Lr Unit Unit Int) from (q e).bind fun r => if ¬ (r = 0) then some (.ret r) else some (.go ()))) (fun s => some ()) () (fun b => some 0) (fun b => some b) = some (pChks l) := by
 rw [forE_chk (f := fun _ x => pChk x) hl (fun i x hx => by
  simp only [hq x (List.mem_of_getElem? hx), Option.bind_some]
  by_cases h : pChk x = 0 <;> simp [h]) rfl, pChks_chkE]
 split
 ·rename_i h; rw [h]
 ·rfl
def pkA (k f t : Int) (n : Nat) : Prop := (k ≤ 3 ∧ n ≠ 0) ∨ (k = 4 ∧ n < 2) ∨ (k = 5 ∧ n ≠ 2) ∨ (6 ≤ k ∧ n ≠ 1) ∨ (4 ≤ k ∧ k ≤ 8 ∧ f ≠ 0) ∨ (2 ≤ k ∧ k ≤ 8 ∧ t ≠ 0)
def pkB (k f t : Int) : Prop := ((k = 1 ∨ k = 9) ∧ ¬ (1 ≤ f ∧ f ≤ 9999)) ∨ ((k = 2 ∨ k = 3) ∧ ¬ (1 ≤ f ∧ f ≤ 999)) ∨ ((k = 1 ∨ k = 9) ∧ ¬ (1 ≤ t ∧ t ≤ 9999))
theorem pk_in {k f t : Int} {n : Nat} {L : Int} {A B : Prop} [Decidable A] [Decidable B] {X : Option Int} (hk : 1 ≤ k ∧ k ≤ 9) (hA : A ↔ pkA k f t n) (hB : B ↔ pkB k f t) (hX : X = if A then some 3 else if B then some 1 else some L) : X = some (if partF k f t n = 0 then L else partF k f t n) := by
 rw [hX]; unfold pkA at hA; unfold pkB at hB
 by_cases a : A
 ·have e : partF k f t n = 3 := by unfold partF; rw [if_neg (fun h => h hk), if_pos (hA.1 a)]
  rw [if_pos a, e]; rfl
 ·by_cases b : B
  ·have e : partF k f t n = 1 := by unfold partF; rw [if_neg (fun h => h hk), if_neg (fun h => a (hA.2 h)), if_pos (hB.1 b)]
   rw [if_neg a, if_pos b, e]; rfl
  ·have e : partF k f t n = 0 := by unfold partF; rw [if_neg (fun h => h hk), if_neg (fun h => a (hA.2 h)), if_neg (fun h => b (hB.2 h))]
   rw [if_neg a, if_neg b, e]; rfl
theorem pChk_eq (p : PickD) : pChk p = if partF p.kind p.frm p.to p.args.length = 0 then pChks p.args else partF p.kind p.frm p.to p.args.length := by cases p; rw [pChk]; rfl
theorem partF_out {k f t : Int} {n : Nat} (hk : ¬ (1 ≤ k ∧ k ≤ 9)) : partF k f t n = 4 := by unfold partF; rw [if_pos hk]
theorem check_k {q : PickD → Option Int} (p : PickD) (hl : p.args.length ≤ mxl) (hq : ∀ x ∈ p.args, q x = some (pChk x)) : t_pick_check q p = some (pChk p) := by
 have hL := chk_loop hl hq
 unfold t_pick_check
 rw [pChk_eq]
 simp only [hL]
 generalize pChks p.args = L
 clear hL hq
 generalize p.args.length = n at *
 generalize p.kind = k
 generalize p.frm = f
 generalize p.to = t
 by_cases hk : 1 ≤ k ∧ k ≤ 9
 ·have hk' : k = 1 ∨ k = 2 ∨ k = 3 ∨ k = 4 ∨ k = 5 ∨ k = 6 ∨ k = 7 ∨ k = 8 ∨ k = 9 := by omega
  rcases hk' with rfl | rfl | rfl | rfl | rfl | rfl | rfl | rfl | rfl <;>
   (simp only [withinB, reduceIte, Option.bind_some, Int.reduceEq, decide_true, decide_false, Bool.false_eq_true, Bool.not_true, Bool.not_false, Bool.true_and, Bool.false_and, Bool.or_false, Bool.false_or, Bool.or_eq_true, decide_eq_true_eq, Bool.not_eq_true', decide_eq_false_iff_not]; (first | refine pk_in (by decide) ?_ ?_ rfl | refine pk_in (B := False) (by decide) ?_ ?_ rfl) <;> (simp [pkA, pkB]; try omega))
 ·rw [partF_out hk]
  have n1 : ¬ k = 1 := by omega
  have n2 : ¬ k = 2 := by omega
  have n3 : ¬ k = 3 := by omega
  have n4 : ¬ k = 4 := by omega
  have n5 : ¬ k = 5 := by omega
  have n6 : ¬ k = 6 := by omega
  have n7 : ¬ k = 7 := by omega
  have n8 : ¬ k = 8 := by omega
  have n9 : ¬ k = 9 := by omega
  simp [n1, n2, n3, n4, n5, n6, n7, n8, n9]
theorem check4_k {q : PickD → Option Int} (p : PickD) (hl : p.args.length ≤ mxl) (hq : ∀ x ∈ p.args, q x = some (pChk x)) : t_R4_checkPart q p = some (pChk p) := by
 have hL := chk_loop hl hq
 unfold t_R4_checkPart t_R4_used
 rw [pChk_eq]
 simp only [hL]
 generalize pChks p.args = L
 clear hL hq
 generalize p.args.length = n at *
 generalize p.kind = k
 generalize p.frm = f
 generalize p.to = t
 by_cases hk : 1 ≤ k ∧ k ≤ 9
 ·have hk' : k = 1 ∨ k = 2 ∨ k = 3 ∨ k = 4 ∨ k = 5 ∨ k = 6 ∨ k = 7 ∨ k = 8 ∨ k = 9 := by omega
  rcases hk' with rfl | rfl | rfl | rfl | rfl | rfl | rfl | rfl | rfl <;>
   (simp only [withinB, reduceIte, Option.bind_some, Int.reduceEq, Int.reduceLE, Int.reduceLT, Int.reduceNeg, and_self, decide_true, decide_false, Bool.false_eq_true, Bool.not_true, Bool.not_false, Bool.true_and, Bool.false_and, Bool.or_false, Bool.false_or, Bool.or_eq_true, decide_eq_true_eq, Bool.not_eq_true', decide_eq_false_iff_not]; (first | refine pk_in (by decide) ?_ ?_ rfl | refine pk_in (B := False) (by decide) ?_ ?_ rfl) <;> (simp [pkA, pkB]; try omega))
 ·rw [partF_out hk]
  have : withinB k 1 9 = false := decide_eq_false hk
  simp [this]
theorem args_d {p : PickD} {n : Nat} (h : pDeep p ≤ n + 1) : pDeeps p.args ≤ n := by rw [pDeep_eq] at h; omega
theorem check_t : ∀ (n : Nat) (p : PickD) (σ : Heap), pDeep p ≤ n → pSize p ≤ pMx → fuel R_pick_check n 38 [.agg (cPick p)] σ = some (.int .i64 (pChk p), σ)
 | 0, p, σ, h, _ => by have := pDeep_pos p; omega
 | n + 1, p, σ, h, hs => by
  let q : PickD → Option Int := fun p => if pDeep p ≤ n ∧ pSize p ≤ pMx then some (pChk p) else none
  have hd := args_d h
  have e : t_pick_check q p = some (pChk p) := check_k p (args_mx hs) fun x hx => if_pos ⟨Nat.le_trans (pDeeps_mem hx) hd, by have := pSize_arg hx; omega⟩
  have hr : fuel R_pick_check (n + 1) 38 = A.wrap true [(.a [.k, .k, .k, (.s 4)])] .k (A.ar1 (r_pick_check (fuel R_pick_check n))) := rfl
  rw [hr]
  exact h_pick_check (rc := fuel R_pick_check n) q (fun x s r hx => by
   by_cases hp : pDeep x ≤ n ∧ pSize x ≤ pMx
   ·have : q x = _ := if_pos hp
    rw [this] at hx; injection hx with hx; subst hx
    exact check_t n x s hp.1 hp.2
   ·have : q x = none := if_neg hp
    rw [this] at hx; cases hx) e
theorem checkPart_t : ∀ (n : Nat) (p : PickD) (σ : Heap), pDeep p ≤ n → pSize p ≤ pMx → fuel R_R4_checkPart n 48 [.agg (cPick p)] σ = some (.int .i64 (pChk p), σ)
 | 0, p, σ, h, _ => by have := pDeep_pos p; omega
 | n + 1, p, σ, h, hs => by
  let q : PickD → Option Int := fun p => if pDeep p ≤ n ∧ pSize p ≤ pMx then some (pChk p) else none
  have hd := args_d h
  have e : t_R4_checkPart q p = some (pChk p) := check4_k p (args_mx hs) fun x hx => if_pos ⟨Nat.le_trans (pDeeps_mem hx) hd, by have := pSize_arg hx; omega⟩
  have hr : fuel R_R4_checkPart (n + 1) 48 = A.wrap true [(.a [.k, .k, .k, (.s 4)])] .k (A.ar1 (r_R4_checkPart (fuel R_R4_checkPart n))) := rfl
  rw [hr]
  exact h_R4_checkPart (rc := fuel R_R4_checkPart n) q (fun x s r hx => by
   by_cases hp : pDeep x ≤ n ∧ pSize x ≤ pMx
   ·have : q x = _ := if_pos hp
    rw [this] at hx; injection hx with hx; subst hx
    exact checkPart_t n x s hp.1 hp.2
   ·have : q x = none := if_neg hp
    rw [this] at hx; cases hx) e
theorem rPs_snoc (lv : Nat) : ∀ (l : List PickD) (x : PickD) (c : Nat × Nat), rPs lv (l ++ [x]) c = (min ((rPs lv l c).1 + (rP (lv + 1) x).1) 201, max (rPs lv l c).2 (rP (lv + 1) x).2)
 | [], x, c => by rw [List.nil_append, rPs, rPs, rPs]
 | p :: l, x, c => by rw [List.cons_append, rPs, rPs, rPs_snoc lv l x]
theorem rP_eq (lv : Nat) (p : PickD) : rP lv p = if 12 < lv then (1, lv) else rPs lv p.args (1, lv) := by cases p; rw [rP]; rfl
theorem parts_t : ∀ (n : Nat) (p : PickD) (lv : Nat) (σ : Heap), lv ≤ 13 → 14 ≤ n + lv → pSize p ≤ pMx → fuel R_R4_parts n 46 [.agg (cPick p), .int .i64 (lv : Int)] σ = some (.tup [.int .i64 ((rP lv p).1 : Int), .int .i64 ((rP lv p).2 : Int)], σ)
 | 0, p, lv, σ, h, h2, _ => by omega
 | n + 1, p, lv, σ, h, h2, hs => by
  let q : PickD → Int → Option (Int × Int) := fun p i => if 0 ≤ i ∧ i ≤ 13 ∧ 14 ≤ n + i.toNat ∧ pSize p ≤ pMx then some (((rP i.toNat p).1 : Int), ((rP i.toNat p).2 : Int)) else none
  have e : t_R4_parts q p (lv : Int) = some (((rP lv p).1 : Int), ((rP lv p).2 : Int)) := by
   unfold t_R4_parts
   rw [rP_eq]
   by_cases h12 : 12 < lv
   ·rw [if_pos (by omega), if_pos h12]; rfl
   ·rw [if_neg (by omega), if_neg h12]
    rw [forE_st (fun i => (((rPs lv (p.args.take i) (1, lv)).1 : Int), ((rPs lv (p.args.take i) (1, lv)).2 : Int))) (args_mx hs) (by simp [rPs])]
    ·simp only [List.take_length, Option.bind_some]
    ·intro i x hx
     have hm := List.mem_of_getElem? hx
     have ht : p.args.take (i + 1) = p.args.take i ++ [x] := by rw [List.take_add_one, hx]; rfl
     have b1 := rPs_bd lv (by omega) (p.args.take i) (1, lv) (by show 1 ≤ 201; omega) (by show lv ≤ 13; omega)
     have b2 := rP_bd (lv + 1) (by omega) x
     have hq : q x (IntKind.i64.wrap ((lv : Int) + 1)) = some (((rP (lv + 1) x).1 : Int), ((rP (lv + 1) x).2 : Int)) := by
      rw [wrap64 (by unfold inI; omega)]
      have ee : ((lv : Int) + 1).toNat = lv + 1 := by omega
      have := pSize_arg hm
      refine (if_pos ⟨by omega, by omega, by omega, by omega⟩).trans ?_
      rw [ee]
     simp only [hq, Option.bind_some, ht, rPs_snoc]
     rw [wrap64 (by unfold inI; omega)]
     congr 3
     ·split <;> omega
     ·split <;> omega
  have hr : fuel R_R4_parts (n + 1) 46 = A.wrap true [(.a [.k, .k, .k, (.s 4)])] .k (A.ar2 (r_R4_parts (fuel R_R4_parts n))) := rfl
  rw [hr]
  exact h_R4_parts (rc := fuel R_R4_parts n) q (fun x i s r hx => by
   by_cases hp : 0 ≤ i ∧ i ≤ 13 ∧ 14 ≤ n + i.toNat ∧ pSize x ≤ pMx
   ·have : q x i = _ := if_pos hp
    rw [this] at hx; injection hx with hx; subst hx
    have := parts_t n x i.toNat s (by omega) hp.2.2.1 hp.2.2.2
    rwa [show ((i.toNat : Nat) : Int) = i by omega] at this
   ·have : q x i = none := if_neg hp
    rw [this] at hx; cases hx) e
mutual
def pNamed (k : Int) : PickD → List Int
 | .mk kd f t l => (if kd = k then [f] else []) ++ pNameds k l
def pNameds (k : Int) : List PickD → List Int
 | [] => []
 | p :: l => pNamed k p ++ pNameds k l
end
end Go.Proofs.YtkdafecbdncmiaaDoor

namespace Go.Proofs.YtkdafecbdncmiaaDoor
set_option linter.unusedSectionVars false
set_option linter.unusedVariables false
set_option linter.unusedSimpArgs false
def HP := (Nat → Option Blk) → Prop
namespace HP
set_option linter.unusedSectionVars false
def blk (id : Nat) (b : Blk) : HP := fun h => ∀ i, h i = if i = id then some b else none
def star (P Q : HP) : HP := fun h => ∃ f g, P f ∧ Q g ∧ (∀ i, f i = none ∨ g i = none) ∧ ∀ i, h i = (f i).or (g i)
def pr (p : Prop) : HP := fun h => p ∧ ∀ i, h i = none
instance : Mul HP := ⟨star⟩
theorem star_comm (P Q : HP) : P * Q = Q * P := by
 have key : ∀ P Q : HP, ∀ h, (P * Q) h → (Q * P) h := by
  rintro P Q h ⟨f, g, hf, hg, hd, hh⟩
  refine ⟨g, f, hg, hf, fun i => (hd i).symm, fun i => ?_⟩
  rw [hh i]
  rcases hd i with e | e <;> rw [e] <;> simp
 funext h
 exact propext ⟨key P Q h, key Q P h⟩
theorem star_assoc (P Q R : HP) : P * Q * R = P * (Q * R) := by
 funext h
 apply propext
 constructor
 ·rintro ⟨f, g, ⟨f1, f2, h1, h2, hd1, hf⟩, hg, hd, hh⟩
  refine ⟨f1, fun i => (f2 i).or (g i), h1, ⟨f2, g, h2, hg, fun i => ?_, fun i => rfl⟩, fun i => ?_, fun i => ?_⟩
  ·have := hd i; rw [hf i] at this
   rcases this with e | e
   ·cases h : f1 i <;> simp [h] at e <;> exact .inl e
   ·exact .inr e
  ·have a := hd i; have b := hd1 i; rw [hf i] at a
   rcases b with b | b
   ·exact .inl b
   ·rcases a with a | a
    ·cases h : f1 i <;> simp [h] at a; exact .inl rfl
    ·exact .inr (show (f2 i).or (g i) = none by rw [b, a]; rfl)
  ·rw [hh i, hf i]; cases f1 i <;> simp
 ·rintro ⟨f, g, hf, ⟨g1, g2, h1, h2, hd1, hg⟩, hd, hh⟩
  refine ⟨fun i => (f i).or (g1 i), g2, ⟨f, g1, hf, h1, fun i => ?_, fun i => rfl⟩, h2, fun i => ?_, fun i => ?_⟩
  ·have := hd i; rw [hg i] at this
   rcases this with e | e
   ·exact .inl e
   ·cases h : g1 i <;> simp [h] at e; exact .inr rfl
  ·have a := hd i; have b := hd1 i; rw [hg i] at a
   rcases b with b | b
   ·rcases a with a | a
    ·exact .inl (show (f i).or (g1 i) = none by rw [a, b]; rfl)
    ·rw [b] at a; exact .inr (by simpa using a)
   ·exact .inr b
  ·show h i = ((f i).or (g1 i)).or (g2 i)
   rw [hh i, hg i]; cases f i <;> simp
instance : Std.Associative (α := HP) (· * ·) := ⟨star_assoc⟩
instance : Std.Commutative (α := HP) (· * ·) := ⟨star_comm⟩
end HP
open HP
section
variable {B : Blk → Prop} {σ0 σ : Heap} {P Q R : HP} {id : Nat} {b b' : Blk}
end
section
variable {α : Type} {E : List AV → α → HP} {B : Blk → Prop} {σ0 σ : Heap} {R : HP}
def fl (c : α → List AV) : List AV → α → HP := fun e x => pr (e = c x)
variable {sz : Nat} {v : AV} {l : List α}
end
end Go.Proofs.YtkdafecbdncmiaaDoor

namespace Go.Proofs.YtkdafecbdncmiaaDoor
set_option linter.unusedSectionVars false
set_option linter.unusedSimpArgs false
set_option linter.unusedVariables false
abbrev SmK := { k : KeyD // 0 ≤ k.unit ∧ k.unit ≤ 1000000 }
instance : Inhabited SmK := ⟨⟨⟨0, ⟨#[]⟩⟩, by decide⟩⟩
end Go.Proofs.YtkdafecbdncmiaaDoor

namespace Go.Proofs.YtkdafecbdncmiaaDoor
set_option linter.unusedSectionVars false
set_option linter.unusedVariables false
set_option linter.unusedSimpArgs false
def srtM (l : List MoveD) : Prop := l.Pairwise fun a b => ltK a.key b.key = true
structure Good (l : List CueD) : Prop where
 len : l.length ≤ 300
 num : ∀ c ∈ l, 1 ≤ c.number ∧ c.number ≤ 9999999
 srt : l.Pairwise fun a b => a.number < b.number
 mv : ∀ c ∈ l, c.moves.length ≤ 2000 ∧ srtM c.moves
 pts : ∀ c ∈ l, c.curve.points.length ≤ 20
end Go.Proofs.YtkdafecbdncmiaaDoor

namespace Go.Proofs.YtkdafecbdncmiaaDoor
set_option linter.unusedSectionVars false
set_option linter.unusedVariables false
set_option linter.unusedSimpArgs false
structure GoodN (l : List CueD) : Prop where
 len : l.length ≤ 300
 num : ∀ c ∈ l, 1 ≤ c.number ∧ c.number ≤ 9999999
 srt : l.Pairwise fun a b => a.number < b.number
section
variable {α R γ S B : Type}
end
end Go.Proofs.YtkdafecbdncmiaaDoor

namespace Go.Proofs.YtkdafecbdncmiaaDoor
set_option linter.unusedSectionVars false
set_option linter.unusedVariables false
set_option linter.unusedSimpArgs false
open HP
def Lt (σ : Heap) (sh : Sh) (v t : AV) : Prop := (∃ v', A.frz σ 0 8 v = some v' ∧ A.own v' = false ∧ A.nn sh v' = A.nn sh t) ∧ A.own t = false ∧ (A.own v = false → A.nn sh v = A.nn sh t)
def LtL (σ : Heap) : List Sh → List AV → List AV → Prop
 | _, [], [] => True
 | [], a :: aas, t :: ts => Lt σ .k a t ∧ LtL σ [] aas ts
 | s :: ss, a :: aas, t :: ts => Lt σ s a t ∧ LtL σ ss aas ts
 | _, _, _ => False
theorem nn_k (v : AV) : A.nn .k v = v := by simp [A.nn]
theorem ltL {σ : Heap} : ∀ {ss : List Sh} {aas ts : List AV}, LtL σ ss aas ts → (∃ aas', A.frzL σ 0 8 aas = some aas' ∧ aas'.any A.own = false ∧ A.nnL ss aas' = A.nnL ss ts) ∧ ts.any A.own = false ∧ (aas.any A.own = false → A.nnL ss aas = A.nnL ss ts)
 | ss, [], [], _ => ⟨⟨[], by simp [A.frzL], rfl, rfl⟩, rfl, fun _ => rfl⟩
 | [], a :: aas, t :: ts, h => by
  obtain ⟨⟨⟨v', h1, h2, h3⟩, h4, h5⟩, h6⟩ := h
  obtain ⟨⟨aas', k1, k2, k3⟩, k4, k5⟩ := ltL h6
  rw [nn_k, nn_k] at h3
  simp only [A.nnL] at k3 k5
  refine ⟨⟨v' :: aas', by simp [A.frzL, h1, k1], by simp [h2, k2], by simp [A.nnL, h3, k3]⟩, by simp [h4, k4], fun h => ?_⟩
  simp only [List.any_cons, Bool.or_eq_false_iff] at h
  have := h5 h.1
  rw [nn_k, nn_k] at this
  simp [A.nnL, this, k5 h.2]
 | s :: ss, a :: aas, t :: ts, h => by
  obtain ⟨⟨⟨v', h1, h2, h3⟩, h4, h5⟩, h6⟩ := h
  obtain ⟨⟨aas', k1, k2, k3⟩, k4, k5⟩ := ltL h6
  refine ⟨⟨v' :: aas', by simp [A.frzL, h1, k1], by simp [h2, k2], by simp [A.nnL, h3, k3]⟩, by simp [h4, k4], fun h => ?_⟩
  simp only [List.any_cons, Bool.or_eq_false_iff] at h
  simp [A.nnL, h5 h.1, k5 h.2]
 | _, [], _ :: _, h => by cases h
 | [], _ :: _, [], h => by cases h
 | _ :: _, _ :: _, [], h => by cases h
theorem lent {ain : List Sh} {rout : Sh} {r : List AV → Heap → Option (AV × Heap)} {aas ts : List AV} {σ : Heap} {v : AV} (h : LtL σ ain aas ts) (e : ∀ σ, A.wrap true ain rout r ts σ = some (v, σ)) (hs : A.scal v = true) : A.wrap true ain rout r aas σ = some (v, σ) := by
 obtain ⟨⟨aas', k1, k2, k3⟩, k4, k5⟩ := ltL h
 cases ho : aas.any A.own
 ·rw [wrap_nn (k5 ho) ho k4]; exact e σ
 ·exact wrap_own ho k1 k2 (by rw [wrap_nn k3 k2 k4]; exact e []) hs
section
variable {α : Type} {c : α → List AV} {sz : Nat} {B : Blk → Prop} {σ0 σ : Heap} {R : HP} {v : AV} {l : List α}
end
section
variable {α : Type} {E : List AV → α → HP} {sz : Nat} {σ0 σ : Heap} {R : HP} {v : AV} {l : List α}
end
section
variable {B : Blk → Prop} {σ0 σ : Heap} {R : HP} {M : AV → List MoveD → HP} {e : List AV} {x : CueD}
variable {v : AV} {l : List CueD}
end
end Go.Proofs.YtkdafecbdncmiaaDoor

namespace Go.Proofs.YtkdafecbdncmiaaDoor
set_option linter.unusedSectionVars false
set_option linter.unusedVariables false
set_option linter.unusedSimpArgs false
def nslE {α : Type} (sz : Nat) (c : α → List AV) : List α → AV
 | [] => .nsl
 | x :: l => .sl sz ((x :: l).map c)
theorem nslE_ne {α : Type} {sz : Nat} {c : α → List AV} {l : List α} (h : l ≠ []) : nslE sz c l = sl sz c l := by
 cases l with
 | nil => exact absurd rfl h
 | cons x l => rfl
end Go.Proofs.YtkdafecbdncmiaaDoor

namespace Go.Proofs.YtkdafecbdncmiaaDoor
set_option linter.unusedSectionVars false
set_option linter.unusedVariables false
set_option linter.unusedSimpArgs false
set_option maxRecDepth 100000
def NsV (σ : Heap) (lo hi : Nat) (v : AV) (xs : List Int) : Prop := (v = .nsl ∧ xs = []) ∨ ∃ id g, v = .os id g 1 0 xs.length ∧ lo ≤ id ∧ id < hi ∧ σ[id]? = some (.arr g 1 (xs.map cInt)) ∧ xs ≠ []
def EntU (σ : Heap) (lo hi : Nat) : List (Int × AV) → List GroupD → Prop
 | [], [] => True
 | p :: E, g :: l => p.1 = g.number ∧ NsV σ lo hi p.2 (pNamed 2 g.pick) ∧ EntU σ lo hi E l
 | _, _ => False
def usesL (l : List GroupD) : List (Int × List Int) := l.map fun g => (g.number, pNamed 2 g.pick)
abbrev eI (E : List (Int × AV)) : List (AV × AV) := E.map fun p => (.int .i64 p.1, p.2)
end Go.Proofs.YtkdafecbdncmiaaDoor

namespace Go.Proofs.YtkdafecbdncmiaaDoor
set_option linter.unusedSectionVars false
set_option linter.unusedVariables false
set_option linter.unusedSimpArgs false
inductive Rch (f : Int → List Int) (a : Int) : Int → Prop where
 | one {b : Int} (h : b ∈ f a) : Rch f a b
 | step {b c : Int} (h : Rch f a b) (k : c ∈ f b) : Rch f a c
def unS (V seen : List Int) : Nat := (V.filter fun x => decide (x ∉ seen)).length
theorem unS_le (V seen : List Int) : unS V seen ≤ V.length := List.length_filter_le _ _
theorem unS_sub {k : Int} : ∀ (V seen : List Int), unS V (seen ++ [k]) ≤ unS V seen
 | [], seen => Nat.le_refl _
 | x :: V, seen => by
  have := unS_sub (k := k) V seen
  unfold unS at this ⊢
  simp only [List.filter_cons]
  by_cases h : x ∈ seen
  ·rw [if_neg (by simp [h]), if_neg (by simp [h])]; exact this
  ·by_cases hk : x = k
   ·rw [if_neg (by simp [hk]), if_pos (by simp [h]), List.length_cons]; omega
   ·rw [if_pos (by simp [h, hk]), if_pos (by simp [h]), List.length_cons, List.length_cons]; omega
theorem unS_lt {k : Int} : ∀ {V seen : List Int}, k ∈ V → k ∉ seen → unS V (seen ++ [k]) < unS V seen
 | x :: V, seen, h, hn => by
  have hs := unS_sub (k := k) V seen
  by_cases hk : x = k
  ·unfold unS at hs ⊢
   simp only [List.filter_cons]
   rw [if_neg (by simp [hk]), if_pos (by simp [hk, hn]), List.length_cons]; omega
  ·have := unS_lt (V := V) (by simpa [Ne.symm hk] using h) hn
   unfold unS at this ⊢
   simp only [List.filter_cons]
   by_cases h : x ∈ seen
   ·rw [if_neg (by simp [h]), if_neg (by simp [h])]; exact this
   ·rw [if_pos (by simp [h, hk]), if_pos (by simp [h]), List.length_cons, List.length_cons]; omega
structure ReI (f : Int → List Int) (V : List Int) (a : Int) (cur : Option (Int × List Int)) (st seen : List Int) : Prop where
 sound : ∀ n ∈ seen, Rch f a n
 known : ∀ n ∈ st, n = a ∨ n ∈ seen
 all : ∀ n, (n = a ∨ n ∈ seen) → n ∈ st ∨ (∀ k ∈ f n, k ∈ seen) ∨ ∃ xs ys, cur = some (n, ys) ∧ f n = xs ++ ys ∧ ∀ k ∈ xs, k ∈ seen
 few : st.length + unS V seen ≤ V.length + 1
 here : ∀ n ys, cur = some (n, ys) → (n = a ∨ n ∈ seen) ∧ ∀ k ∈ ys, k ∈ f n
section
variable {f : Int → List Int} {V : List Int} {a : Int} {st st' seen : List Int} {n k : Int} {r : List Int}
end
def StkV (σ : Heap) (id : Nat) (v : AV) (st : List Int) : Prop := ∃ g off es, v = .os id g 1 off st.length ∧ σ[id]? = some (.arr g 1 es) ∧ off + st.length ≤ es.length ∧ (es.drop off).take st.length = st.map cInt
section
variable {σ : Heap} {id : Nat} {v : AV} {st : List Int} {n x : Int}
end
end Go.Proofs.YtkdafecbdncmiaaDoor

namespace Go.Proofs.YtkdafecbdncmiaaDoor
set_option linter.unusedSectionVars false
set_option linter.unusedVariables false
set_option linter.unusedSimpArgs false
open HP
def Inv (k : Nat) (l : List CueD) : Prop := l.length ≤ 1000 ∧ ∀ c ∈ l, srtM c.moves ∧ c.moves.length ≤ 2000 + k
section
variable {σ0 σ : Heap} {R : HP}
end
end Go.Proofs.YtkdafecbdncmiaaDoor

namespace Go.Proofs.YtkdafecbdncmiaaDoor
set_option linter.unusedSectionVars false
set_option linter.unusedVariables false
set_option linter.unusedSimpArgs false
set_option maxRecDepth 100000
def nx (U : List (Int × List Int)) (n : Int) : List Int := (tfind n U).getD []
end Go.Proofs.YtkdafecbdncmiaaDoor

namespace Go.Proofs.YtkdafecbdncmiaaDoor
set_option linter.unusedSectionVars false
set_option linter.unusedSimpArgs false
set_option linter.unusedVariables false
theorem size_m (p : PickD) (h : pSize p ≤ 2000000) (σ : Heap) : m_pick_size [.agg (cPick p)] σ = some (.tup [.int .i64 (pSize p : Int), .int .i64 (pDeep p : Int)], σ) := size_t 2000000 p σ (Nat.le_trans (pDeep_size p) h) (Nat.le_trans h (by decide))
theorem check_m (p : PickD) (h : pSize p ≤ 2000000) (σ : Heap) : m_pick_check [.agg (cPick p)] σ = some (.int .i64 (pChk p), σ) := check_t 2000000 p σ (Nat.le_trans (pDeep_size p) h) (Nat.le_trans h (by decide))
theorem checkPart_m (p : PickD) (h : pSize p ≤ 2000000) (σ : Heap) : m_R4_checkPart [.agg (cPick p)] σ = some (.int .i64 (pChk p), σ) := checkPart_t 2000000 p σ (Nat.le_trans (pDeep_size p) h) (Nat.le_trans h (by decide))
theorem parts_m (p : PickD) (lv : Int) (h : pSize p ≤ 2000000 ∧ lv = 1) (σ : Heap) : m_R4_parts [.agg (cPick p), .int .i64 lv] σ = some (.tup [.int .i64 ((rP 1 p).1 : Int), .int .i64 ((rP 1 p).2 : Int)], σ) := by
 rw [h.2]
 exact parts_t 2000000 p 1 σ (by decide) (by decide) (Nat.le_trans h.1 (by decide))
end Go.Proofs.YtkdafecbdncmiaaDoor

namespace Go.Proofs.YtkdafecbdncmiaaDoor
set_option linter.unusedSectionVars false
set_option linter.unusedVariables false
set_option linter.unusedSimpArgs false
set_option maxRecDepth 100000
noncomputable def t_pick_Check (a0 : PickD) : Option Int :=
 (tq (pSize a0 ≤ 2000000) (((pSize a0 : Int), (pDeep a0 : Int)))).bind fun r1 =>
 if ((decide (200 < r1.1)) || (decide (12 < r1.2))) = true then
  some 2
 else
 (tq (pSize a0 ≤ 2000000) (pChk a0)).bind fun r2 =>
 some r2
theorem h_pick_Check {a0 : PickD} {σ : Heap} {r : Int} (h : t_pick_Check a0 = some r) : m_pick_Check [(AV.agg (cPick a0))] σ = some ((AV.int .i64 r), σ) := by
 refine rf_wrap1 (f := r_pick_Check) (y0 := (AV.agg (cPick a0))) (enc := fun r : Int => (AV.int .i64 r)) (T := t_pick_Check a0) (by first | rfl | (simp only [cPick_eq]; rfl)) (by first | rfl | (simp only [cPick_eq]; rfl)) ?_ r h
 unfold r_pick_Check t_pick_Check
 refine rf_s (cPick a0) (by first | rfl | (simp only [cPick_eq]; rfl)) <| rf_s (AV.agg (cPick a0)) (by first | rfl | (simp only [cPick_eq]; rfl)) ?_
 refine rf_o (fun r1 : (Int × Int) => ((AV.tup [(AV.int .i64 r1.1), (AV.int .i64 r1.2)]), σ)) (fun r1 hr1 => (tq_of (e := fun r : (Int × Int) => ((AV.tup [(AV.int .i64 r.1), (AV.int .i64 r.2)]), σ)) (fun hs => size_m a0 hs σ)) hr1) (fun r1 hr1 => ?_)
 refine rf_s (AV.int .i64 r1.1) (by first | rfl | (simp only [cPick_eq]; rfl)) <| rf_s (AV.int .i64 r1.2) (by first | rfl | (simp only [cPick_eq]; rfl)) <| rf_s (AV.bool (decide (200 < r1.1))) (by first | rfl | (simp only [cPick_eq]; rfl)) <| rf_gf (AV.int .i64 r1.2) (fun hg => by first | rfl | (simp only [cPick_eq]; rfl)) <| rf_gf (AV.bool (decide (12 < r1.2))) (fun hg => by (try rw [hg]); exact rfl) <| rf_s _ (pk_or _ _) ?_
 refine rf_cb (c := ((decide (200 < r1.1)) || (decide (12 < r1.2)))) (fun c3 => ?_) (fun c3 => ?_)
 ·exact rf_fin _ (fin_same _ _) ⟨rfl, rfl⟩
 refine rf_s (AV.agg (cPick a0)) (by first | rfl | (simp only [cPick_eq]; rfl)) ?_
 refine rf_o (fun r2 : Int => ((AV.int .i64 r2), σ)) (fun r2 hr2 => (tq_of (e := fun r : Int => ((AV.int .i64 r), σ)) (fun hs => check_m a0 hs σ)) hr2) (fun r2 hr2 => ?_)
 exact rf_fin _ (fin_same _ _) ⟨rfl, rfl⟩

noncomputable def t_R4_Check (a0 : PickD) : Option Int :=
 (tq (pSize a0 ≤ 2000000 ∧ (1 : Int) = 1) ((((rP 1 a0).1 : Int), ((rP 1 a0).2 : Int)))).bind fun r1 =>
 if ((decide (200 < r1.1)) || (decide (12 < r1.2))) = true then
  some 2
 else
 (tq (pSize a0 ≤ 2000000) (pChk a0)).bind fun r2 =>
 some r2
theorem h_R4_Check {a0 : PickD} {σ : Heap} {r : Int} (h : t_R4_Check a0 = some r) : m_R4_Check [(AV.agg (cPick a0))] σ = some ((AV.int .i64 r), σ) := by
 refine rf_wrap1 (f := r_R4_Check) (y0 := (AV.agg (cPick a0))) (enc := fun r : Int => (AV.int .i64 r)) (T := t_R4_Check a0) (by first | rfl | (simp only [cPick_eq]; rfl)) (by first | rfl | (simp only [cPick_eq]; rfl)) ?_ r h
 unfold r_R4_Check t_R4_Check
 refine rf_s (cPick a0) (by first | rfl | (simp only [cPick_eq]; rfl)) <| rf_s (AV.agg (cPick a0)) (by first | rfl | (simp only [cPick_eq]; rfl)) ?_
 refine rf_o (fun r1 : (Int × Int) => ((AV.tup [(AV.int .i64 r1.1), (AV.int .i64 r1.2)]), σ)) (fun r1 hr1 => (tq_of (e := fun r : (Int × Int) => ((AV.tup [(AV.int .i64 r.1), (AV.int .i64 r.2)]), σ)) (fun hs => parts_m a0 1 hs σ)) hr1) (fun r1 hr1 => ?_)
 refine rf_s (AV.int .i64 r1.1) (by first | rfl | (simp only [cPick_eq]; rfl)) <| rf_s (AV.int .i64 r1.2) (by first | rfl | (simp only [cPick_eq]; rfl)) <| rf_s (AV.bool (decide (200 < r1.1))) (by first | rfl | (simp only [cPick_eq]; rfl)) <| rf_gf (AV.int .i64 r1.2) (fun hg => by first | rfl | (simp only [cPick_eq]; rfl)) <| rf_gf (AV.bool (decide (12 < r1.2))) (fun hg => by (try rw [hg]); exact rfl) <| rf_s _ (pk_or _ _) ?_
 refine rf_cb (c := ((decide (200 < r1.1)) || (decide (12 < r1.2)))) (fun c3 => ?_) (fun c3 => ?_)
 ·exact rf_fin _ (fin_same _ _) ⟨rfl, rfl⟩
 refine rf_s (AV.agg (cPick a0)) (by first | rfl | (simp only [cPick_eq]; rfl)) ?_
 refine rf_o (fun r2 : Int => ((AV.int .i64 r2), σ)) (fun r2 hr2 => (tq_of (e := fun r : Int => ((AV.int .i64 r), σ)) (fun hs => checkPart_m a0 hs σ)) hr2) (fun r2 hr2 => ?_)
 exact rf_fin _ (fin_same _ _) ⟨rfl, rfl⟩

end Go.Proofs.YtkdafecbdncmiaaDoor

namespace Go.Proofs.YtkdafecbdncmiaaDoor
set_option linter.unusedSectionVars false
set_option linter.unusedVariables false
set_option linter.unusedSimpArgs false
set_option maxRecDepth 100000
noncomputable def t_pick_text (q_pick_arg : PickD → Option ByteArray) (q_pick_text : PickD → Option ByteArray) (a0 : PickD) : Option ByteArray :=
 (tq (inI a0.frm) (itoaB a0.frm)).bind fun r1 =>
 (tq (inI a0.to) (itoaB a0.to)).bind fun r2 =>
 if a0.kind = 1 then
  if r1 = r2 then
   some r1
  else
  (tCat r1 (⟨#[32, 116, 104, 114, 117, 32]⟩ : ByteArray)).bind fun x3 =>
  (tCat x3 r2).bind fun x4 =>
  some x4
 else
 if a0.kind = 2 then
  (tCat (⟨#[103, 114, 111, 117, 112, 32]⟩ : ByteArray) r1).bind fun x6 =>
  some x6
 else
 if a0.kind = 3 then
  (tCat (⟨#[112, 114, 101, 115, 101, 116, 32]⟩ : ByteArray) r1).bind fun x7 =>
  some x7
 else
 if a0.kind = 6 then
  (tIx a0.args 0).bind fun x8 =>
  (q_pick_arg x8).bind fun r9 =>
  (tCat (⟨#[111, 100, 100, 32]⟩ : ByteArray) r9).bind fun x10 =>
  some x10
 else
 if a0.kind = 7 then
  (tIx a0.args 0).bind fun x11 =>
  (q_pick_arg x11).bind fun r12 =>
  (tCat (⟨#[101, 118, 101, 110, 32]⟩ : ByteArray) r12).bind fun x13 =>
  some x13
 else
 if a0.kind = 8 then
  (tIx a0.args 0).bind fun x14 =>
  (q_pick_arg x14).bind fun r15 =>
  (tCat (⟨#[98, 97, 99, 107, 32]⟩ : ByteArray) r15).bind fun x16 =>
  some x16
 else
 if a0.kind = 9 then
  (tCat (⟨#[101, 118, 101, 114, 121, 32]⟩ : ByteArray) r1).bind fun x17 =>
  (tCat x17 (⟨#[32, 102, 114, 111, 109, 32]⟩ : ByteArray)).bind fun x18 =>
  (tCat x18 r2).bind fun x19 =>
  (tCat x19 (⟨#[32]⟩ : ByteArray)).bind fun x20 =>
  (tIx a0.args 0).bind fun x21 =>
  (q_pick_arg x21).bind fun r22 =>
  (tCat x20 r22).bind fun x23 =>
  some x23
 else
 (tIx a0.args 0).bind fun x24 =>
 (q_pick_arg x24).bind fun r25 =>
 (show Option ByteArray from
   if a0.kind = 5 then
    some (⟨#[32, 45, 32]⟩ : ByteArray)
   else
   some (⟨#[32, 43, 32]⟩ : ByteArray)).bind fun j27 =>
 (show Option ByteArray from
   if ((decide (x24.kind = 5)) || (decide (a0.kind = 5))) = true then
    (q_pick_text x24).bind fun r30 =>
    some r30
   else
   some r25).bind fun j32 =>
 (tSl a0.args (some 1) none).bind fun x35 =>
 forE x35 (fun (i43 : Nat) e42 (s36 : ByteArray) => (show Option (Lr ByteArray ByteArray Unit) from
   (q_pick_arg e42).bind fun r44 =>
   (tCat j27 r44).bind fun x45 =>
   (tCat s36 x45).bind fun x46 =>
   some (.go x46))) (fun s36 => some s36) j32 (fun b37 =>
  some b37) (fun b37 =>
  none)
theorem h_pick_text {rc : Nat → List AV → Heap → Option (AV × Heap)} (q_pick_arg : PickD → Option ByteArray) (q_pick_text : PickD → Option ByteArray) (hq_pick_arg : ∀ (x0 : PickD) (s : Heap) r, q_pick_arg x0 = some r → rc 461 [(AV.agg (cPick x0))] s = some ((AV.str r), s)) (hq_pick_text : ∀ (x0 : PickD) (s : Heap) r, q_pick_text x0 = some r → rc 462 [(AV.agg (cPick x0))] s = some ((AV.str r), s)) {a0 : PickD} {σ : Heap} {r : ByteArray} (h : t_pick_text q_pick_arg q_pick_text a0 = some r) : A.wrap true [(.a [.k, .k, .k, (.s 4)])] .k (A.ar1 (r_pick_text rc)) [(AV.agg (cPick a0))] σ = some ((AV.str r), σ) := by
 refine rf_wrap1 (f := r_pick_text rc) (y0 := (AV.agg (cPick a0))) (enc := fun r : ByteArray => (AV.str r)) (T := t_pick_text q_pick_arg q_pick_text a0) (by first | rfl | (simp only [cPick_eq]; rfl)) (by first | rfl | (simp only [cPick_eq]; rfl)) ?_ r h
 unfold r_pick_text t_pick_text
 refine rf_s (cPick a0) (by first | rfl | (simp only [cPick_eq]; rfl)) <| rf_s (AV.int .i64 a0.frm) (by first | rfl | (simp only [cPick_eq]; rfl)) ?_
 refine rf_o (fun r1 : ByteArray => (AV.str r1)) (fun r1 hr1 => (quiet_of ((tq_of (e := fun r : ByteArray => ((AV.str r), σ)) (fun hs => Itoa_eq a0.frm hs σ)) hr1))) (fun r1 hr1 => ?_)
 refine rf_s (AV.int .i64 a0.to) (by first | rfl | (simp only [cPick_eq]; rfl)) ?_
 refine rf_o (fun r2 : ByteArray => (AV.str r2)) (fun r2 hr2 => (quiet_of ((tq_of (e := fun r : ByteArray => ((AV.str r), σ)) (fun hs => Itoa_eq a0.to hs σ)) hr2))) (fun r2 hr2 => ?_)
 refine rf_s (AV.int .i64 a0.kind) (by first | rfl | (simp only [cPick_eq]; rfl)) <| rf_s _ (aEq _ _ _) ?_
 refine rf_c (p := a0.kind = 1) (fun c53 => ?_) (fun c53 => ?_)
 ·refine rf_s _ (aEqZ _ _) ?_
  refine rf_c (p := r1 = r2) (fun c5 => ?_) (fun c5 => ?_)
  ·exact rf_fin _ (fin_same _ _) ⟨rfl, rfl⟩
  refine rf_o (fun x3 : ByteArray => (AV.str x3)) (fun x3 hx3 => (cat_at hx3)) (fun x3 hx3 => ?_)
  refine rf_o (fun x4 : ByteArray => (AV.str x4)) (fun x4 hx4 => (cat_at hx4)) (fun x4 hx4 => ?_)
  exact rf_fin _ (fin_same _ _) ⟨rfl, rfl⟩
 refine rf_s _ (aEq _ _ _) ?_
 refine rf_c (p := a0.kind = 2) (fun c52 => ?_) (fun c52 => ?_)
 ·refine rf_o (fun x6 : ByteArray => (AV.str x6)) (fun x6 hx6 => (cat_at hx6)) (fun x6 hx6 => ?_)
  exact rf_fin _ (fin_same _ _) ⟨rfl, rfl⟩
 refine rf_s _ (aEq _ _ _) ?_
 refine rf_c (p := a0.kind = 3) (fun c51 => ?_) (fun c51 => ?_)
 ·refine rf_o (fun x7 : ByteArray => (AV.str x7)) (fun x7 hx7 => (cat_at hx7)) (fun x7 hx7 => ?_)
  exact rf_fin _ (fin_same _ _) ⟨rfl, rfl⟩
 refine rf_s _ (aEq _ _ _) ?_
 refine rf_c (p := a0.kind = 6) (fun c50 => ?_) (fun c50 => ?_)
 ·refine rf_s (sl 4 cPick a0.args) (by first | rfl | (simp only [cPick_eq]; rfl)) ?_
  refine rf_o (fun x8 : PickD => (AV.rp (cPick x8))) (fun x8 hx8 => ix_at hx8) (fun x8 hx8 => ?_)
  refine rf_s (AV.agg (cPick x8)) (by first | rfl | (simp only [cPick_eq]; rfl)) ?_
  refine rf_o (fun r9 : ByteArray => ((AV.str r9), σ)) (fun r9 hr9 => hq_pick_arg _ _ _ hr9) (fun r9 hr9 => ?_)
  refine rf_o (fun x10 : ByteArray => (AV.str x10)) (fun x10 hx10 => (cat_at hx10)) (fun x10 hx10 => ?_)
  exact rf_fin _ (fin_same _ _) ⟨rfl, rfl⟩
 refine rf_s _ (aEq _ _ _) ?_
 refine rf_c (p := a0.kind = 7) (fun c49 => ?_) (fun c49 => ?_)
 ·refine rf_s (sl 4 cPick a0.args) (by first | rfl | (simp only [cPick_eq]; rfl)) ?_
  refine rf_o (fun x11 : PickD => (AV.rp (cPick x11))) (fun x11 hx11 => ix_at hx11) (fun x11 hx11 => ?_)
  refine rf_s (AV.agg (cPick x11)) (by first | rfl | (simp only [cPick_eq]; rfl)) ?_
  refine rf_o (fun r12 : ByteArray => ((AV.str r12), σ)) (fun r12 hr12 => hq_pick_arg _ _ _ hr12) (fun r12 hr12 => ?_)
  refine rf_o (fun x13 : ByteArray => (AV.str x13)) (fun x13 hx13 => (cat_at hx13)) (fun x13 hx13 => ?_)
  exact rf_fin _ (fin_same _ _) ⟨rfl, rfl⟩
 refine rf_s _ (aEq _ _ _) ?_
 refine rf_c (p := a0.kind = 8) (fun c48 => ?_) (fun c48 => ?_)
 ·refine rf_s (sl 4 cPick a0.args) (by first | rfl | (simp only [cPick_eq]; rfl)) ?_
  refine rf_o (fun x14 : PickD => (AV.rp (cPick x14))) (fun x14 hx14 => ix_at hx14) (fun x14 hx14 => ?_)
  refine rf_s (AV.agg (cPick x14)) (by first | rfl | (simp only [cPick_eq]; rfl)) ?_
  refine rf_o (fun r15 : ByteArray => ((AV.str r15), σ)) (fun r15 hr15 => hq_pick_arg _ _ _ hr15) (fun r15 hr15 => ?_)
  refine rf_o (fun x16 : ByteArray => (AV.str x16)) (fun x16 hx16 => (cat_at hx16)) (fun x16 hx16 => ?_)
  exact rf_fin _ (fin_same _ _) ⟨rfl, rfl⟩
 refine rf_s _ (aEq _ _ _) ?_
 refine rf_c (p := a0.kind = 9) (fun c47 => ?_) (fun c47 => ?_)
 ·refine rf_o (fun x17 : ByteArray => (AV.str x17)) (fun x17 hx17 => (cat_at hx17)) (fun x17 hx17 => ?_)
  refine rf_o (fun x18 : ByteArray => (AV.str x18)) (fun x18 hx18 => (cat_at hx18)) (fun x18 hx18 => ?_)
  refine rf_o (fun x19 : ByteArray => (AV.str x19)) (fun x19 hx19 => (cat_at hx19)) (fun x19 hx19 => ?_)
  refine rf_o (fun x20 : ByteArray => (AV.str x20)) (fun x20 hx20 => (cat_at hx20)) (fun x20 hx20 => ?_)
  refine rf_s (sl 4 cPick a0.args) (by first | rfl | (simp only [cPick_eq]; rfl)) ?_
  refine rf_o (fun x21 : PickD => (AV.rp (cPick x21))) (fun x21 hx21 => ix_at hx21) (fun x21 hx21 => ?_)
  refine rf_s (AV.agg (cPick x21)) (by first | rfl | (simp only [cPick_eq]; rfl)) ?_
  refine rf_o (fun r22 : ByteArray => ((AV.str r22), σ)) (fun r22 hr22 => hq_pick_arg _ _ _ hr22) (fun r22 hr22 => ?_)
  refine rf_o (fun x23 : ByteArray => (AV.str x23)) (fun x23 hx23 => (cat_at hx23)) (fun x23 hx23 => ?_)
  exact rf_fin _ (fin_same _ _) ⟨rfl, rfl⟩
 refine rf_s (sl 4 cPick a0.args) (by first | rfl | (simp only [cPick_eq]; rfl)) ?_
 refine rf_o (fun x24 : PickD => (AV.rp (cPick x24))) (fun x24 hx24 => ix_at hx24) (fun x24 hx24 => ?_)
 refine rf_s (AV.agg (cPick x24)) (by first | rfl | (simp only [cPick_eq]; rfl)) <| rf_s (cPick x24) (by first | rfl | (simp only [cPick_eq]; rfl)) <| rf_s _ (sp_cPick _ _ rfl) <| rf_s (AV.agg (cPick x24)) (by first | rfl | (simp only [cPick_eq]; rfl)) ?_
 refine rf_o (fun r25 : ByteArray => ((AV.str r25), σ)) (fun r25 hr25 => hq_pick_arg _ _ _ hr25) (fun r25 hr25 => ?_)
 refine rf_s (AV.int .i64 a0.kind) (by first | rfl | (simp only [cPick_eq]; rfl)) <| rf_s _ (aEq _ _ _) ?_
 refine rf_b (ω := ByteArray) (fun j27 a => a = (([(AV.lbx (cPick a0)), (AV.str j27), (AV.lbx (cPick x24))] : List AV), σ)) (
   by
    refine rf_c (p := a0.kind = 5) (fun c26 => ?_) (fun c26 => ?_)
    ·exact rf_ret rfl
    exact rf_ret rfl
   ) (fun j27 a ha => ?_)
 subst ha
 refine rf_s _ (by first | rfl | (simp only [cPick_eq]; rfl)) <| rf_s (AV.int .i64 x24.kind) (by first | rfl | (simp only [cPick_eq]; rfl)) <| rf_s _ (aEq _ _ _) <| rf_s _ (by first | rfl | (simp only [cPick_eq]; rfl)) <| rf_gf (AV.int .i64 a0.kind) (fun hg => by first | rfl | (simp only [cPick_eq]; rfl)) <| rf_gf (AV.bool (decide (a0.kind = 5))) (fun hg => by (try rw [hg]); exact (aEq _ _ _)) <| rf_s _ (pk_or _ _) ?_
 refine rf_b (ω := ByteArray) (fun j32 a => a = (([(AV.lbx (cPick a0)), (AV.str j32)] : List AV), σ)) (
   by
    refine rf_cb (c := ((decide (x24.kind = 5)) || (decide (a0.kind = 5)))) (fun c31 => ?_) (fun c31 => ?_)
    ·refine rf_s (AV.agg (cPick x24)) (by first | rfl | (simp only [cPick_eq]; rfl)) ?_
     refine rf_o (fun r30 : ByteArray => ((AV.str r30), σ)) (fun r30 hr30 => hq_pick_text _ _ _ hr30) (fun r30 hr30 => ?_)
     exact rf_ret rfl
    exact rf_ret rfl
   ) (fun j32 a ha => ?_)
 subst ha
 refine rf_s _ (by first | rfl | (simp only [cPick_eq]; rfl)) <| rf_s (sl 4 cPick a0.args) (by first | rfl | (simp only [cPick_eq]; rfl)) ?_
 refine rf_o (fun x35 : (List PickD) => (sl 4 cPick x35)) (fun x35 hx35 => (sls_at hx35)) (fun x35 hx35 => ?_)
 refine rf_s _ (lenS_sl _ _ _) ?_
 refine rf_for (B := ByteArray) (R := Unit) (fun (i43 : Nat) (s36 : ByteArray) v w38 => v = [(AV.str s36), (AV.int .i64 (i43 : Int))] ∧ σ = w38) (fun (b37 : ByteArray) (q : LS) => ∃ u97, q = ((AX.exit 1), ([(AV.str b37), u97] : List AV), σ)) (fun (b37 : Unit) (q : LS) => False) ?_ ?_ ⟨rfl, rfl⟩ ?_ ?_
 ·intro hle42 i43 e42 s36 v w38 he42 hI
  obtain ⟨rfl, rfl⟩ := hI
  refine rf_s _ (ix_lt he42) <| rf_ct <| rf_s _ (ix_for he42) <| rf_s (AV.agg (cPick e42)) (by first | rfl | (simp only [cPick_eq]; rfl)) <| rf_s (cPick e42) (by first | rfl | (simp only [cPick_eq]; rfl)) <| rf_s _ (sp_cPick _ _ rfl) <| rf_s (AV.agg (cPick e42)) (by first | rfl | (simp only [cPick_eq]; rfl)) ?_
  refine rf_o (fun r44 : ByteArray => ((AV.str r44), σ)) (fun r44 hr44 => hq_pick_arg _ _ _ hr44) (fun r44 hr44 => ?_)
  refine rf_o (fun x45 : ByteArray => (AV.str x45)) (fun x45 hx45 => (cat_at hx45)) (fun x45 hx45 => ?_)
  refine rf_o (fun x46 : ByteArray => (AV.str x46)) (fun x46 hx46 => (cat_at hx46)) (fun x46 hx46 => ?_)
  refine rf_s _ (ix_inc he42 hle42) ?_
  exact rf_ret (rnd_go ⟨rfl, rfl⟩)
 ·intro hl s36 v w38 hI
  obtain ⟨rfl, rfl⟩ := hI
  refine rf_s _ (ix_end _) <| rf_cf ?_
  exact rf_ret ⟨by simp, ⟨_, rfl⟩⟩
 ·intro hl b37 q hq
  obtain ⟨u97, rfl⟩ := hq
  refine rf_bt (by first | rfl | (simp only [cPick_eq]; rfl)) ?_
  exact rf_fin _ (fin_same _ _) ⟨rfl, rfl⟩
 ·intro hl b37 q hq
  exact False.elim hq

noncomputable def t_pick_arg (q_pick_text : PickD → Option ByteArray) (a0 : PickD) : Option ByteArray :=
 if ((decide (a0.kind = 4)) || (decide (a0.kind = 5))) = true then
  (q_pick_text a0).bind fun r1 =>
  (tCat (⟨#[40]⟩ : ByteArray) r1).bind fun x2 =>
  (tCat x2 (⟨#[41]⟩ : ByteArray)).bind fun x3 =>
  some x3
 else
 (q_pick_text a0).bind fun r4 =>
 some r4
theorem h_pick_arg {rc : Nat → List AV → Heap → Option (AV × Heap)} (q_pick_text : PickD → Option ByteArray) (hq_pick_text : ∀ (x0 : PickD) (s : Heap) r, q_pick_text x0 = some r → rc 462 [(AV.agg (cPick x0))] s = some ((AV.str r), s)) {a0 : PickD} {σ : Heap} {r : ByteArray} (h : t_pick_arg q_pick_text a0 = some r) : A.wrap true [(.a [.k, .k, .k, (.s 4)])] .k (A.ar1 (r_pick_arg rc)) [(AV.agg (cPick a0))] σ = some ((AV.str r), σ) := by
 refine rf_wrap1 (f := r_pick_arg rc) (y0 := (AV.agg (cPick a0))) (enc := fun r : ByteArray => (AV.str r)) (T := t_pick_arg q_pick_text a0) (by first | rfl | (simp only [cPick_eq]; rfl)) (by first | rfl | (simp only [cPick_eq]; rfl)) ?_ r h
 unfold r_pick_arg t_pick_arg
 refine rf_s (cPick a0) (by first | rfl | (simp only [cPick_eq]; rfl)) <| rf_s (AV.int .i64 a0.kind) (by first | rfl | (simp only [cPick_eq]; rfl)) <| rf_s _ (aEq _ _ _) <| rf_gf (AV.int .i64 a0.kind) (fun hg => by first | rfl | (simp only [cPick_eq]; rfl)) <| rf_gf (AV.bool (decide (a0.kind = 5))) (fun hg => by (try rw [hg]); exact (aEq _ _ _)) <| rf_s _ (pk_or _ _) ?_
 refine rf_cb (c := ((decide (a0.kind = 4)) || (decide (a0.kind = 5)))) (fun c5 => ?_) (fun c5 => ?_)
 ·refine rf_s (AV.agg (cPick a0)) (by first | rfl | (simp only [cPick_eq]; rfl)) ?_
  refine rf_o (fun r1 : ByteArray => ((AV.str r1), σ)) (fun r1 hr1 => hq_pick_text _ _ _ hr1) (fun r1 hr1 => ?_)
  refine rf_o (fun x2 : ByteArray => (AV.str x2)) (fun x2 hx2 => (cat_at hx2)) (fun x2 hx2 => ?_)
  refine rf_o (fun x3 : ByteArray => (AV.str x3)) (fun x3 hx3 => (cat_at hx3)) (fun x3 hx3 => ?_)
  exact rf_fin _ (fin_same _ _) ⟨rfl, rfl⟩
 refine rf_s (AV.agg (cPick a0)) (by first | rfl | (simp only [cPick_eq]; rfl)) ?_
 refine rf_o (fun r4 : ByteArray => ((AV.str r4), σ)) (fun r4 hr4 => hq_pick_text _ _ _ hr4) (fun r4 hr4 => ?_)
 exact rf_fin _ (fin_same _ _) ⟨rfl, rfl⟩

noncomputable def t_R4_compound (a0 : PickD) : Option Bool :=
 some ((decide (a0.kind = 4)) || (decide (a0.kind = 5)))
theorem h_R4_compound {a0 : PickD} {σ : Heap} {r : Bool} (h : t_R4_compound a0 = some r) : m_R4_compound [(AV.agg (cPick a0))] σ = some ((AV.bool r), σ) := by
 refine rf_wrap1 (f := r_R4_compound) (y0 := (AV.agg (cPick a0))) (enc := fun r : Bool => (AV.bool r)) (T := t_R4_compound a0) (by first | rfl | (simp only [cPick_eq]; rfl)) (by first | rfl | (simp only [cPick_eq]; rfl)) ?_ r h
 unfold r_R4_compound t_R4_compound
 refine rf_s (cPick a0) (by first | rfl | (simp only [cPick_eq]; rfl)) <| rf_s (AV.int .i64 a0.kind) (by first | rfl | (simp only [cPick_eq]; rfl)) <| rf_s _ (aEq _ _ _) <| rf_gf (AV.int .i64 a0.kind) (fun hg => by first | rfl | (simp only [cPick_eq]; rfl)) <| rf_gf (AV.bool (decide (a0.kind = 5))) (fun hg => by (try rw [hg]); exact (aEq _ _ _)) <| rf_s _ (pk_or _ _) ?_
 exact rf_fin _ (fin_same _ _) ⟨rfl, rfl⟩

noncomputable def t_R4_text (q_R4_inner : PickD → Option ByteArray) (q_R4_text : PickD → Option ByteArray) (a0 : PickD) : Option ByteArray :=
 (tq (inI a0.frm) (itoaB a0.frm)).bind fun r1 =>
 if a0.kind = 1 then
  if ¬ (a0.to = a0.frm) then
   (tCat r1 (⟨#[32, 116, 104, 114, 117, 32]⟩ : ByteArray)).bind fun x2 =>
   (tq (inI a0.to) (itoaB a0.to)).bind fun r3 =>
   (tCat x2 r3).bind fun x4 =>
   some x4
  else
  some r1
 else
 if a0.kind = 2 then
  (tCat (⟨#[103, 114, 111, 117, 112, 32]⟩ : ByteArray) r1).bind fun x6 =>
  some x6
 else
 if a0.kind = 3 then
  (tCat (⟨#[112, 114, 101, 115, 101, 116, 32]⟩ : ByteArray) r1).bind fun x7 =>
  some x7
 else
 if a0.kind = 4 then
  (tIx a0.args 0).bind fun x8 =>
  (q_R4_inner x8).bind fun r9 =>
  (tIx a0.args 0).bind fun x10 =>
  (show Option ByteArray from
    if x10.kind = 5 then
     (tIx a0.args 0).bind fun x11 =>
     (q_R4_text x11).bind fun r12 =>
     some r12
    else
    some r9).bind fun j14 =>
  (tSl a0.args (some 1) none).bind fun x17 =>
  forE x17 (fun (i25 : Nat) e24 (s18 : ByteArray) => (show Option (Lr ByteArray ByteArray Unit) from
    (q_R4_inner e24).bind fun r26 =>
    (tCat (⟨#[32, 43, 32]⟩ : ByteArray) r26).bind fun x27 =>
    (tCat s18 x27).bind fun x28 =>
    some (.go x28))) (fun s18 => some s18) j14 (fun b19 =>
   some b19) (fun b19 =>
   none)
 else
 if a0.kind = 5 then
  (tIx a0.args 0).bind fun x29 =>
  (q_R4_text x29).bind fun r30 =>
  (tCat r30 (⟨#[32, 45, 32]⟩ : ByteArray)).bind fun x31 =>
  (tIx a0.args 1).bind fun x32 =>
  (q_R4_inner x32).bind fun r33 =>
  (tCat x31 r33).bind fun x34 =>
  some x34
 else
 if a0.kind = 6 then
  (tIx a0.args 0).bind fun x35 =>
  (q_R4_inner x35).bind fun r36 =>
  (tCat (⟨#[111, 100, 100, 32]⟩ : ByteArray) r36).bind fun x37 =>
  some x37
 else
 if a0.kind = 7 then
  (tIx a0.args 0).bind fun x38 =>
  (q_R4_inner x38).bind fun r39 =>
  (tCat (⟨#[101, 118, 101, 110, 32]⟩ : ByteArray) r39).bind fun x40 =>
  some x40
 else
 if a0.kind = 8 then
  (tIx a0.args 0).bind fun x41 =>
  (q_R4_inner x41).bind fun r42 =>
  (tCat (⟨#[98, 97, 99, 107, 32]⟩ : ByteArray) r42).bind fun x43 =>
  some x43
 else
 (tCat (⟨#[101, 118, 101, 114, 121, 32]⟩ : ByteArray) r1).bind fun x44 =>
 (tCat x44 (⟨#[32, 102, 114, 111, 109, 32]⟩ : ByteArray)).bind fun x45 =>
 (tq (inI a0.to) (itoaB a0.to)).bind fun r46 =>
 (tCat x45 r46).bind fun x47 =>
 (tCat x47 (⟨#[32]⟩ : ByteArray)).bind fun x48 =>
 (tIx a0.args 0).bind fun x49 =>
 (q_R4_inner x49).bind fun r50 =>
 (tCat x48 r50).bind fun x51 =>
 some x51
theorem h_R4_text {rc : Nat → List AV → Heap → Option (AV × Heap)} (q_R4_inner : PickD → Option ByteArray) (q_R4_text : PickD → Option ByteArray) (hq_R4_inner : ∀ (x0 : PickD) (s : Heap) r, q_R4_inner x0 = some r → rc 465 [(AV.agg (cPick x0))] s = some ((AV.str r), s)) (hq_R4_text : ∀ (x0 : PickD) (s : Heap) r, q_R4_text x0 = some r → rc 466 [(AV.agg (cPick x0))] s = some ((AV.str r), s)) {a0 : PickD} {σ : Heap} {r : ByteArray} (h : t_R4_text q_R4_inner q_R4_text a0 = some r) : A.wrap true [(.a [.k, .k, .k, (.s 4)])] .k (A.ar1 (r_R4_text rc)) [(AV.agg (cPick a0))] σ = some ((AV.str r), σ) := by
 refine rf_wrap1 (f := r_R4_text rc) (y0 := (AV.agg (cPick a0))) (enc := fun r : ByteArray => (AV.str r)) (T := t_R4_text q_R4_inner q_R4_text a0) (by first | rfl | (simp only [cPick_eq]; rfl)) (by first | rfl | (simp only [cPick_eq]; rfl)) ?_ r h
 unfold r_R4_text t_R4_text
 refine rf_s (cPick a0) (by first | rfl | (simp only [cPick_eq]; rfl)) <| rf_s (AV.int .i64 a0.frm) (by first | rfl | (simp only [cPick_eq]; rfl)) ?_
 refine rf_o (fun r1 : ByteArray => ((AV.str r1), σ)) (fun r1 hr1 => (tq_of (e := fun r : ByteArray => ((AV.str r), σ)) (fun hs => Itoa_eq a0.frm hs σ)) hr1) (fun r1 hr1 => ?_)
 refine rf_s (AV.int .i64 a0.kind) (by first | rfl | (simp only [cPick_eq]; rfl)) <| rf_s _ (aEq _ _ _) ?_
 refine rf_c (p := a0.kind = 1) (fun c59 => ?_) (fun c59 => ?_)
 ·refine rf_s (AV.int .i64 a0.to) (by first | rfl | (simp only [cPick_eq]; rfl)) <| rf_s (AV.int .i64 a0.frm) (by first | rfl | (simp only [cPick_eq]; rfl)) <| rf_s _ (aNe _ _ _) ?_
  refine rf_c (p := ¬ (a0.to = a0.frm)) (fun c5 => ?_) (fun c5 => ?_)
  ·refine rf_o (fun x2 : ByteArray => (AV.str x2)) (fun x2 hx2 => (cat_at hx2)) (fun x2 hx2 => ?_)
   refine rf_s (AV.int .i64 a0.to) (by first | rfl | (simp only [cPick_eq]; rfl)) ?_
   refine rf_o (fun r3 : ByteArray => ((AV.str r3), σ)) (fun r3 hr3 => (tq_of (e := fun r : ByteArray => ((AV.str r), σ)) (fun hs => Itoa_eq a0.to hs σ)) hr3) (fun r3 hr3 => ?_)
   refine rf_o (fun x4 : ByteArray => (AV.str x4)) (fun x4 hx4 => (cat_at hx4)) (fun x4 hx4 => ?_)
   exact rf_fin _ (fin_same _ _) ⟨rfl, rfl⟩
  exact rf_fin _ (fin_same _ _) ⟨rfl, rfl⟩
 refine rf_s _ (aEq _ _ _) ?_
 refine rf_c (p := a0.kind = 2) (fun c58 => ?_) (fun c58 => ?_)
 ·refine rf_o (fun x6 : ByteArray => (AV.str x6)) (fun x6 hx6 => (cat_at hx6)) (fun x6 hx6 => ?_)
  exact rf_fin _ (fin_same _ _) ⟨rfl, rfl⟩
 refine rf_s _ (aEq _ _ _) ?_
 refine rf_c (p := a0.kind = 3) (fun c57 => ?_) (fun c57 => ?_)
 ·refine rf_o (fun x7 : ByteArray => (AV.str x7)) (fun x7 hx7 => (cat_at hx7)) (fun x7 hx7 => ?_)
  exact rf_fin _ (fin_same _ _) ⟨rfl, rfl⟩
 refine rf_s _ (aEq _ _ _) ?_
 refine rf_c (p := a0.kind = 4) (fun c56 => ?_) (fun c56 => ?_)
 ·refine rf_s (sl 4 cPick a0.args) (by first | rfl | (simp only [cPick_eq]; rfl)) ?_
  refine rf_o (fun x8 : PickD => (AV.rp (cPick x8))) (fun x8 hx8 => ix_at hx8) (fun x8 hx8 => ?_)
  refine rf_s (AV.agg (cPick x8)) (by first | rfl | (simp only [cPick_eq]; rfl)) ?_
  refine rf_o (fun r9 : ByteArray => ((AV.str r9), σ)) (fun r9 hr9 => hq_R4_inner _ _ _ hr9) (fun r9 hr9 => ?_)
  refine rf_s (sl 4 cPick a0.args) (by first | rfl | (simp only [cPick_eq]; rfl)) ?_
  refine rf_o (fun x10 : PickD => (AV.rp (cPick x10))) (fun x10 hx10 => ix_at hx10) (fun x10 hx10 => ?_)
  refine rf_s (AV.rp (cPick x10)) (by first | rfl | (simp only [cPick_eq]; rfl)) <| rf_s (AV.int .i64 x10.kind) (by first | rfl | (simp only [cPick_eq]; rfl)) <| rf_s _ (aEq _ _ _) ?_
  refine rf_b (ω := ByteArray) (fun j14 a => a = (([(AV.lbx (cPick a0)), (AV.str j14)] : List AV), σ)) (
    by
     refine rf_c (p := x10.kind = 5) (fun c13 => ?_) (fun c13 => ?_)
     ·refine rf_s (sl 4 cPick a0.args) (by first | rfl | (simp only [cPick_eq]; rfl)) ?_
      refine rf_o (fun x11 : PickD => (AV.rp (cPick x11))) (fun x11 hx11 => ix_at hx11) (fun x11 hx11 => ?_)
      refine rf_s (AV.agg (cPick x11)) (by first | rfl | (simp only [cPick_eq]; rfl)) ?_
      refine rf_o (fun r12 : ByteArray => ((AV.str r12), σ)) (fun r12 hr12 => hq_R4_text _ _ _ hr12) (fun r12 hr12 => ?_)
      exact rf_ret rfl
     exact rf_ret rfl
    ) (fun j14 a ha => ?_)
  subst ha
  refine rf_s _ (by first | rfl | (simp only [cPick_eq]; rfl)) <| rf_s (sl 4 cPick a0.args) (by first | rfl | (simp only [cPick_eq]; rfl)) ?_
  refine rf_o (fun x17 : (List PickD) => (sl 4 cPick x17)) (fun x17 hx17 => (sls_at hx17)) (fun x17 hx17 => ?_)
  refine rf_s _ (lenS_sl _ _ _) ?_
  refine rf_for (B := ByteArray) (R := Unit) (fun (i25 : Nat) (s18 : ByteArray) v w20 => v = [(AV.str s18), (AV.int .i64 (i25 : Int))] ∧ σ = w20) (fun (b19 : ByteArray) (q : LS) => ∃ u56, q = ((AX.exit 1), ([(AV.str b19), u56] : List AV), σ)) (fun (b19 : Unit) (q : LS) => False) ?_ ?_ ⟨rfl, rfl⟩ ?_ ?_
  ·intro hle24 i25 e24 s18 v w20 he24 hI
   obtain ⟨rfl, rfl⟩ := hI
   refine rf_s _ (ix_lt he24) <| rf_ct <| rf_s _ (ix_for he24) <| rf_s (AV.agg (cPick e24)) (by first | rfl | (simp only [cPick_eq]; rfl)) <| rf_s (cPick e24) (by first | rfl | (simp only [cPick_eq]; rfl)) <| rf_s _ (sp_cPick _ _ rfl) <| rf_s (AV.agg (cPick e24)) (by first | rfl | (simp only [cPick_eq]; rfl)) ?_
   refine rf_o (fun r26 : ByteArray => ((AV.str r26), σ)) (fun r26 hr26 => hq_R4_inner _ _ _ hr26) (fun r26 hr26 => ?_)
   refine rf_o (fun x27 : ByteArray => (AV.str x27)) (fun x27 hx27 => (cat_at hx27)) (fun x27 hx27 => ?_)
   refine rf_o (fun x28 : ByteArray => (AV.str x28)) (fun x28 hx28 => (cat_at hx28)) (fun x28 hx28 => ?_)
   refine rf_s _ (ix_inc he24 hle24) ?_
   exact rf_ret (rnd_go ⟨rfl, rfl⟩)
  ·intro hl s18 v w20 hI
   obtain ⟨rfl, rfl⟩ := hI
   refine rf_s _ (ix_end _) <| rf_cf ?_
   exact rf_ret ⟨by simp, ⟨_, rfl⟩⟩
  ·intro hl b19 q hq
   obtain ⟨u56, rfl⟩ := hq
   refine rf_bt (by first | rfl | (simp only [cPick_eq]; rfl)) ?_
   exact rf_fin _ (fin_same _ _) ⟨rfl, rfl⟩
  ·intro hl b19 q hq
   exact False.elim hq
 refine rf_s _ (aEq _ _ _) ?_
 refine rf_c (p := a0.kind = 5) (fun c55 => ?_) (fun c55 => ?_)
 ·refine rf_s (sl 4 cPick a0.args) (by first | rfl | (simp only [cPick_eq]; rfl)) ?_
  refine rf_o (fun x29 : PickD => (AV.rp (cPick x29))) (fun x29 hx29 => ix_at hx29) (fun x29 hx29 => ?_)
  refine rf_s (AV.agg (cPick x29)) (by first | rfl | (simp only [cPick_eq]; rfl)) ?_
  refine rf_o (fun r30 : ByteArray => (AV.str r30)) (fun r30 hr30 => (quiet_of (hq_R4_text _ _ _ hr30))) (fun r30 hr30 => ?_)
  refine rf_o (fun x31 : ByteArray => (AV.str x31)) (fun x31 hx31 => (cat_at hx31)) (fun x31 hx31 => ?_)
  refine rf_s (sl 4 cPick a0.args) (by first | rfl | (simp only [cPick_eq]; rfl)) ?_
  refine rf_o (fun x32 : PickD => (AV.rp (cPick x32))) (fun x32 hx32 => ix_at hx32) (fun x32 hx32 => ?_)
  refine rf_s (AV.agg (cPick x32)) (by first | rfl | (simp only [cPick_eq]; rfl)) ?_
  refine rf_o (fun r33 : ByteArray => (AV.str r33)) (fun r33 hr33 => (quiet_of (hq_R4_inner _ _ _ hr33))) (fun r33 hr33 => ?_)
  refine rf_o (fun x34 : ByteArray => (AV.str x34)) (fun x34 hx34 => (cat_at hx34)) (fun x34 hx34 => ?_)
  exact rf_fin _ (fin_same _ _) ⟨rfl, rfl⟩
 refine rf_s _ (aEq _ _ _) ?_
 refine rf_c (p := a0.kind = 6) (fun c54 => ?_) (fun c54 => ?_)
 ·refine rf_s (sl 4 cPick a0.args) (by first | rfl | (simp only [cPick_eq]; rfl)) ?_
  refine rf_o (fun x35 : PickD => (AV.rp (cPick x35))) (fun x35 hx35 => ix_at hx35) (fun x35 hx35 => ?_)
  refine rf_s (AV.agg (cPick x35)) (by first | rfl | (simp only [cPick_eq]; rfl)) ?_
  refine rf_o (fun r36 : ByteArray => ((AV.str r36), σ)) (fun r36 hr36 => hq_R4_inner _ _ _ hr36) (fun r36 hr36 => ?_)
  refine rf_o (fun x37 : ByteArray => (AV.str x37)) (fun x37 hx37 => (cat_at hx37)) (fun x37 hx37 => ?_)
  exact rf_fin _ (fin_same _ _) ⟨rfl, rfl⟩
 refine rf_s _ (aEq _ _ _) ?_
 refine rf_c (p := a0.kind = 7) (fun c53 => ?_) (fun c53 => ?_)
 ·refine rf_s (sl 4 cPick a0.args) (by first | rfl | (simp only [cPick_eq]; rfl)) ?_
  refine rf_o (fun x38 : PickD => (AV.rp (cPick x38))) (fun x38 hx38 => ix_at hx38) (fun x38 hx38 => ?_)
  refine rf_s (AV.agg (cPick x38)) (by first | rfl | (simp only [cPick_eq]; rfl)) ?_
  refine rf_o (fun r39 : ByteArray => ((AV.str r39), σ)) (fun r39 hr39 => hq_R4_inner _ _ _ hr39) (fun r39 hr39 => ?_)
  refine rf_o (fun x40 : ByteArray => (AV.str x40)) (fun x40 hx40 => (cat_at hx40)) (fun x40 hx40 => ?_)
  exact rf_fin _ (fin_same _ _) ⟨rfl, rfl⟩
 refine rf_s _ (aEq _ _ _) ?_
 refine rf_c (p := a0.kind = 8) (fun c52 => ?_) (fun c52 => ?_)
 ·refine rf_s (sl 4 cPick a0.args) (by first | rfl | (simp only [cPick_eq]; rfl)) ?_
  refine rf_o (fun x41 : PickD => (AV.rp (cPick x41))) (fun x41 hx41 => ix_at hx41) (fun x41 hx41 => ?_)
  refine rf_s (AV.agg (cPick x41)) (by first | rfl | (simp only [cPick_eq]; rfl)) ?_
  refine rf_o (fun r42 : ByteArray => ((AV.str r42), σ)) (fun r42 hr42 => hq_R4_inner _ _ _ hr42) (fun r42 hr42 => ?_)
  refine rf_o (fun x43 : ByteArray => (AV.str x43)) (fun x43 hx43 => (cat_at hx43)) (fun x43 hx43 => ?_)
  exact rf_fin _ (fin_same _ _) ⟨rfl, rfl⟩
 refine rf_o (fun x44 : ByteArray => (AV.str x44)) (fun x44 hx44 => (cat_at hx44)) (fun x44 hx44 => ?_)
 refine rf_o (fun x45 : ByteArray => (AV.str x45)) (fun x45 hx45 => (cat_at hx45)) (fun x45 hx45 => ?_)
 refine rf_s (AV.int .i64 a0.to) (by first | rfl | (simp only [cPick_eq]; rfl)) ?_
 refine rf_o (fun r46 : ByteArray => (AV.str r46)) (fun r46 hr46 => (quiet_of ((tq_of (e := fun r : ByteArray => ((AV.str r), σ)) (fun hs => Itoa_eq a0.to hs σ)) hr46))) (fun r46 hr46 => ?_)
 refine rf_o (fun x47 : ByteArray => (AV.str x47)) (fun x47 hx47 => (cat_at hx47)) (fun x47 hx47 => ?_)
 refine rf_o (fun x48 : ByteArray => (AV.str x48)) (fun x48 hx48 => (cat_at hx48)) (fun x48 hx48 => ?_)
 refine rf_s (sl 4 cPick a0.args) (by first | rfl | (simp only [cPick_eq]; rfl)) ?_
 refine rf_o (fun x49 : PickD => (AV.rp (cPick x49))) (fun x49 hx49 => ix_at hx49) (fun x49 hx49 => ?_)
 refine rf_s (AV.agg (cPick x49)) (by first | rfl | (simp only [cPick_eq]; rfl)) ?_
 refine rf_o (fun r50 : ByteArray => (AV.str r50)) (fun r50 hr50 => (quiet_of (hq_R4_inner _ _ _ hr50))) (fun r50 hr50 => ?_)
 refine rf_o (fun x51 : ByteArray => (AV.str x51)) (fun x51 hx51 => (cat_at hx51)) (fun x51 hx51 => ?_)
 exact rf_fin _ (fin_same _ _) ⟨rfl, rfl⟩

noncomputable def t_R4_inner (q_R4_text : PickD → Option ByteArray) (a0 : PickD) : Option ByteArray :=
 if (((decide (a0.kind = 4)) || (decide (a0.kind = 5)))) = true then
  (q_R4_text a0).bind fun r1 =>
  (tCat (⟨#[40]⟩ : ByteArray) r1).bind fun x2 =>
  (tCat x2 (⟨#[41]⟩ : ByteArray)).bind fun x3 =>
  some x3
 else
 (q_R4_text a0).bind fun r4 =>
 some r4
theorem h_R4_inner {rc : Nat → List AV → Heap → Option (AV × Heap)} (q_R4_text : PickD → Option ByteArray) (hq_R4_text : ∀ (x0 : PickD) (s : Heap) r, q_R4_text x0 = some r → rc 466 [(AV.agg (cPick x0))] s = some ((AV.str r), s)) {a0 : PickD} {σ : Heap} {r : ByteArray} (h : t_R4_inner q_R4_text a0 = some r) : A.wrap true [(.a [.k, .k, .k, (.s 4)])] .k (A.ar1 (r_R4_inner rc)) [(AV.agg (cPick a0))] σ = some ((AV.str r), σ) := by
 refine rf_wrap1 (f := r_R4_inner rc) (y0 := (AV.agg (cPick a0))) (enc := fun r : ByteArray => (AV.str r)) (T := t_R4_inner q_R4_text a0) (by first | rfl | (simp only [cPick_eq]; rfl)) (by first | rfl | (simp only [cPick_eq]; rfl)) ?_ r h
 unfold r_R4_inner t_R4_inner
 refine rf_s (cPick a0) (by first | rfl | (simp only [cPick_eq]; rfl)) <| rf_s (AV.agg (cPick a0)) (by first | rfl | (simp only [cPick_eq]; rfl)) <| rf_s _ (h_R4_compound (σ := σ) (r := ((decide (a0.kind = 4)) || (decide (a0.kind = 5)))) rfl) ?_
 refine rf_cb (c := (((decide (a0.kind = 4)) || (decide (a0.kind = 5))))) (fun c5 => ?_) (fun c5 => ?_)
 ·refine rf_s (AV.agg (cPick a0)) (by first | rfl | (simp only [cPick_eq]; rfl)) ?_
  refine rf_o (fun r1 : ByteArray => ((AV.str r1), σ)) (fun r1 hr1 => hq_R4_text _ _ _ hr1) (fun r1 hr1 => ?_)
  refine rf_o (fun x2 : ByteArray => (AV.str x2)) (fun x2 hx2 => (cat_at hx2)) (fun x2 hx2 => ?_)
  refine rf_o (fun x3 : ByteArray => (AV.str x3)) (fun x3 hx3 => (cat_at hx3)) (fun x3 hx3 => ?_)
  exact rf_fin _ (fin_same _ _) ⟨rfl, rfl⟩
 refine rf_s (AV.agg (cPick a0)) (by first | rfl | (simp only [cPick_eq]; rfl)) ?_
 refine rf_o (fun r4 : ByteArray => ((AV.str r4), σ)) (fun r4 hr4 => hq_R4_text _ _ _ hr4) (fun r4 hr4 => ?_)
 exact rf_fin _ (fin_same _ _) ⟨rfl, rfl⟩
end Go.Proofs.YtkdafecbdncmiaaDoor

namespace Go.Proofs.YtkdafecbdncmiaaDoor
set_option linter.unusedSectionVars false
set_option linter.unusedVariables false
set_option linter.unusedSimpArgs false
def dVal (l : List UInt8) : Nat := l.foldl (fun a d => 10 * a + (d.toNat - 48)) 0
theorem dVal_dec : ∀ u : Nat, dVal (Lib.decDigits u) = u := by
 intro u
 induction u using Nat.strongRecOn with
 | ind u ih =>
  rw [Lib.decDigits]
  by_cases h : u < 10
  ·rw [dif_pos h]
   have : u % 256 = u := Nat.mod_eq_of_lt (by omega)
   simp [dVal]; omega
  ·rw [dif_neg h]
   have h1 := ih (u / 10) (by omega)
   unfold dVal at h1 ⊢
   rw [List.foldl_append, h1]
   simp; omega
theorem itoaB_inj {a b : Int} (ha : 0 ≤ a) (hb : 0 ≤ b) (h : itoaB a = itoaB b) : a = b := by
 obtain ⟨m, rfl⟩ := Int.eq_ofNat_of_zero_le ha
 obtain ⟨n, rfl⟩ := Int.eq_ofNat_of_zero_le hb
 unfold itoaB at h
 have h1 := congrArg (fun s : ByteArray => s.data.toList) h
 simp only [Lib.itoa_nonneg] at h1
 have h2 := congrArg dVal h1
 simp only [dVal_dec] at h2
 rw [h2]
theorem itoaB_size {n : Int} (h : inI n) : (itoaB n).size ≤ 21 := by
 have := Lib.itoa_length_le n h.1 h.2
 show (Lib.itoa n).toArray.size ≤ 21
 simpa using this
abbrev bOpen : ByteArray := ⟨#[40]⟩
abbrev bClose : ByteArray := ⟨#[41]⟩
abbrev bThru : ByteArray := ⟨#[32, 116, 104, 114, 117, 32]⟩
abbrev bGroup : ByteArray := ⟨#[103, 114, 111, 117, 112, 32]⟩
abbrev bPreset : ByteArray := ⟨#[112, 114, 101, 115, 101, 116, 32]⟩
abbrev bOdd : ByteArray := ⟨#[111, 100, 100, 32]⟩
abbrev bEven : ByteArray := ⟨#[101, 118, 101, 110, 32]⟩
abbrev bBack : ByteArray := ⟨#[98, 97, 99, 107, 32]⟩
abbrev bEvery : ByteArray := ⟨#[101, 118, 101, 114, 121, 32]⟩
abbrev bFrom : ByteArray := ⟨#[32, 102, 114, 111, 109, 32]⟩
abbrev bMinus : ByteArray := ⟨#[32, 45, 32]⟩
abbrev bPlus : ByteArray := ⟨#[32, 43, 32]⟩
abbrev bBlank : ByteArray := ⟨#[32]⟩
def argT (k : Int) (s : ByteArray) : ByteArray := if k = 4 ∨ k = 5 then bOpen ++ s ++ bClose else s
def tailT (m s : ByteArray) : List ByteArray → ByteArray
 | [] => s
 | a :: l => tailT m (s ++ (m ++ a)) l
def txtF (k f t : Int) (ks : List Int) (ts : List ByteArray) : ByteArray :=
 if k = 1 then (if f = t then itoaB f else itoaB f ++ bThru ++ itoaB t)
 else if k = 2 then bGroup ++ itoaB f
 else if k = 3 then bPreset ++ itoaB f
 else if k = 6 then bOdd ++ argT (ks.headD 0) (ts.headD default)
 else if k = 7 then bEven ++ argT (ks.headD 0) (ts.headD default)
 else if k = 8 then bBack ++ argT (ks.headD 0) (ts.headD default)
 else if k = 9 then bEvery ++ itoaB f ++ bFrom ++ itoaB t ++ bBlank ++ argT (ks.headD 0) (ts.headD default)
 else tailT (if k = 5 then bMinus else bPlus) (if ks.headD 0 = 5 ∨ k = 5 then ts.headD default else argT (ks.headD 0) (ts.headD default)) (List.zipWith argT (ks.drop 1) (ts.drop 1))
mutual
def pTxt : PickD → ByteArray
 | .mk k f t l => txtF k f t (l.map PickD.kind) (pTxts l)
def pTxts : List PickD → List ByteArray
 | [] => []
 | p :: l => pTxt p :: pTxts l
end
theorem pTxts_eq : ∀ l : List PickD, pTxts l = l.map pTxt
 | [] => by rw [pTxts]; rfl
 | p :: l => by rw [pTxts, pTxts_eq l]; rfl
def pArgT (p : PickD) : ByteArray := argT p.kind (pTxt p)
theorem zip_args : ∀ l : List PickD, List.zipWith argT (l.map PickD.kind) (l.map pTxt) = l.map pArgT
 | [] => rfl
 | p :: l => by rw [List.map_cons, List.map_cons, List.zipWith_cons_cons, zip_args l]; rfl
theorem pTxt_eq (p : PickD) : pTxt p = txtF p.kind p.frm p.to (p.args.map PickD.kind) (p.args.map pTxt) := by cases p; rw [pTxt, pTxts_eq]; rfl
theorem bsz (a b : ByteArray) : (a ++ b).size = a.size + b.size := ByteArray.size_append
theorem argT_size (k : Int) (s : ByteArray) : (argT k s).size ≤ s.size + 2 := by
 unfold argT
 split
 ·rw [bsz, bsz]; show 1 + s.size + 1 ≤ _; omega
 ·omega
theorem tailT_size (m : ByteArray) : ∀ (l : List ByteArray) (s : ByteArray), (tailT m s l).size = s.size + (l.map fun a => m.size + a.size).sum
 | [], s => by simp [tailT]
 | a :: l, s => by rw [tailT, tailT_size m l, bsz, bsz, List.map_cons, List.sum_cons]; omega
theorem pChks_zero : ∀ {l : List PickD}, pChks l = 0 → ∀ x ∈ l, pChk x = 0
 | p :: l, h, x, hx => by
  rw [pChks] at h
  by_cases hp : pChk p = 0
  ·rw [if_pos hp] at h
   rcases List.mem_cons.1 hx with rfl | hx
   ·exact hp
   ·exact pChks_zero h x hx
  ·rw [if_neg hp] at h; exact absurd h hp
theorem pChk_zero {p : PickD} (h : pChk p = 0) : partF p.kind p.frm p.to p.args.length = 0 ∧ ∀ x ∈ p.args, pChk x = 0 := by
 rw [pChk_eq] at h
 by_cases hp : partF p.kind p.frm p.to p.args.length = 0
 ·rw [if_pos hp] at h; exact ⟨hp, pChks_zero h⟩
 ·rw [if_neg hp] at h; exact absurd h hp
theorem partF_zero {k f t : Int} {n : Nat} (h : partF k f t n = 0) : (1 ≤ k ∧ k ≤ 9) ∧ ¬ pkA k f t n ∧ ¬ pkB k f t := by
 unfold partF at h
 split at h
 ·cases h
 ·rename_i h1
  split at h
  ·cases h
  ·rename_i h2
   split at h
   ·cases h
   ·rename_i h3
    exact ⟨by omega, h2, h3⟩
theorem part_in {k f t : Int} {n : Nat} (h : partF k f t n = 0) : 0 ≤ f ∧ f ≤ 9999 ∧ 0 ≤ t ∧ t ≤ 9999 := by
 obtain ⟨h1, h2, h3⟩ := partF_zero h
 unfold pkA at h2; unfold pkB at h3
 have hk' : k = 1 ∨ k = 2 ∨ k = 3 ∨ k = 4 ∨ k = 5 ∨ k = 6 ∨ k = 7 ∨ k = 8 ∨ k = 9 := by omega
 rcases hk' with rfl | rfl | rfl | rfl | rfl | rfl | rfl | rfl | rfl <;> omega
theorem sum_le {f g : PickD → Nat} : ∀ {l : List PickD}, (∀ x ∈ l, f x ≤ g x) → (l.map f).sum ≤ (l.map g).sum
 | [], _ => Nat.le_refl _
 | x :: l, h => by
  rw [List.map_cons, List.map_cons, List.sum_cons, List.sum_cons]
  have := h x (by simp); have := sum_le (f := f) (g := g) (l := l) fun y hy => h y (by simp [hy])
  omega
theorem sum_70 : ∀ l : List PickD, (l.map fun x => 70 * pSize x).sum = 70 * pSizes l
 | [] => by rw [pSizes]; rfl
 | p :: l => by rw [List.map_cons, List.sum_cons, sum_70 l, pSizes]; omega
theorem pTxt_size : ∀ (n : Nat) (p : PickD), pSize p ≤ n → pChk p = 0 → (pTxt p).size + 5 ≤ 70 * pSize p
 | 0, p, h, _ => by rw [pSize_eq] at h; omega
 | n + 1, p, h, hc => by
  obtain ⟨h0, h1⟩ := pChk_zero hc
  have hin := part_in h0
  have ih : ∀ x ∈ p.args, (pTxt x).size + 5 ≤ 70 * pSize x := fun x hx => pTxt_size n x (by have := pSize_arg hx; omega) (h1 x hx)
  have hf : (itoaB p.frm).size ≤ 21 := itoaB_size (by unfold inI; omega)
  have ht : (itoaB p.to).size ≤ 21 := itoaB_size (by unfold inI; omega)
  have ha : ∀ x ∈ p.args, (pArgT x).size + 3 ≤ 70 * pSize x := fun x hx => by have := ih x hx; have := argT_size x.kind (pTxt x); unfold pArgT; omega
  rw [pTxt_eq, pSize_eq]
  have hd : ∀ x l, p.args = x :: l → (argT ((p.args.map PickD.kind).headD 0) ((p.args.map pTxt).headD default)).size + 3 ≤ 70 * pSizes p.args ∧ ((p.args.map pTxt).headD default).size + 5 ≤ 70 * pSize x := fun x l e => by
   rw [e]
   have := ha x (by rw [e]; simp); have := ih x (by rw [e]; simp)
   rw [pSizes]
   unfold pArgT at *
   simp only [List.map_cons, List.headD_cons]
   omega
  obtain ⟨hk, hA, hB⟩ := partF_zero h0
  unfold pkA at hA
  unfold txtF
  cases hargs : p.args with
  | nil =>
   rw [hargs] at hA
   simp only [List.length_nil] at hA
   by_cases k1 : p.kind = 1
   ·rw [if_pos k1]
    split
    ·omega
    ·rw [bsz, bsz]; show _ + 6 + _ + 5 ≤ _; omega
   ·rw [if_neg k1]
    by_cases k2 : p.kind = 2
    ·rw [if_pos k2, bsz]; show 6 + _ + 5 ≤ _; omega
    ·rw [if_neg k2, if_pos (by omega), bsz]; show 7 + _ + 5 ≤ _; omega
  | cons x l =>
   obtain ⟨d1, d2⟩ := hd x l hargs
   rw [hargs] at hA d1 d2 ha
   simp only [List.length_cons] at hA
   have hz : (l.map fun a => 3 + (pArgT a).size).sum ≤ 70 * pSizes l := by
    rw [← sum_70]; exact sum_le fun y hy => by have := ha y (by simp [hy]); omega
   rw [if_neg (by omega), if_neg (by omega), if_neg (by omega)]
   by_cases k6 : p.kind = 6
   ·rw [if_pos k6, bsz]; show 4 + _ + 5 ≤ _; omega
   ·rw [if_neg k6]
    by_cases k7 : p.kind = 7
    ·rw [if_pos k7, bsz]; show 5 + _ + 5 ≤ _; omega
    ·rw [if_neg k7]
     by_cases k8 : p.kind = 8
     ·rw [if_pos k8, bsz]; show 5 + _ + 5 ≤ _; omega
     ·rw [if_neg k8]
      by_cases k9 : p.kind = 9
      ·rw [if_pos k9, bsz, bsz, bsz, bsz, bsz]; show 6 + _ + 6 + _ + 1 + _ + 5 ≤ _; omega
      ·rw [if_neg k9, tailT_size]
       have hm : ∀ y : List ByteArray, (y.map fun a => (if p.kind = 5 then bMinus else bPlus).size + a.size) = y.map fun a => 3 + a.size := fun y => by
        split <;> rfl
       rw [hm]
       have e1 : List.zipWith argT (((x :: l).map PickD.kind).drop 1) (((x :: l).map pTxt).drop 1) = l.map pArgT := by
        simp only [List.map_cons, List.drop_succ_cons, List.drop_zero]; exact zip_args l
       rw [e1, List.map_map]
       have e2 : (if ((x :: l).map PickD.kind).headD 0 = 5 ∨ p.kind = 5 then ((x :: l).map pTxt).headD default else argT (((x :: l).map PickD.kind).headD 0) (((x :: l).map pTxt).headD default)).size + 3 ≤ 70 * pSize x := by
        have q := ha x (by simp)
        unfold pArgT at q
        simp only [List.map_cons, List.headD_cons] at d2 ⊢
        split <;> omega
       rw [pSizes]
       have e3 : ((l.map ((fun a : ByteArray => 3 + a.size) ∘ pArgT))).sum ≤ 70 * pSizes l := hz
       omega
end Go.Proofs.YtkdafecbdncmiaaDoor

namespace Go.Proofs.YtkdafecbdncmiaaDoor
set_option linter.unusedSectionVars false
set_option linter.unusedVariables false
set_option linter.unusedSimpArgs false
theorem cat_ok {a b : ByteArray} (h : a.size + b.size ≤ 1000000000) : tCat a b = some (a ++ b) := if_pos (by omega)
theorem tailT_snoc (m : ByteArray) : ∀ (l : List ByteArray) (s a : ByteArray), tailT m s (l ++ [a]) = tailT m s l ++ (m ++ a)
 | [], s, a => rfl
 | b :: l, s, a => by rw [List.cons_append, tailT, tailT, tailT_snoc m l]
theorem tSl_one {α : Type} {x : α} {l : List α} : tSl (x :: l) (some 1) none = some l := by simp [tSl]; omega
theorem take_sum {f : PickD → Nat} (l : List PickD) (i : Nat) : ((l.take i).map f).sum ≤ (l.map f).sum := by
 have h := List.take_append_drop i l
 have h2 : (l.map f).sum = ((l.take i).map f).sum + ((l.drop i).map f).sum := by rw [← List.sum_append, ← List.map_append, h]
 omega
theorem tail_loop {q : PickD → Option ByteArray} {m s : ByteArray} {l : List PickD} {γ : Type} {K1 : ByteArray → Option γ} {K2 : Unit → Option γ} (hl : l.length ≤ mxl) (hq : ∀ x ∈ l, q x = some (pArgT x)) (hm : m.size ≤ 3) (hs : s.size + (l.map fun a => m.size + (pArgT a).size).sum ≤ 100000000) :
  forE l (fun (i : Nat) e (s : ByteArray) => (q e).bind fun r => (tCat m r).bind fun x => (tCat s x).bind fun x => some (.go x)) (fun s => some s) s K1 K2 = K1 (tailT m s (l.map pArgT)) := by
 rw [forE_st (fun i => tailT m s ((l.take i).map pArgT)) hl (by simp [tailT])]
 ·rw [List.take_length, Option.bind_some]
 ·intro i x hx
  have ht : l.take (i + 1) = l.take i ++ [x] := by rw [List.take_add_one, hx]; rfl
  have h1 := take_sum (f := fun a => m.size + (pArgT a).size) l (i + 1)
  rw [ht, List.map_append, List.sum_append] at h1
  simp only [List.map_cons, List.map_nil, List.sum_cons, List.sum_nil] at h1
  have h2 := tailT_size m ((l.take i).map pArgT) s
  rw [List.map_map] at h2
  have h3 : (((l.take i).map ((fun a : ByteArray => m.size + a.size) ∘ pArgT))).sum = ((l.take i).map fun a => m.size + (pArgT a).size).sum := rfl
  rw [h3] at h2
  simp only [hq x (List.mem_of_getElem? hx), Option.bind_some]
  rw [cat_ok (by omega), Option.bind_some, cat_ok (by rw [h2, bsz]; omega), Option.bind_some, ht, List.map_append, List.map_cons, List.map_nil, tailT_snoc]
theorem pArgT_eq (p : PickD) : pArgT p = if p.kind = 4 ∨ p.kind = 5 then bOpen ++ pTxt p ++ bClose else pTxt p := rfl
theorem arg_k {q : PickD → Option ByteArray} {p : PickD} (h : q p = some (pTxt p)) (hs : (pTxt p).size ≤ 100000000) : t_pick_arg q p = some (pArgT p) := by
 unfold t_pick_arg
 rw [h, pArgT_eq]
 by_cases hk : p.kind = 4 ∨ p.kind = 5
 ·rw [if_pos (by simpa using hk), if_pos hk, Option.bind_some, cat_ok (by show 1 + _ ≤ _; omega), Option.bind_some, cat_ok (by rw [bsz]; show 1 + _ + 1 ≤ _; omega)]; rfl
 ·rw [if_neg (by simpa using hk), if_neg hk]; rfl
theorem inner_k {q : PickD → Option ByteArray} {p : PickD} (h : q p = some (pTxt p)) (hs : (pTxt p).size ≤ 100000000) : t_R4_inner q p = some (pArgT p) := by
 unfold t_R4_inner
 rw [h, pArgT_eq]
 by_cases hk : p.kind = 4 ∨ p.kind = 5
 ·rw [if_pos (by simpa using hk), if_pos hk, Option.bind_some, cat_ok (by show 1 + _ ≤ _; omega), Option.bind_some, cat_ok (by rw [bsz]; show 1 + _ + 1 ≤ _; omega)]; rfl
 ·rw [if_neg (by simpa using hk), if_neg hk]; rfl
theorem argT_hd (x : PickD) (l : List PickD) : argT (((x :: l).map PickD.kind).headD 0) (((x :: l).map pTxt).headD default) = pArgT x := rfl
theorem txt_hd (x : PickD) (l : List PickD) : ((x :: l).map pTxt).headD default = pTxt x := rfl
theorem knd_hd (x : PickD) (l : List PickD) : ((x :: l).map PickD.kind).headD 0 = x.kind := rfl
theorem args_tl (x : PickD) (l : List PickD) : List.zipWith argT (((x :: l).map PickD.kind).drop 1) (((x :: l).map pTxt).drop 1) = l.map pArgT := by
 simp only [List.map_cons, List.drop_succ_cons, List.drop_zero]; exact zip_args l
theorem txt_facts {p : PickD} (h : pChk p = 0) (hs : pSize p ≤ 1000000) : inI p.frm ∧ inI p.to ∧ (itoaB p.frm).size ≤ 21 ∧ (itoaB p.to).size ≤ 21 ∧ (∀ x ∈ p.args, pChk x = 0 ∧ (pTxt x).size + 5 ≤ 70 * pSize x ∧ (pArgT x).size + 3 ≤ 70 * pSize x) ∧ (1 ≤ p.kind ∧ p.kind ≤ 9) ∧ ¬ pkA p.kind p.frm p.to p.args.length ∧ (p.kind = 1 → (p.frm = p.to ↔ itoaB p.frm = itoaB p.to)) := by
 obtain ⟨h0, h1⟩ := pChk_zero h
 obtain ⟨a, b, c, d⟩ := part_in h0
 obtain ⟨e, g, _⟩ := partF_zero h0
 have i1 : inI p.frm := by unfold inI; omega
 have i2 : inI p.to := by unfold inI; omega
 refine ⟨i1, i2, itoaB_size i1, itoaB_size i2, fun x hx => ?_, e, g, fun _ => ⟨fun q => by rw [q], fun q => itoaB_inj a c q⟩⟩
 have := pTxt_size _ x (Nat.le_refl _) (h1 x hx)
 have := argT_size x.kind (pTxt x)
 exact ⟨h1 x hx, by omega, by unfold pArgT; omega⟩
theorem rest_le {x : PickD} {l : List PickD} {N : Nat} (hs : 1 + (pSize x + pSizes l) ≤ N) (ha : ∀ y ∈ x :: l, (pArgT y).size + 3 ≤ 70 * pSize y) {m : ByteArray} (hm : m.size ≤ 3) : (l.map fun a => m.size + (pArgT a).size).sum ≤ 70 * pSizes l := by
 rw [← sum_70]; exact sum_le fun y hy => by have := ha y (by simp [hy]); omega
theorem text_k {qa qt : PickD → Option ByteArray} {p : PickD} (h : pChk p = 0) (hs : pSize p ≤ 1000000) (ha : ∀ x ∈ p.args, qa x = some (pArgT x)) (ht : ∀ x ∈ p.args, qt x = some (pTxt x)) : t_pick_text qa qt p = some (pTxt p) := by
 obtain ⟨i1, i2, f1, f2, hx, hk, hA, hj⟩ := txt_facts h hs
 unfold t_pick_text
 rw [pTxt_eq, tq_pos i1, tq_pos i2, Option.bind_some, Option.bind_some]
 unfold txtF
 unfold pkA at hA
 rw [pSize_eq] at hs
 cases hargs : p.args with
 | nil =>
  rw [hargs] at hA
  simp only [List.length_nil] at hA
  by_cases k1 : p.kind = 1
  ·rw [if_pos k1, if_pos k1]
   by_cases e : p.frm = p.to
   ·rw [if_pos ((hj k1).1 e), if_pos e]
   ·rw [if_neg (fun q => e ((hj k1).2 q)), if_neg e, cat_ok (by show _ + 6 ≤ _; omega), Option.bind_some, cat_ok (by rw [bsz]; show _ + 6 + _ ≤ _; omega)]; rfl
  ·rw [if_neg k1, if_neg k1]
   by_cases k2 : p.kind = 2
   ·rw [if_pos k2, if_pos k2, cat_ok (by show 6 + _ ≤ _; omega)]; rfl
   ·rw [if_neg k2, if_neg k2, if_pos (show p.kind = 3 by omega), if_pos (show p.kind = 3 by omega), cat_ok (by show 7 + _ ≤ _; omega)]; rfl
 | cons x l =>
  rw [hargs] at hA ha ht hx hs
  simp only [List.length_cons] at hA
  rw [pSizes] at hs
  have hl : l.length ≤ mxl := by have := pSizes_len l; unfold mxl; omega
  obtain ⟨_, x1, x2⟩ := hx x (by simp)
  have ix : tIx (x :: l) 0 = some x := rfl
  have k1 : ¬ p.kind = 1 := by omega
  have k2 : ¬ p.kind = 2 := by omega
  have k3 : ¬ p.kind = 3 := by omega
  rw [if_neg k1, if_neg k2, if_neg k3, if_neg k1, if_neg k2, if_neg k3, ix, argT_hd, txt_hd, knd_hd, args_tl]
  simp only [Option.bind_some, ha x (by simp)]
  by_cases k6 : p.kind = 6
  ·rw [if_pos k6, if_pos k6, cat_ok (by show 4 + _ ≤ _; omega)]; rfl
  ·rw [if_neg k6, if_neg k6]
   by_cases k7 : p.kind = 7
   ·rw [if_pos k7, if_pos k7, cat_ok (by show 5 + _ ≤ _; omega)]; rfl
   ·rw [if_neg k7, if_neg k7]
    by_cases k8 : p.kind = 8
    ·rw [if_pos k8, if_pos k8, cat_ok (by show 5 + _ ≤ _; omega)]; rfl
    ·rw [if_neg k8, if_neg k8]
     by_cases k9 : p.kind = 9
     ·rw [if_pos k9, if_pos k9, cat_ok (by show 6 + _ ≤ _; omega), Option.bind_some, cat_ok (by rw [bsz]; show 6 + _ + 6 ≤ _; omega), Option.bind_some, cat_ok (by rw [bsz, bsz]; show 6 + _ + 6 + _ ≤ _; omega), Option.bind_some, cat_ok (by rw [bsz, bsz, bsz]; show 6 + _ + 6 + _ + 1 ≤ _; omega), Option.bind_some, cat_ok (by rw [bsz, bsz, bsz, bsz]; show 6 + _ + 6 + _ + 1 + _ ≤ _; omega)]; rfl
     ·rw [if_neg k9, if_neg k9]
      have e1 : (if p.kind = 5 then some (⟨#[32, 45, 32]⟩ : ByteArray) else some (⟨#[32, 43, 32]⟩ : ByteArray)) = some (if p.kind = 5 then bMinus else bPlus) := by
       by_cases k5 : p.kind = 5 <;> simp [k5]
      have e2 : (if ((decide (x.kind = 5)) || (decide (p.kind = 5))) = true then (qt x).bind fun r30 => some r30 else some (pArgT x)) = some (if x.kind = 5 ∨ p.kind = 5 then pTxt x else pArgT x) := by
       rw [ht x (by simp)]
       by_cases k5 : x.kind = 5 ∨ p.kind = 5
       ·rw [if_pos k5, if_pos (by simpa using k5)]; rfl
       ·rw [if_neg k5, if_neg (by simpa using k5)]
      rw [e1, Option.bind_some, e2, Option.bind_some, tSl_one, Option.bind_some]
      have hm : (if p.kind = 5 then bMinus else bPlus).size ≤ 3 := by split <;> exact Nat.le_refl 3
      rw [tail_loop hl (fun y hy => ha y (by simp [hy])) hm]
      have := rest_le hs (fun y hy => (hx y hy).2.2) hm
      split <;> omega
theorem bassoc (a b c : ByteArray) : a ++ b ++ c = a ++ (b ++ c) := ByteArray.append_assoc
theorem text4_k {qa qt : PickD → Option ByteArray} {p : PickD} (h : pChk p = 0) (hs : pSize p ≤ 1000000) (ha : ∀ x ∈ p.args, qa x = some (pArgT x)) (ht : ∀ x ∈ p.args, qt x = some (pTxt x)) : t_R4_text qa qt p = some (pTxt p) := by
 obtain ⟨i1, i2, f1, f2, hx, hk, hA, hj⟩ := txt_facts h hs
 unfold t_R4_text
 rw [pTxt_eq, tq_pos i1, Option.bind_some]
 unfold txtF
 unfold pkA at hA
 rw [pSize_eq] at hs
 cases hargs : p.args with
 | nil =>
  rw [hargs] at hA
  simp only [List.length_nil] at hA
  by_cases k1 : p.kind = 1
  ·rw [if_pos k1, if_pos k1]
   by_cases e : p.frm = p.to
   ·rw [if_neg (fun q => q e.symm), if_pos e]
   ·rw [if_pos (fun q => e q.symm), if_neg e, cat_ok (by show _ + 6 ≤ _; omega), Option.bind_some, tq_pos i2, Option.bind_some, cat_ok (by rw [bsz]; show _ + 6 + _ ≤ _; omega)]; rfl
  ·rw [if_neg k1, if_neg k1]
   by_cases k2 : p.kind = 2
   ·rw [if_pos k2, if_pos k2, cat_ok (by show 6 + _ ≤ _; omega)]; rfl
   ·rw [if_neg k2, if_neg k2, if_pos (show p.kind = 3 by omega), if_pos (show p.kind = 3 by omega), cat_ok (by show 7 + _ ≤ _; omega)]; rfl
 | cons x l =>
  rw [hargs] at hA ha ht hx hs
  simp only [List.length_cons] at hA
  rw [pSizes] at hs
  have hl : l.length ≤ mxl := by have := pSizes_len l; unfold mxl; omega
  obtain ⟨_, x1, x2⟩ := hx x (by simp)
  have ix : tIx (x :: l) 0 = some x := rfl
  have k1 : ¬ p.kind = 1 := by omega
  have k2 : ¬ p.kind = 2 := by omega
  have k3 : ¬ p.kind = 3 := by omega
  rw [if_neg k1, if_neg k2, if_neg k3, if_neg k1, if_neg k2, if_neg k3, ix, argT_hd, txt_hd, knd_hd, args_tl]
  simp only [Option.bind_some, ha x (by simp), ht x (by simp), tq_pos i2]
  by_cases k4 : p.kind = 4
  ·have k5 : ¬ p.kind = 5 := by omega
   rw [if_pos k4, if_neg (show ¬ p.kind = 6 by omega), if_neg (show ¬ p.kind = 7 by omega), if_neg (show ¬ p.kind = 8 by omega), if_neg (show ¬ p.kind = 9 by omega), if_neg k5]
   have e2 : (if x.kind = 5 then some (pTxt x) else some (pArgT x)) = some (if x.kind = 5 ∨ p.kind = 5 then pTxt x else pArgT x) := by
    by_cases q : x.kind = 5
    ·rw [if_pos q, if_pos (.inl q)]
    ·rw [if_neg q, if_neg (by omega)]
   rw [e2, Option.bind_some, tSl_one, Option.bind_some]
   rw [tail_loop (m := bPlus) hl (fun y hy => ha y (by simp [hy])) (show bPlus.size ≤ 3 from Nat.le_refl 3)]
   have := rest_le hs (fun y hy => (hx y hy).2.2) (m := bPlus) (show bPlus.size ≤ 3 from Nat.le_refl 3)
   have h3 : (l.map fun a => bPlus.size + (pArgT a).size).sum ≤ 70 * pSizes l := this
   show _ + (l.map fun a => bPlus.size + (pArgT a).size).sum ≤ _
   split <;> omega
  ·rw [if_neg k4]
   by_cases k5 : p.kind = 5
   ·rw [if_pos k5, if_neg (show ¬ p.kind = 6 by omega), if_neg (show ¬ p.kind = 7 by omega), if_neg (show ¬ p.kind = 8 by omega), if_neg (show ¬ p.kind = 9 by omega), if_pos k5, if_pos (.inr k5)]
    obtain ⟨y, rfl⟩ : ∃ y, l = [y] := by
     cases l with
     | nil => simp at hA; omega
     | cons y l =>
      cases l with
      | nil => exact ⟨y, rfl⟩
      | cons z l => simp at hA; omega
    have iy : tIx [x, y] 1 = some y := rfl
    obtain ⟨_, y1, y2⟩ := hx y (by simp)
    rw [pSizes, pSizes] at hs
    rw [iy, cat_ok (by show _ + 3 ≤ _; omega), Option.bind_some, Option.bind_some, ha y (by simp), Option.bind_some, cat_ok (by rw [bsz]; show _ + 3 + _ ≤ _; omega), Option.bind_some, bassoc]
    rfl
   ·rw [if_neg k5]
    by_cases k6 : p.kind = 6
    ·rw [if_pos k6, if_pos k6, cat_ok (by show 4 + _ ≤ _; omega)]; rfl
    ·rw [if_neg k6, if_neg k6]
     by_cases k7 : p.kind = 7
     ·rw [if_pos k7, if_pos k7, cat_ok (by show 5 + _ ≤ _; omega)]; rfl
     ·rw [if_neg k7, if_neg k7]
      by_cases k8 : p.kind = 8
      ·rw [if_pos k8, if_pos k8, cat_ok (by show 5 + _ ≤ _; omega)]; rfl
      ·rw [if_neg k8, if_neg k8, if_pos (show p.kind = 9 by omega), cat_ok (by show 6 + _ ≤ _; omega), Option.bind_some, cat_ok (by rw [bsz]; show 6 + _ + 6 ≤ _; omega), Option.bind_some, cat_ok (by rw [bsz, bsz]; show 6 + _ + 6 + _ ≤ _; omega), Option.bind_some, cat_ok (by rw [bsz, bsz, bsz]; show 6 + _ + 6 + _ + 1 ≤ _; omega), Option.bind_some, cat_ok (by rw [bsz, bsz, bsz, bsz]; show 6 + _ + 6 + _ + 1 + _ ≤ _; omega)]; rfl
theorem text_t : ∀ (n : Nat) (p : PickD) (σ : Heap), 2 * pDeep p ≤ n → pSize p ≤ 1000000 → pChk p = 0 → fuel R_pick_text (n + 1) 462 [.agg (cPick p)] σ = some (.str (pTxt p), σ) ∧ fuel R_pick_text (n + 2) 461 [.agg (cPick p)] σ = some (.str (pArgT p), σ) := by
 have texts : ∀ (n : Nat), (∀ (p : PickD) (σ : Heap), 2 * pDeep p ≤ n → pSize p ≤ 1000000 → pChk p = 0 → fuel R_pick_text (n + 1) 462 [.agg (cPick p)] σ = some (.str (pTxt p), σ)) → ∀ (p : PickD) (σ : Heap), 2 * pDeep p ≤ n → pSize p ≤ 1000000 → pChk p = 0 → fuel R_pick_text (n + 2) 461 [.agg (cPick p)] σ = some (.str (pArgT p), σ) := by
  intro n ih p σ hd hs hc
  let q : PickD → Option ByteArray := fun x => if 2 * pDeep x ≤ n ∧ pSize x ≤ 1000000 ∧ pChk x = 0 then some (pTxt x) else none
  have e : t_pick_arg q p = some (pArgT p) := arg_k (if_pos ⟨hd, hs, hc⟩) (by have := pTxt_size _ p (Nat.le_refl _) hc; omega)
  have hr : fuel R_pick_text (n + 2) 461 = A.wrap true [(.a [.k, .k, .k, (.s 4)])] .k (A.ar1 (r_pick_arg (fuel R_pick_text (n + 1)))) := rfl
  rw [hr]
  exact h_pick_arg (rc := fuel R_pick_text (n + 1)) q (fun x s r hx => by
   by_cases hp : 2 * pDeep x ≤ n ∧ pSize x ≤ 1000000 ∧ pChk x = 0
   ·have : q x = _ := if_pos hp
    rw [this] at hx; injection hx with hx; subst hx
    exact ih x s hp.1 hp.2.1 hp.2.2
   ·have : q x = none := if_neg hp
    rw [this] at hx; cases hx) e
 have main : ∀ (n : Nat) (p : PickD) (σ : Heap), 2 * pDeep p ≤ n → pSize p ≤ 1000000 → pChk p = 0 → fuel R_pick_text (n + 1) 462 [.agg (cPick p)] σ = some (.str (pTxt p), σ) := by
  intro n
  induction n using Nat.strongRecOn with
  | ind n ih =>
   intro p σ hd hs hc
   have h1 := pDeep_pos p
   obtain ⟨m, rfl⟩ : ∃ m, n = m + 2 := ⟨n - 2, by omega⟩
   have hda : ∀ x ∈ p.args, 2 * pDeep x ≤ m := fun x hx => by have := pDeeps_mem hx; rw [pDeep_eq] at hd; omega
   let qa : PickD → Option ByteArray := fun x => if 2 * pDeep x ≤ m ∧ pSize x ≤ 1000000 ∧ pChk x = 0 then some (pArgT x) else none
   let qt : PickD → Option ByteArray := fun x => if 2 * pDeep x ≤ m ∧ pSize x ≤ 1000000 ∧ pChk x = 0 then some (pTxt x) else none
   have hz : ∀ x ∈ p.args, 2 * pDeep x ≤ m ∧ pSize x ≤ 1000000 ∧ pChk x = 0 := fun x hx => ⟨hda x hx, by have := pSize_arg hx; omega, (pChk_zero hc).2 x hx⟩
   have e : t_pick_text qa qt p = some (pTxt p) := text_k hc hs (fun x hx => if_pos (hz x hx)) (fun x hx => if_pos (hz x hx))
   have hr : fuel R_pick_text (m + 2 + 1) 462 = A.wrap true [(.a [.k, .k, .k, (.s 4)])] .k (A.ar1 (r_pick_text (fuel R_pick_text (m + 2)))) := rfl
   rw [hr]
   exact h_pick_text (rc := fuel R_pick_text (m + 2)) qa qt (fun x s r hx => by
    by_cases hp : 2 * pDeep x ≤ m ∧ pSize x ≤ 1000000 ∧ pChk x = 0
    ·have : qa x = _ := if_pos hp
     rw [this] at hx; injection hx with hx; subst hx
     exact texts m (ih m (by omega)) x s hp.1 hp.2.1 hp.2.2
    ·have : qa x = none := if_neg hp
     rw [this] at hx; cases hx) (fun x s r hx => by
    by_cases hp : 2 * pDeep x ≤ m ∧ pSize x ≤ 1000000 ∧ pChk x = 0
    ·have : qt x = _ := if_pos hp
     rw [this] at hx; injection hx with hx; subst hx
     exact ih (m + 1) (by omega) x s (by omega) hp.2.1 hp.2.2
    ·have : qt x = none := if_neg hp
     rw [this] at hx; cases hx) e
 exact fun n p σ hd hs hc => ⟨main n p σ hd hs hc, texts n (main n) p σ hd hs hc⟩
theorem text4_t : ∀ (n : Nat) (p : PickD) (σ : Heap), 2 * pDeep p ≤ n → pSize p ≤ 1000000 → pChk p = 0 → fuel R_R4_text (n + 1) 466 [.agg (cPick p)] σ = some (.str (pTxt p), σ) ∧ fuel R_R4_text (n + 2) 465 [.agg (cPick p)] σ = some (.str (pArgT p), σ) := by
 have texts : ∀ (n : Nat), (∀ (p : PickD) (σ : Heap), 2 * pDeep p ≤ n → pSize p ≤ 1000000 → pChk p = 0 → fuel R_R4_text (n + 1) 466 [.agg (cPick p)] σ = some (.str (pTxt p), σ)) → ∀ (p : PickD) (σ : Heap), 2 * pDeep p ≤ n → pSize p ≤ 1000000 → pChk p = 0 → fuel R_R4_text (n + 2) 465 [.agg (cPick p)] σ = some (.str (pArgT p), σ) := by
  intro n ih p σ hd hs hc
  let q : PickD → Option ByteArray := fun x => if 2 * pDeep x ≤ n ∧ pSize x ≤ 1000000 ∧ pChk x = 0 then some (pTxt x) else none
  have e : t_R4_inner q p = some (pArgT p) := inner_k (if_pos ⟨hd, hs, hc⟩) (by have := pTxt_size _ p (Nat.le_refl _) hc; omega)
  have hr : fuel R_R4_text (n + 2) 465 = A.wrap true [(.a [.k, .k, .k, (.s 4)])] .k (A.ar1 (r_R4_inner (fuel R_R4_text (n + 1)))) := rfl
  rw [hr]
  exact h_R4_inner (rc := fuel R_R4_text (n + 1)) q (fun x s r hx => by
   by_cases hp : 2 * pDeep x ≤ n ∧ pSize x ≤ 1000000 ∧ pChk x = 0
   ·have : q x = _ := if_pos hp
    rw [this] at hx; injection hx with hx; subst hx
    exact ih x s hp.1 hp.2.1 hp.2.2
   ·have : q x = none := if_neg hp
    rw [this] at hx; cases hx) e
 have main : ∀ (n : Nat) (p : PickD) (σ : Heap), 2 * pDeep p ≤ n → pSize p ≤ 1000000 → pChk p = 0 → fuel R_R4_text (n + 1) 466 [.agg (cPick p)] σ = some (.str (pTxt p), σ) := by
  intro n
  induction n using Nat.strongRecOn with
  | ind n ih =>
   intro p σ hd hs hc
   have h1 := pDeep_pos p
   obtain ⟨m, rfl⟩ : ∃ m, n = m + 2 := ⟨n - 2, by omega⟩
   have hda : ∀ x ∈ p.args, 2 * pDeep x ≤ m := fun x hx => by have := pDeeps_mem hx; rw [pDeep_eq] at hd; omega
   let qa : PickD → Option ByteArray := fun x => if 2 * pDeep x ≤ m ∧ pSize x ≤ 1000000 ∧ pChk x = 0 then some (pArgT x) else none
   let qt : PickD → Option ByteArray := fun x => if 2 * pDeep x ≤ m ∧ pSize x ≤ 1000000 ∧ pChk x = 0 then some (pTxt x) else none
   have hz : ∀ x ∈ p.args, 2 * pDeep x ≤ m ∧ pSize x ≤ 1000000 ∧ pChk x = 0 := fun x hx => ⟨hda x hx, by have := pSize_arg hx; omega, (pChk_zero hc).2 x hx⟩
   have e : t_R4_text qa qt p = some (pTxt p) := text4_k hc hs (fun x hx => if_pos (hz x hx)) (fun x hx => if_pos (hz x hx))
   have hr : fuel R_R4_text (m + 2 + 1) 466 = A.wrap true [(.a [.k, .k, .k, (.s 4)])] .k (A.ar1 (r_R4_text (fuel R_R4_text (m + 2)))) := rfl
   rw [hr]
   exact h_R4_text (rc := fuel R_R4_text (m + 2)) qa qt (fun x s r hx => by
    by_cases hp : 2 * pDeep x ≤ m ∧ pSize x ≤ 1000000 ∧ pChk x = 0
    ·have : qa x = _ := if_pos hp
     rw [this] at hx; injection hx with hx; subst hx
     exact texts m (ih m (by omega)) x s hp.1 hp.2.1 hp.2.2
    ·have : qa x = none := if_neg hp
     rw [this] at hx; cases hx) (fun x s r hx => by
    by_cases hp : 2 * pDeep x ≤ m ∧ pSize x ≤ 1000000 ∧ pChk x = 0
    ·have : qt x = _ := if_pos hp
     rw [this] at hx; injection hx with hx; subst hx
     exact ih (m + 1) (by omega) x s (by omega) hp.2.1 hp.2.2
    ·have : qt x = none := if_neg hp
     rw [this] at hx; cases hx) e
 exact fun n p σ hd hs hc => ⟨main n p σ hd hs hc, texts n (main n) p σ hd hs hc⟩
theorem text_m (p : PickD) (h : pSize p ≤ 900000 ∧ pChk p = 0) (σ : Heap) : m_pick_text [.agg (cPick p)] σ = some (.str (pTxt p), σ) := (text_t 1999999 p σ (by have := pDeep_size p; omega) (by omega) h.2).1
theorem text4_m (p : PickD) (h : pSize p ≤ 900000 ∧ pChk p = 0) (σ : Heap) : m_R4_text [.agg (cPick p)] σ = some (.str (pTxt p), σ) := (text4_t 1999999 p σ (by have := pDeep_size p; omega) (by omega) h.2).1
end Go.Proofs.YtkdafecbdncmiaaDoor

namespace Go.Proofs.YtkdafecbdncmiaaDoor
set_option linter.unusedSectionVars false
set_option linter.unusedVariables false
set_option linter.unusedSimpArgs false
set_option maxRecDepth 100000
noncomputable def t_pick_Print (a0 : PickD) : Option (ByteArray × Int) :=
 (t_pick_Check a0).bind fun r1 =>
 if ¬ (r1 = 0) then
  some ((⟨#[]⟩ : ByteArray), r1)
 else
 (tq (pSize a0 ≤ 900000 ∧ pChk a0 = 0) (pTxt a0)).bind fun r2 =>
 if 4000 < (r2.size : Int) then
  some ((⟨#[]⟩ : ByteArray), 2)
 else
 some (r2, 0)
theorem h_pick_Print {a0 : PickD} {σ : Heap} {r : (ByteArray × Int)} (h : t_pick_Print a0 = some r) : m_pick_Print [(AV.agg (cPick a0))] σ = some ((AV.tup [(AV.str r.1), (AV.int .i64 r.2)]), σ) := by
 refine rf_wrap1 (f := r_pick_Print) (y0 := (AV.agg (cPick a0))) (enc := fun r : (ByteArray × Int) => (AV.tup [(AV.str r.1), (AV.int .i64 r.2)])) (T := t_pick_Print a0) (by first | rfl | (simp only [cPick_eq]; rfl)) (by first | rfl | (simp only [cPick_eq]; rfl)) ?_ r h
 unfold r_pick_Print t_pick_Print
 refine rf_s (cPick a0) (by first | rfl | (simp only [cPick_eq]; rfl)) <| rf_s (AV.agg (cPick a0)) (by first | rfl | (simp only [cPick_eq]; rfl)) ?_
 refine rf_o (fun r1 : Int => ((AV.int .i64 r1), σ)) (fun r1 hr1 => h_pick_Check hr1) (fun r1 hr1 => ?_)
 refine rf_s _ (aNe _ _ _) ?_
 refine rf_c (p := ¬ (r1 = 0)) (fun c4 => ?_) (fun c4 => ?_)
 ·exact rf_fin _ (fin_same _ _) ⟨rfl, rfl⟩
 refine rf_s (AV.agg (cPick a0)) (by first | rfl | (simp only [cPick_eq]; rfl)) ?_
 refine rf_o (fun r2 : ByteArray => ((AV.str r2), σ)) (fun r2 hr2 => (tq_of (e := fun r : ByteArray => ((AV.str r), σ)) (fun hs => text_m a0 hs σ)) hr2) (fun r2 hr2 => ?_)
 refine rf_s (AV.int .i64 (r2.size : Int)) (by first | rfl | (simp only [cPick_eq]; rfl)) <| rf_s (AV.bool (decide (4000 < (r2.size : Int)))) (by first | rfl | (simp only [cPick_eq]; rfl)) ?_
 refine rf_c (p := 4000 < (r2.size : Int)) (fun c3 => ?_) (fun c3 => ?_)
 ·exact rf_fin _ (fin_same _ _) ⟨rfl, rfl⟩
 exact rf_fin _ (fin_same _ _) ⟨rfl, rfl⟩

noncomputable def t_R4_Print (a0 : PickD) : Option (ByteArray × Int) :=
 (t_R4_Check a0).bind fun r1 =>
 if ¬ (r1 = 0) then
  some ((⟨#[]⟩ : ByteArray), r1)
 else
 (tq (pSize a0 ≤ 900000 ∧ pChk a0 = 0) (pTxt a0)).bind fun r2 =>
 if 4000 < (r2.size : Int) then
  some ((⟨#[]⟩ : ByteArray), 2)
 else
 some (r2, 0)
theorem h_R4_Print {a0 : PickD} {σ : Heap} {r : (ByteArray × Int)} (h : t_R4_Print a0 = some r) : m_R4_Print [(AV.agg (cPick a0))] σ = some ((AV.tup [(AV.str r.1), (AV.int .i64 r.2)]), σ) := by
 refine rf_wrap1 (f := r_R4_Print) (y0 := (AV.agg (cPick a0))) (enc := fun r : (ByteArray × Int) => (AV.tup [(AV.str r.1), (AV.int .i64 r.2)])) (T := t_R4_Print a0) (by first | rfl | (simp only [cPick_eq]; rfl)) (by first | rfl | (simp only [cPick_eq]; rfl)) ?_ r h
 unfold r_R4_Print t_R4_Print
 refine rf_s (cPick a0) (by first | rfl | (simp only [cPick_eq]; rfl)) <| rf_s (AV.agg (cPick a0)) (by first | rfl | (simp only [cPick_eq]; rfl)) ?_
 refine rf_o (fun r1 : Int => ((AV.int .i64 r1), σ)) (fun r1 hr1 => h_R4_Check hr1) (fun r1 hr1 => ?_)
 refine rf_s _ (aNe _ _ _) ?_
 refine rf_c (p := ¬ (r1 = 0)) (fun c4 => ?_) (fun c4 => ?_)
 ·exact rf_fin _ (fin_same _ _) ⟨rfl, rfl⟩
 refine rf_s (AV.agg (cPick a0)) (by first | rfl | (simp only [cPick_eq]; rfl)) ?_
 refine rf_o (fun r2 : ByteArray => ((AV.str r2), σ)) (fun r2 hr2 => (tq_of (e := fun r : ByteArray => ((AV.str r), σ)) (fun hs => text4_m a0 hs σ)) hr2) (fun r2 hr2 => ?_)
 refine rf_s (AV.int .i64 (r2.size : Int)) (by first | rfl | (simp only [cPick_eq]; rfl)) <| rf_s (AV.bool (decide (4000 < (r2.size : Int)))) (by first | rfl | (simp only [cPick_eq]; rfl)) ?_
 refine rf_c (p := 4000 < (r2.size : Int)) (fun c3 => ?_) (fun c3 => ?_)
 ·exact rf_fin _ (fin_same _ _) ⟨rfl, rfl⟩
 exact rf_fin _ (fin_same _ _) ⟨rfl, rfl⟩

noncomputable def t_W4_PickChecksMatchSpec (a0 : PickD) : Option Bool :=
 (t_pick_Print a0).bind fun r1 =>
 (t_R4_Print a0).bind fun r2 =>
 (t_pick_Check a0).bind fun r3 =>
 (t_R4_Check a0).bind fun r4 =>
 some (((decide (r3 = r4)) && (decide (r1.1 = r2.1))) && (decide (r1.2 = r2.2)))
theorem h_W4_PickChecksMatchSpec {a0 : PickD} {σ : Heap} {r : Bool} (h : t_W4_PickChecksMatchSpec a0 = some r) : m_W4_PickChecksMatchSpec [(AV.agg (cPick a0))] σ = some ((AV.bool r), σ) := by
 refine rf_wrap1 (f := r_W4_PickChecksMatchSpec) (y0 := (AV.agg (cPick a0))) (enc := fun r : Bool => (AV.bool r)) (T := t_W4_PickChecksMatchSpec a0) (by first | rfl | (simp only [cPick_eq]; rfl)) (by first | rfl | (simp only [cPick_eq]; rfl)) ?_ r h
 unfold r_W4_PickChecksMatchSpec t_W4_PickChecksMatchSpec
 refine rf_s (cPick a0) (by first | rfl | (simp only [cPick_eq]; rfl)) <| rf_s (AV.agg (cPick a0)) (by first | rfl | (simp only [cPick_eq]; rfl)) ?_
 refine rf_o (fun r1 : (ByteArray × Int) => ((AV.tup [(AV.str r1.1), (AV.int .i64 r1.2)]), σ)) (fun r1 hr1 => h_pick_Print hr1) (fun r1 hr1 => ?_)
 refine rf_s (AV.str r1.1) (by first | rfl | (simp only [cPick_eq]; rfl)) <| rf_s (AV.int .i64 r1.2) (by first | rfl | (simp only [cPick_eq]; rfl)) <| rf_s (AV.agg (cPick a0)) (by first | rfl | (simp only [cPick_eq]; rfl)) ?_
 refine rf_o (fun r2 : (ByteArray × Int) => ((AV.tup [(AV.str r2.1), (AV.int .i64 r2.2)]), σ)) (fun r2 hr2 => h_R4_Print hr2) (fun r2 hr2 => ?_)
 refine rf_s (AV.str r2.1) (by first | rfl | (simp only [cPick_eq]; rfl)) <| rf_s (AV.int .i64 r2.2) (by first | rfl | (simp only [cPick_eq]; rfl)) <| rf_s (AV.agg (cPick a0)) (by first | rfl | (simp only [cPick_eq]; rfl)) ?_
 refine rf_o (fun r3 : Int => (AV.int .i64 r3)) (fun r3 hr3 => (quiet_of (h_pick_Check hr3))) (fun r3 hr3 => ?_)
 refine rf_s (AV.agg (cPick a0)) (by first | rfl | (simp only [cPick_eq]; rfl)) ?_
 refine rf_o (fun r4 : Int => (AV.int .i64 r4)) (fun r4 hr4 => (quiet_of (h_R4_Check hr4))) (fun r4 hr4 => ?_)
 refine rf_s _ (aEq _ _ _) <| rf_gt (AV.str r1.1) (fun hg => by first | rfl | (simp only [cPick_eq]; rfl)) <| rf_gt (AV.str r2.1) (fun hg => by first | rfl | (simp only [cPick_eq]; rfl)) <| rf_gt (AV.bool (decide (r1.1 = r2.1))) (fun hg => by (try rw [hg]); exact (aEqZ _ _)) <| rf_s _ (pk_and _ _) <| rf_gt (AV.int .i64 r1.2) (fun hg => by first | rfl | (simp only [cPick_eq]; rfl)) <| rf_gt (AV.int .i64 r2.2) (fun hg => by first | rfl | (simp only [cPick_eq]; rfl)) <| rf_gt (AV.bool (decide (r1.2 = r2.2))) (fun hg => by (try rw [hg]); exact (aEq _ _ _)) <| rf_s _ (pk_and _ _) ?_
 exact rf_fin _ (fin_same _ _) ⟨rfl, rfl⟩
end Go.Proofs.YtkdafecbdncmiaaDoor

namespace Go.Proofs.YtkdafecbdncmiaaDoor
set_option linter.unusedSectionVars false
set_option linter.unusedVariables false
set_option linter.unusedSimpArgs false
section
variable {f : Int → List Int} {V : List Int} {a n : Int}
end
theorem checkF_pk {p : PickD} (h : pSize p ≤ 2000000) : t_pick_Check p = some (checkF p) := by
 unfold t_pick_Check checkF
 rw [tq_pos h, tq_pos h, Option.bind_some, Option.bind_some]
 by_cases hc : 200 < pSize p ∨ 12 < pDeep p
 ·rw [if_pos hc, if_pos (by simp; omega)]
 ·rw [if_neg hc, if_neg (by simp; omega)]
theorem checkF_r4 {p : PickD} (h : pSize p ≤ 2000000) : t_R4_Check p = some (checkF p) := by
 unfold t_R4_Check checkF
 rw [tq_pos ⟨h, rfl⟩, tq_pos h, Option.bind_some, Option.bind_some]
 have hl := large_iff p
 by_cases hc : 200 < pSize p ∨ 12 < pDeep p
 ·rw [if_pos hc, if_pos (by have := hl.2 hc; simp; omega)]
 ·rw [if_neg hc, if_neg (by have := fun k => hc (hl.1 k); simp; omega)]
end Go.Proofs.YtkdafecbdncmiaaDoor

namespace Go.Proofs.YtkdafecbdncmiaaDoor
set_option linter.unusedSectionVars false
set_option linter.unusedVariables false
set_option linter.unusedSimpArgs false
def printF (p : PickD) : ByteArray × Int := if ¬ checkF p = 0 then ((⟨#[]⟩ : ByteArray), checkF p) else if 4000 < ((pTxt p).size : Int) then ((⟨#[]⟩ : ByteArray), 2) else (pTxt p, 0)
theorem checkF_zero {p : PickD} (h : checkF p = 0) : pSize p ≤ 200 ∧ pDeep p ≤ 12 ∧ pChk p = 0 := by
 unfold checkF at h
 split at h
 ·cases h
 ·exact ⟨by omega, by omega, h⟩
theorem print_pk {p : PickD} (h : pSize p ≤ 2000000) : t_pick_Print p = some (printF p) := by
 unfold t_pick_Print printF
 rw [checkF_pk h, Option.bind_some]
 by_cases hc : checkF p = 0
 ·rw [if_neg (fun k => k hc), if_neg (fun k => k hc), tq_pos ⟨by have := (checkF_zero hc).1; omega, (checkF_zero hc).2.2⟩, Option.bind_some]
  split <;> rfl
 ·rw [if_pos hc, if_pos hc]
theorem print_r4 {p : PickD} (h : pSize p ≤ 2000000) : t_R4_Print p = some (printF p) := by
 unfold t_R4_Print printF
 rw [checkF_r4 h, Option.bind_some]
 by_cases hc : checkF p = 0
 ·rw [if_neg (fun k => k hc), if_neg (fun k => k hc), tq_pos ⟨by have := (checkF_zero hc).1; omega, (checkF_zero hc).2.2⟩, Option.bind_some]
  split <;> rfl
 ·rw [if_pos hc, if_pos hc]
theorem pickChecksMatchSpec_true (p : PickD) (h : pSize p ≤ 2000000) : t_W4_PickChecksMatchSpec p = some true := by
 unfold t_W4_PickChecksMatchSpec
 simp only [print_pk h, print_r4 h, checkF_pk h, checkF_r4 h, Option.bind_some, decide_true, Bool.and_self]
end Go.Proofs.YtkdafecbdncmiaaDoor

namespace Go.Proofs.YtkdafecbdncmiaaDoor
set_option linter.unusedSectionVars false
open Go.RowKit
set_option linter.unusedVariables false
set_option linter.unusedSimpArgs false

def Gr (w w' : World) : Prop := Below w.heap.size w w'
theorem Gr.cell {a b : World} (h : Gr a b) {p : Addr} {v : Value} (hc : a.cell? p = some v) : b.cell? p = some v := by
 by_cases hp : p.block < a.heap.size
 ·rw [Below.cell h hp]; exact hc
 ·have : a.heap[p.block]? = none := Array.getElem?_eq_none (by omega)
  simp [World.cell?, this] at hc
abbrev Box1 (w : World) (b : Nat) (v0 : Value) : Prop := (w.cell? ⟨b, 0, none⟩ = some v0) ∧ (w.frozen? ⟨b, 0, none⟩ = false) ∧ b < w.heap.size
abbrev Box2 (w : World) (b : Nat) (v0 v1 : Value) : Prop := (w.cell? ⟨b, 0, none⟩ = some v0 ∧ w.cell? ⟨b, 1, none⟩ = some v1) ∧ (w.frozen? ⟨b, 0, none⟩ = false ∧ w.frozen? ⟨b, 1, none⟩ = false) ∧ b < w.heap.size
abbrev Box3 (w : World) (b : Nat) (v0 v1 v2 : Value) : Prop := (w.cell? ⟨b, 0, none⟩ = some v0 ∧ w.cell? ⟨b, 1, none⟩ = some v1 ∧ w.cell? ⟨b, 2, none⟩ = some v2) ∧ (w.frozen? ⟨b, 0, none⟩ = false ∧ w.frozen? ⟨b, 1, none⟩ = false ∧ w.frozen? ⟨b, 2, none⟩ = false) ∧ b < w.heap.size
abbrev Box4 (w : World) (b : Nat) (v0 v1 v2 v3 : Value) : Prop := (w.cell? ⟨b, 0, none⟩ = some v0 ∧ w.cell? ⟨b, 1, none⟩ = some v1 ∧ w.cell? ⟨b, 2, none⟩ = some v2 ∧ w.cell? ⟨b, 3, none⟩ = some v3) ∧ (w.frozen? ⟨b, 0, none⟩ = false ∧ w.frozen? ⟨b, 1, none⟩ = false ∧ w.frozen? ⟨b, 2, none⟩ = false ∧ w.frozen? ⟨b, 3, none⟩ = false) ∧ b < w.heap.size
abbrev Box5 (w : World) (b : Nat) (v0 v1 v2 v3 v4 : Value) : Prop := (w.cell? ⟨b, 0, none⟩ = some v0 ∧ w.cell? ⟨b, 1, none⟩ = some v1 ∧ w.cell? ⟨b, 2, none⟩ = some v2 ∧ w.cell? ⟨b, 3, none⟩ = some v3 ∧ w.cell? ⟨b, 4, none⟩ = some v4) ∧ (w.frozen? ⟨b, 0, none⟩ = false ∧ w.frozen? ⟨b, 1, none⟩ = false ∧ w.frozen? ⟨b, 2, none⟩ = false ∧ w.frozen? ⟨b, 3, none⟩ = false ∧ w.frozen? ⟨b, 4, none⟩ = false) ∧ b < w.heap.size
abbrev Box6 (w : World) (b : Nat) (v0 v1 v2 v3 v4 v5 : Value) : Prop := (w.cell? ⟨b, 0, none⟩ = some v0 ∧ w.cell? ⟨b, 1, none⟩ = some v1 ∧ w.cell? ⟨b, 2, none⟩ = some v2 ∧ w.cell? ⟨b, 3, none⟩ = some v3 ∧ w.cell? ⟨b, 4, none⟩ = some v4 ∧ w.cell? ⟨b, 5, none⟩ = some v5) ∧ (w.frozen? ⟨b, 0, none⟩ = false ∧ w.frozen? ⟨b, 1, none⟩ = false ∧ w.frozen? ⟨b, 2, none⟩ = false ∧ w.frozen? ⟨b, 3, none⟩ = false ∧ w.frozen? ⟨b, 4, none⟩ = false ∧ w.frozen? ⟨b, 5, none⟩ = false) ∧ b < w.heap.size
abbrev Box7 (w : World) (b : Nat) (v0 v1 v2 v3 v4 v5 v6 : Value) : Prop := (w.cell? ⟨b, 0, none⟩ = some v0 ∧ w.cell? ⟨b, 1, none⟩ = some v1 ∧ w.cell? ⟨b, 2, none⟩ = some v2 ∧ w.cell? ⟨b, 3, none⟩ = some v3 ∧ w.cell? ⟨b, 4, none⟩ = some v4 ∧ w.cell? ⟨b, 5, none⟩ = some v5 ∧ w.cell? ⟨b, 6, none⟩ = some v6) ∧ (w.frozen? ⟨b, 0, none⟩ = false ∧ w.frozen? ⟨b, 1, none⟩ = false ∧ w.frozen? ⟨b, 2, none⟩ = false ∧ w.frozen? ⟨b, 3, none⟩ = false ∧ w.frozen? ⟨b, 4, none⟩ = false ∧ w.frozen? ⟨b, 5, none⟩ = false ∧ w.frozen? ⟨b, 6, none⟩ = false) ∧ b < w.heap.size
abbrev Box8 (w : World) (b : Nat) (v0 v1 v2 v3 v4 v5 v6 v7 : Value) : Prop := (w.cell? ⟨b, 0, none⟩ = some v0 ∧ w.cell? ⟨b, 1, none⟩ = some v1 ∧ w.cell? ⟨b, 2, none⟩ = some v2 ∧ w.cell? ⟨b, 3, none⟩ = some v3 ∧ w.cell? ⟨b, 4, none⟩ = some v4 ∧ w.cell? ⟨b, 5, none⟩ = some v5 ∧ w.cell? ⟨b, 6, none⟩ = some v6 ∧ w.cell? ⟨b, 7, none⟩ = some v7) ∧ (w.frozen? ⟨b, 0, none⟩ = false ∧ w.frozen? ⟨b, 1, none⟩ = false ∧ w.frozen? ⟨b, 2, none⟩ = false ∧ w.frozen? ⟨b, 3, none⟩ = false ∧ w.frozen? ⟨b, 4, none⟩ = false ∧ w.frozen? ⟨b, 5, none⟩ = false ∧ w.frozen? ⟨b, 6, none⟩ = false ∧ w.frozen? ⟨b, 7, none⟩ = false) ∧ b < w.heap.size
abbrev Box9 (w : World) (b : Nat) (v0 v1 v2 v3 v4 v5 v6 v7 v8 : Value) : Prop := (w.cell? ⟨b, 0, none⟩ = some v0 ∧ w.cell? ⟨b, 1, none⟩ = some v1 ∧ w.cell? ⟨b, 2, none⟩ = some v2 ∧ w.cell? ⟨b, 3, none⟩ = some v3 ∧ w.cell? ⟨b, 4, none⟩ = some v4 ∧ w.cell? ⟨b, 5, none⟩ = some v5 ∧ w.cell? ⟨b, 6, none⟩ = some v6 ∧ w.cell? ⟨b, 7, none⟩ = some v7 ∧ w.cell? ⟨b, 8, none⟩ = some v8) ∧ (w.frozen? ⟨b, 0, none⟩ = false ∧ w.frozen? ⟨b, 1, none⟩ = false ∧ w.frozen? ⟨b, 2, none⟩ = false ∧ w.frozen? ⟨b, 3, none⟩ = false ∧ w.frozen? ⟨b, 4, none⟩ = false ∧ w.frozen? ⟨b, 5, none⟩ = false ∧ w.frozen? ⟨b, 6, none⟩ = false ∧ w.frozen? ⟨b, 7, none⟩ = false ∧ w.frozen? ⟨b, 8, none⟩ = false) ∧ b < w.heap.size
abbrev Box10 (w : World) (b : Nat) (v0 v1 v2 v3 v4 v5 v6 v7 v8 v9 : Value) : Prop := (w.cell? ⟨b, 0, none⟩ = some v0 ∧ w.cell? ⟨b, 1, none⟩ = some v1 ∧ w.cell? ⟨b, 2, none⟩ = some v2 ∧ w.cell? ⟨b, 3, none⟩ = some v3 ∧ w.cell? ⟨b, 4, none⟩ = some v4 ∧ w.cell? ⟨b, 5, none⟩ = some v5 ∧ w.cell? ⟨b, 6, none⟩ = some v6 ∧ w.cell? ⟨b, 7, none⟩ = some v7 ∧ w.cell? ⟨b, 8, none⟩ = some v8 ∧ w.cell? ⟨b, 9, none⟩ = some v9) ∧ (w.frozen? ⟨b, 0, none⟩ = false ∧ w.frozen? ⟨b, 1, none⟩ = false ∧ w.frozen? ⟨b, 2, none⟩ = false ∧ w.frozen? ⟨b, 3, none⟩ = false ∧ w.frozen? ⟨b, 4, none⟩ = false ∧ w.frozen? ⟨b, 5, none⟩ = false ∧ w.frozen? ⟨b, 6, none⟩ = false ∧ w.frozen? ⟨b, 7, none⟩ = false ∧ w.frozen? ⟨b, 8, none⟩ = false ∧ w.frozen? ⟨b, 9, none⟩ = false) ∧ b < w.heap.size
abbrev Box11 (w : World) (b : Nat) (v0 v1 v2 v3 v4 v5 v6 v7 v8 v9 v10 : Value) : Prop := (w.cell? ⟨b, 0, none⟩ = some v0 ∧ w.cell? ⟨b, 1, none⟩ = some v1 ∧ w.cell? ⟨b, 2, none⟩ = some v2 ∧ w.cell? ⟨b, 3, none⟩ = some v3 ∧ w.cell? ⟨b, 4, none⟩ = some v4 ∧ w.cell? ⟨b, 5, none⟩ = some v5 ∧ w.cell? ⟨b, 6, none⟩ = some v6 ∧ w.cell? ⟨b, 7, none⟩ = some v7 ∧ w.cell? ⟨b, 8, none⟩ = some v8 ∧ w.cell? ⟨b, 9, none⟩ = some v9 ∧ w.cell? ⟨b, 10, none⟩ = some v10) ∧ (w.frozen? ⟨b, 0, none⟩ = false ∧ w.frozen? ⟨b, 1, none⟩ = false ∧ w.frozen? ⟨b, 2, none⟩ = false ∧ w.frozen? ⟨b, 3, none⟩ = false ∧ w.frozen? ⟨b, 4, none⟩ = false ∧ w.frozen? ⟨b, 5, none⟩ = false ∧ w.frozen? ⟨b, 6, none⟩ = false ∧ w.frozen? ⟨b, 7, none⟩ = false ∧ w.frozen? ⟨b, 8, none⟩ = false ∧ w.frozen? ⟨b, 9, none⟩ = false ∧ w.frozen? ⟨b, 10, none⟩ = false) ∧ b < w.heap.size
abbrev Box12 (w : World) (b : Nat) (v0 v1 v2 v3 v4 v5 v6 v7 v8 v9 v10 v11 : Value) : Prop := (w.cell? ⟨b, 0, none⟩ = some v0 ∧ w.cell? ⟨b, 1, none⟩ = some v1 ∧ w.cell? ⟨b, 2, none⟩ = some v2 ∧ w.cell? ⟨b, 3, none⟩ = some v3 ∧ w.cell? ⟨b, 4, none⟩ = some v4 ∧ w.cell? ⟨b, 5, none⟩ = some v5 ∧ w.cell? ⟨b, 6, none⟩ = some v6 ∧ w.cell? ⟨b, 7, none⟩ = some v7 ∧ w.cell? ⟨b, 8, none⟩ = some v8 ∧ w.cell? ⟨b, 9, none⟩ = some v9 ∧ w.cell? ⟨b, 10, none⟩ = some v10 ∧ w.cell? ⟨b, 11, none⟩ = some v11) ∧ (w.frozen? ⟨b, 0, none⟩ = false ∧ w.frozen? ⟨b, 1, none⟩ = false ∧ w.frozen? ⟨b, 2, none⟩ = false ∧ w.frozen? ⟨b, 3, none⟩ = false ∧ w.frozen? ⟨b, 4, none⟩ = false ∧ w.frozen? ⟨b, 5, none⟩ = false ∧ w.frozen? ⟨b, 6, none⟩ = false ∧ w.frozen? ⟨b, 7, none⟩ = false ∧ w.frozen? ⟨b, 8, none⟩ = false ∧ w.frozen? ⟨b, 9, none⟩ = false ∧ w.frozen? ⟨b, 10, none⟩ = false ∧ w.frozen? ⟨b, 11, none⟩ = false) ∧ b < w.heap.size
abbrev Box13 (w : World) (b : Nat) (v0 v1 v2 v3 v4 v5 v6 v7 v8 v9 v10 v11 v12 : Value) : Prop := (w.cell? ⟨b, 0, none⟩ = some v0 ∧ w.cell? ⟨b, 1, none⟩ = some v1 ∧ w.cell? ⟨b, 2, none⟩ = some v2 ∧ w.cell? ⟨b, 3, none⟩ = some v3 ∧ w.cell? ⟨b, 4, none⟩ = some v4 ∧ w.cell? ⟨b, 5, none⟩ = some v5 ∧ w.cell? ⟨b, 6, none⟩ = some v6 ∧ w.cell? ⟨b, 7, none⟩ = some v7 ∧ w.cell? ⟨b, 8, none⟩ = some v8 ∧ w.cell? ⟨b, 9, none⟩ = some v9 ∧ w.cell? ⟨b, 10, none⟩ = some v10 ∧ w.cell? ⟨b, 11, none⟩ = some v11 ∧ w.cell? ⟨b, 12, none⟩ = some v12) ∧ (w.frozen? ⟨b, 0, none⟩ = false ∧ w.frozen? ⟨b, 1, none⟩ = false ∧ w.frozen? ⟨b, 2, none⟩ = false ∧ w.frozen? ⟨b, 3, none⟩ = false ∧ w.frozen? ⟨b, 4, none⟩ = false ∧ w.frozen? ⟨b, 5, none⟩ = false ∧ w.frozen? ⟨b, 6, none⟩ = false ∧ w.frozen? ⟨b, 7, none⟩ = false ∧ w.frozen? ⟨b, 8, none⟩ = false ∧ w.frozen? ⟨b, 9, none⟩ = false ∧ w.frozen? ⟨b, 10, none⟩ = false ∧ w.frozen? ⟨b, 11, none⟩ = false ∧ w.frozen? ⟨b, 12, none⟩ = false) ∧ b < w.heap.size
abbrev Box14 (w : World) (b : Nat) (v0 v1 v2 v3 v4 v5 v6 v7 v8 v9 v10 v11 v12 v13 : Value) : Prop := (w.cell? ⟨b, 0, none⟩ = some v0 ∧ w.cell? ⟨b, 1, none⟩ = some v1 ∧ w.cell? ⟨b, 2, none⟩ = some v2 ∧ w.cell? ⟨b, 3, none⟩ = some v3 ∧ w.cell? ⟨b, 4, none⟩ = some v4 ∧ w.cell? ⟨b, 5, none⟩ = some v5 ∧ w.cell? ⟨b, 6, none⟩ = some v6 ∧ w.cell? ⟨b, 7, none⟩ = some v7 ∧ w.cell? ⟨b, 8, none⟩ = some v8 ∧ w.cell? ⟨b, 9, none⟩ = some v9 ∧ w.cell? ⟨b, 10, none⟩ = some v10 ∧ w.cell? ⟨b, 11, none⟩ = some v11 ∧ w.cell? ⟨b, 12, none⟩ = some v12 ∧ w.cell? ⟨b, 13, none⟩ = some v13) ∧ (w.frozen? ⟨b, 0, none⟩ = false ∧ w.frozen? ⟨b, 1, none⟩ = false ∧ w.frozen? ⟨b, 2, none⟩ = false ∧ w.frozen? ⟨b, 3, none⟩ = false ∧ w.frozen? ⟨b, 4, none⟩ = false ∧ w.frozen? ⟨b, 5, none⟩ = false ∧ w.frozen? ⟨b, 6, none⟩ = false ∧ w.frozen? ⟨b, 7, none⟩ = false ∧ w.frozen? ⟨b, 8, none⟩ = false ∧ w.frozen? ⟨b, 9, none⟩ = false ∧ w.frozen? ⟨b, 10, none⟩ = false ∧ w.frozen? ⟨b, 11, none⟩ = false ∧ w.frozen? ⟨b, 12, none⟩ = false ∧ w.frozen? ⟨b, 13, none⟩ = false) ∧ b < w.heap.size
end Go.Proofs.YtkdafecbdncmiaaDoor

namespace Go.Proofs.YtkdafecbdncmiaaDoor
set_option linter.unusedSectionVars false
open Go.RowKit Go.Deep
set_option linter.unusedVariables false
set_option linter.unusedSimpArgs false

structure Cod (α : Type) where
 size : Nat
 is : World → List Value → α → Prop
 len : ∀ {w cs a}, is w cs a → cs.length = size
 mono : ∀ {w w' cs a}, is w cs a → Gr w w' → is w' cs a
 bulk : α → Nat

def intC : Cod Int where
 size := 1
 is := fun _ cs n => cs = [.int .i64 n] ∧ -9223372036854775808 ≤ n ∧ n ≤ 9223372036854775807
 len := fun h => by rw [h.1]; rfl
 mono := fun h _ => h
 bulk := fun _ => 1
def Cod.pair {α β : Type} (c : Cod α) (d : Cod β) : Cod (α × β) where
 size := c.size + d.size
 is := fun w cs x => c.is w (cs.take c.size) x.1 ∧ d.is w (cs.drop c.size) x.2
 len := fun {w cs a} h => by
  have h1 := c.len h.1
  have h2 := d.len h.2
  simp at h1 h2
  omega
 mono := fun h g => ⟨c.mono h.1 g, d.mono h.2 g⟩
 bulk := fun x => c.bulk x.1 + d.bulk x.2
def sliceC {α : Type} (c : Cod α) : Cod (List α) where
 size := 1
 is := fun w cs l => (cs = [.slice none 0 0] ∧ l = []) ∨ ∃ (b off : Nat) (sp : Option Nat) (cap : Nat), cs = [.slice (some ⟨b, off, sp⟩) l.length cap] ∧ l.length ≤ cap ∧ l.length ≤ maxLen ∧
  ∀ i (h : i < l.length), sp = none ∧ ∃ cs', (∀ j, j < c.size → w.cell? ⟨b, off + (i * c.size + j), none⟩ = cs'[j]?) ∧ c.is w cs' l[i]
 len := fun h => by
  rcases h with ⟨rfl, _⟩ | ⟨b, off, sp, cap, rfl, _⟩ <;> rfl
 mono := fun {w w' cs l} h g => by
  rcases h with h | ⟨b, off, sp, cap, h1, h2, h3, h4⟩
  ·exact .inl h
  ·refine .inr ⟨b, off, sp, cap, h1, h2, h3, fun i hi => ?_⟩
   obtain ⟨e, cs', h5, h6⟩ := h4 i hi
   refine ⟨e, cs', fun j hj => ?_, c.mono h6 g⟩
   have h7 := h5 j hj
   have hl := c.len h6
   rw [List.getElem?_eq_getElem (by omega)] at h7 ⊢
   exact g.cell h7
 bulk := fun l => (l.map c.bulk).sum + 1

def ReadsF {α : Type} (F : Nat → Prop) (P : Program) (c : Cod α) (t : TypeId) : Prop :=
 ∀ ⦃H : Type⦄ ⦃enc : TypeId × Value → H⦄ ⦃w : World⦄ ⦃base : Nat⦄ ⦃spare : Nat → Bool⦄ ⦃held : Bool⦄ ⦃fuel : Nat⦄ ⦃cs : List Value⦄ ⦃x : DataW H × List MemPlace⦄, F fuel →
  DataW.trod enc P w base spare held fuel t cs = some x → ∃ a, c.is w cs a ∧ c.bulk a ≤ Rows.uptoBulk x.1
theorem bulkAll_sum {H : Type} (l : List (DataW H)) : Rows.uptoBulkAll l = (l.map Rows.uptoBulk).sum := by
 induction l with
 | nil => rfl
 | cons x r ih => simp only [Rows.uptoBulkAll, List.map_cons, List.sum_cons, ih]
theorem sum_le_range {α : Type} (f : α → Nat) (D : Nat → Nat) : ∀ (l : List α) (o : Nat), (∀ i (h : i < l.length), f l[i] ≤ D (o + i)) → (l.map f).sum ≤ ((List.range' o l.length).map D).sum
 | [], _, _ => by simp
 | x :: r, o, h => by
  simp only [List.length_cons, List.range'_succ, List.map_cons, List.sum_cons]
  have h0 := h 0 (by simp)
  have := sum_le_range f D r (o + 1) (fun i hi => by have := h (i + 1) (by simp; omega); simp only [List.getElem_cons_succ] at this; rw [show o + 1 + i = o + (i + 1) by omega]; exact this)
  simp at h0
  omega

theorem wf_i64 {n : Int} (h : (Lit.int .i64 n).wf = true) : -9223372036854775808 ≤ n ∧ n ≤ 9223372036854775807 := by
 simpa [Lit.wf, IntKind.min, IntKind.max, IntKind.signed, IntKind.bits] using h
theorem bulk_pos {H : Type} (d : DataW H) : 1 ≤ Rows.uptoBulk d := by
 cases d with
 | lit l => cases l <;> simp [Rows.uptoBulk]
 | _ => simp [Rows.uptoBulk]
theorem reads_int {F : Nat → Prop} {P : Program} {t : TypeId} (ht : P.underlying t = some (.int .i64)) : ReadsF F P intC t := by
 intro H enc w base spare held fuel cs x _ h
 obtain ⟨n, rfl, _, hw⟩ := DataW.trod_int ht h
 exact ⟨n, ⟨rfl, wf_i64 hw⟩, bulk_pos _⟩
theorem reads_slice {F : Nat → Prop} {P : Program} {α : Type} {c : Cod α} {t e : TypeId} (ht : P.underlying t = some (.slice e)) (hz : P.cellsOf e = c.size) (hp : 0 < c.size) (hr : ReadsF (fun m => F (m + 1)) P c e) : ReadsF F P (sliceC c) t := by
 intro H enc w base spare held fuel cs x hF h
 rcases DataW.trod_slice ht h with ⟨rfl, rfl⟩ | ⟨a, len, cap, elems, rest, n, hfu, rfl, hxe, hb, hl, hm, hlen, hel, h8, h9⟩
 ·exact ⟨[], .inl ⟨rfl, rfl⟩, by simp [sliceC, Rows.uptoBulk]⟩
 ·obtain ⟨D, hD⟩ : ∃ D : Nat → DataW H, D = fun i => (elems.getD i (.nil, [])).1 := ⟨_, rfl⟩
  have key : ∀ i, i < len → ∃ (y : α) (cs' : List Value), (∀ j, j < c.size → w.cell? (a.add (i * c.size + j)) = cs'[j]?) ∧ c.is w cs' y ∧ c.bulk y ≤ Rows.uptoBulk (D i) := by
   intro i hi
   have hk := hel i hi
   rw [List.getElem?_eq_getElem (by omega)] at hk
   obtain ⟨cs', h1, h2⟩ := Option.bind_eq_some_iff.1 hk
   obtain ⟨y, hy, hyb⟩ := hr (by subst hfu; exact hF) h2
   have hyb : c.bulk y ≤ Rows.uptoBulk (D i) := by
    rw [hD]
    simpa [List.getD, List.getElem?_eq_getElem (show i < elems.length by omega)] using hyb
   obtain ⟨_, h3, h4⟩ := World.cells?_some h1
   refine ⟨y, cs', fun j hj => ?_, hy, hyb⟩
   have := h4 j (by rw [hz]; exact hj)
   rw [hz] at this
   rw [← this, add_add]
  obtain ⟨ys, hys⟩ : ∃ ys : List α, ys.length = len ∧ ∀ i (h : i < ys.length), c.bulk ys[i] ≤ Rows.uptoBulk (D i) ∧ ∃ cs', (∀ j, j < c.size → w.cell? (a.add (i * c.size + j)) = cs'[j]?) ∧ c.is w cs' ys[i] := by
   clear hel hlen h hl hxe h8 h9
   induction len with
   | zero => exact ⟨[], rfl, fun i h => by simp at h⟩
   | succ k ih =>
    obtain ⟨ys, h1, h2⟩ := ih (fun i hi => key i (by omega))
    obtain ⟨y, cs', h3, h4, h4b⟩ := key k (by omega)
    refine ⟨ys ++ [y], by simp [h1], fun i hi => ?_⟩
    by_cases hk : i < ys.length
    ·rw [List.getElem_append_left hk]; exact h2 i hk
    ·have : i = k := by simp at hi; omega
     subst this
     rw [List.getElem_append_right (by omega)]
     simp only [h1, Nat.sub_self, List.getElem_cons_zero]
     exact ⟨h4b, cs', h3, h4⟩
  obtain ⟨h1, h2⟩ := hys
  obtain ⟨b, off, sp⟩ := a
  refine ⟨ys, .inr ⟨b, off, sp, cap, by rw [h1], by omega, Nat.le_trans (show ys.length ≤ cap by omega) hm, fun i hi => ?_⟩, ?_⟩
  ·have hs : sp = none := by
    cases sp with
    | none => rfl
    | some q =>
     exfalso
     obtain ⟨_, cs', h3, h4⟩ := h2 0 (by omega)
     have h5 := h3 0 hp
     have hl := c.len h4
     rw [List.getElem?_eq_getElem (by omega)] at h5
     simp only [Nat.zero_mul, Nat.zero_add, World.cell?, Addr.add] at h5
     split at h5 <;> simp at h5
   obtain ⟨_, cs', h3, h4⟩ := h2 i hi
   subst hs
   refine ⟨rfl, cs', fun j hj => ?_, h4⟩
   have h6 := h3 j hj
   rw [← h6]
   congr 1
   simp only [Addr.add]
   split
   ·rename_i h7; simp only [h7, Nat.add_zero]
   ·rfl
  ·subst hxe
   simp only [sliceC, Rows.uptoBulk, bulkAll_sum, List.map_map]
   have := sum_le_range c.bulk (fun i => Rows.uptoBulk (D i)) ys 0 (fun i hi => by simpa using (h2 i hi).1)
   rw [h1, ← List.range_eq_range'] at this
   have e : List.map (Rows.uptoBulk ∘ fun x => x.1) elems = List.map (fun i => Rows.uptoBulk (D i)) (List.range len) := by
    rw [← hlen, hD]
    apply List.ext_getElem (by simp)
    intro i h3 h4
    simp at h3
    simp [List.getD, List.getElem?_eq_getElem h3]
   rw [e]
   omega
theorem take_drop_all {α : Type} (l : List α) (o n : Nat) (h : l.length = o + n) : (l.drop o).take n = l.drop o := List.take_of_length_le (by simp; omega)

theorem list_of_len4 {α : Type} (l : List α) (h : l.length = 4) : ∃ x0 x1 x2 x3, l = [x0, x1, x2, x3] := by
 match l, h with
 | [x0, x1, x2, x3], _ => exact ⟨x0, x1, x2, x3, rfl⟩
theorem reads_struct4 {F : Nat → Prop} {P : Program} {α0 α1 α2 α3 : Type} {t : TypeId} {f0 f1 f2 f3 : Field} {c0 : Cod α0} {c1 : Cod α1} {c2 : Cod α2} {c3 : Cod α3} (ht : P.underlying t = some (.struct #[f0, f1, f2, f3])) (hz : P.cellsOf t = c0.size + c1.size + c2.size + c3.size) (o0 : f0.offset = 0) (o1 : f1.offset = c0.size) (o2 : f2.offset = c0.size + c1.size) (o3 : f3.offset = c0.size + c1.size + c2.size) (z0 : P.cellsOf f0.type = c0.size) (z1 : P.cellsOf f1.type = c1.size) (z2 : P.cellsOf f2.type = c2.size) (z3 : P.cellsOf f3.type = c3.size) (r0 : ReadsF (fun m => F (m + 1)) P c0 f0.type) (r1 : ReadsF (fun m => F (m + 1)) P c1 f1.type) (r2 : ReadsF (fun m => F (m + 1)) P c2 f2.type) (r3 : ReadsF (fun m => F (m + 1)) P c3 f3.type) : ReadsF F P (c0.pair (c1.pair (c2.pair c3))) t := by
 intro H enc w base spare held fuel cs x hF h
 obtain ⟨xs, m, hfu, hxx, hlen, hxl, hf⟩ := DataW.trod_struct ht h
 rw [hz] at hlen
 have hxl : xs.length = 4 := hxl
 have h0 := hf 0 f0 rfl
 rw [o0, z0, List.getElem?_eq_getElem (show 0 < xs.length by omega)] at h0
 obtain ⟨a0, k0, b0⟩ := r0 (by subst hfu; exact hF) h0
 have h1 := hf 1 f1 rfl
 rw [o1, z1, List.getElem?_eq_getElem (show 1 < xs.length by omega)] at h1
 obtain ⟨a1, k1, b1⟩ := r1 (by subst hfu; exact hF) h1
 have h2 := hf 2 f2 rfl
 rw [o2, z2, List.getElem?_eq_getElem (show 2 < xs.length by omega)] at h2
 obtain ⟨a2, k2, b2⟩ := r2 (by subst hfu; exact hF) h2
 have h3 := hf 3 f3 rfl
 rw [o3, z3, List.getElem?_eq_getElem (show 3 < xs.length by omega)] at h3
 obtain ⟨a3, k3, b3⟩ := r3 (by subst hfu; exact hF) h3
 rw [take_drop_all cs (c0.size + c1.size + c2.size) c3.size (by omega)] at k3
 refine ⟨(a0, (a1, (a2, a3))), ?_, ?_⟩
 ·exact ⟨by simpa using k0, ⟨by simpa [List.drop_drop, Nat.add_assoc] using k1, ⟨by simpa [List.drop_drop, Nat.add_assoc] using k2, (by simpa [List.drop_drop, Nat.add_assoc] using k3)⟩⟩⟩
 ·subst hxx
  simp only [Rows.uptoBulk, bulkAll_sum, Cod.pair]
  have hs : (List.map Rows.uptoBulk (xs.map (·.1))).sum = Rows.uptoBulk xs[0].1 + (Rows.uptoBulk xs[1].1 + (Rows.uptoBulk xs[2].1 + (Rows.uptoBulk xs[3].1))) := by
   obtain ⟨x0, x1, x2, x3, rfl⟩ := list_of_len4 xs hxl
   simp
  rw [hs]
  exact Nat.le_succ_of_le (Nat.add_le_add b0 (Nat.add_le_add b1 (Nat.add_le_add b2 b3)))
end Go.Proofs.YtkdafecbdncmiaaDoor

namespace Go.Proofs.YtkdafecbdncmiaaDoor
set_option linter.unusedSectionVars false
open Go.RowKit Go.Deep
set_option linter.unusedVariables false
set_option linter.unusedSimpArgs false

theorem cells_split {α : Type} {cs a b : List α} {n : Nat} (h1 : cs.take n = a) (h2 : cs.drop n = b) : cs = a ++ b := by rw [← h1, ← h2, List.take_append_drop]
end Go.Proofs.YtkdafecbdncmiaaDoor

namespace Go.Proofs.YtkdafecbdncmiaaDoor
set_option linter.unusedSectionVars false
open Go.RowKit Go.Deep
set_option linter.unusedVariables false
set_option linter.unusedSimpArgs false
def pickC : Nat → Cod PickD
 | 0 => { size := 4, is := fun _ _ _ => False, len := fun h => h.elim, mono := fun h _ => h.elim, bulk := fun _ => 0 }
 | n + 1 => { size := 4, is := fun w cs x => ∃ v : Value, cs = [.int .i64 x.kind, .int .i64 x.from_, .int .i64 x.to_, v] ∧ inI x.kind ∧ inI x.from_ ∧ inI x.to_ ∧ (sliceC (pickC n)).is w [v] x.args, len := fun h => (by obtain ⟨v, rfl, _⟩ := h; rfl), mono := fun {w w' cs x} h g => (by obtain ⟨v, e, h0, h1, h2, h3⟩ := h; exact ⟨v, e, h0, h1, h2, (sliceC (pickC n)).mono h3 g⟩), bulk := fun x => intC.bulk x.kind + (intC.bulk x.from_ + (intC.bulk x.to_ + (sliceC (pickC n)).bulk x.args)) }
theorem pickC_size (n : Nat) : (pickC n).size = 4 := by cases n <;> rfl
theorem reads_pick : ∀ n : Nat, ReadsF (fun m => m ≤ n) Tryd.prog (pickC n) 24
 | 0 => by
  intro H enc w base spare held fuel cs x hF h
  obtain rfl : fuel = 0 := Nat.le_zero.1 hF
  simp [DataW.trod] at h
 | n + 1 => by
  intro H enc w base spare held fuel cs x hF h
  have hs : ReadsF (fun m => m ≤ n) Tryd.prog (sliceC (pickC n)) 22 := by
   have hr := reads_pick n
   exact reads_slice Tryd.underlying22 (c := pickC n) (by rw [pickC_size]; kernel_rfl) (by rw [pickC_size]; decide) (fun H enc w base spare held fuel cs x hF h => hr (show fuel ≤ n by have : fuel + 1 ≤ n := hF; omega) h)
  obtain ⟨a, h1, hb⟩ := (reads_struct4 (F := fun m => m ≤ n + 1) Tryd.underlying24 (c0 := intC) (c1 := intC) (c2 := intC) (c3 := sliceC (pickC n)) (by kernel_rfl) rfl rfl rfl rfl (by kernel_rfl) (by kernel_rfl) (by kernel_rfl) (by kernel_rfl)
   (reads_int Tryd.underlying3) (reads_int Tryd.underlying3) (reads_int Tryd.underlying3) (fun H enc w base spare held fuel cs x hF h => hs (show fuel ≤ n by have : fuel + 1 ≤ n + 1 := hF; omega) h)) hF h
  obtain ⟨a0, a1, a2, a3⟩ := a
  obtain ⟨h0, h1, h2, h3⟩ := h1
  obtain ⟨e0, b0⟩ := h0
  obtain ⟨e1, b1⟩ := h1
  obtain ⟨e2, b2⟩ := h2
  obtain ⟨s3, e3⟩ := List.length_eq_one_iff.1 ((sliceC (pickC n)).len h3); rw [e3] at h3
  have e102 := cells_split e2 e3
  have e101 := cells_split e1 e102
  have e100 := cells_split e0 e101
  exact ⟨.mk a0 a1 a2 a3, ⟨s3, by rw [e100]; rfl, b0, b1, b2, h3⟩, hb⟩
theorem pick_bulk : ∀ (n : Nat) {w : World} {cs : List Value} {p : PickD}, (pickC n).is w cs p → pSize p ≤ (pickC n).bulk p
 | 0, _, _, _, h => h.elim
 | n + 1, w, cs, p, h => by
  obtain ⟨v, _, _, _, _, h3⟩ := h
  have hl : ∀ q ∈ p.args, pSize q ≤ (pickC n).bulk q := by
   rcases h3 with ⟨_, e⟩ | ⟨b, off, sp, cap, _, _, _, h4⟩
   ·rw [e]; intro q hq; cases hq
   ·intro q hq
    obtain ⟨i, hi, rfl⟩ := List.getElem_of_mem hq
    obtain ⟨_, cs', _, h5⟩ := h4 i hi
    exact pick_bulk n h5
  have hsum : pSizes p.args ≤ (p.args.map (pickC n).bulk).sum := by
   rw [pSizes_sum]
   generalize p.args = l at hl
   induction l with
   | nil => simp
   | cons q l ih =>
    simp only [List.map_cons, List.sum_cons]
    have h1 := hl q (by simp)
    have h2 := ih (fun x hx => hl x (by simp [hx]))
    omega
  rw [pSize_eq]
  show _ ≤ intC.bulk p.kind + (intC.bulk p.from_ + (intC.bulk p.to_ + (sliceC (pickC n)).bulk p.args))
  simp only [intC, sliceC]
  omega
end Go.Proofs.YtkdafecbdncmiaaDoor

namespace Go.Proofs.YtkdafecbdncmiaaDoor
set_option linter.unusedSectionVars false
open Go.RowKit Go.Deep
set_option linter.unusedVariables false
set_option linter.unusedSimpArgs false
section
variable {c : RC}
theorem repL_nil : RepL c [] [] := by simp [RepL]
theorem repL_cons {a : AV} {v : Value} {l : List AV} {vs : List Value} (h : Rep c a v) (k : RepL c l vs) : RepL c (a :: l) (v :: vs) := by
 simp only [RepL]; exact ⟨v, vs, rfl, h, k⟩
theorem rep_int (k : IntKind) (n : Int) : Rep c (.int k n) (.int k n) := by simp [Rep]
def RP {α : Type} (c : RC) (d : Cod α) (e : α → List AV) (ok : α → Prop) : Prop := ∀ cs x, d.is c.w cs x → RepL c (e x) cs ∧ ok x ∧ (∀ v ∈ cs, one1 v = true)
theorem repL_len : ∀ {l : List AV} {vs : List Value}, RepL c l vs → l.length = vs.length
 | [], vs, h => by simp only [RepL] at h; subst h; rfl
 | a :: l, vs, h => by
  simp only [RepL] at h
  obtain ⟨v, vs', rfl, _, h⟩ := h
  simp [repL_len h]
theorem repCs_of {b : Nat} : ∀ {l : List AV} {vs : List Value} {off : Nat}, RepL c l vs → (∀ v ∈ vs, one1 v = true) → (∀ j, j < vs.length → c.w.cell? ⟨b, off + j, none⟩ = vs[j]?) → RepCs c b off l
 | [], vs, off, h, _, _ => by simp [RepCs]
 | a :: l, vs, off, h, ho, hc => by
  simp only [RepL] at h
  obtain ⟨v, vs', rfl, h1, h2⟩ := h
  simp only [RepCs]
  refine ⟨⟨v, by simpa using hc 0 (by simp), ho v (by simp), h1⟩, repCs_of h2 (fun v hv => ho v (by simp [hv])) fun j hj => ?_⟩
  have := hc (j + 1) (by simpa using hj)
  rw [show off + 1 + j = off + (j + 1) by omega]
  simpa using this
theorem repEs_of {α : Type} {d : Cod α} {e : α → List AV} {ok : α → Prop} (H : RP c d e ok) {b sz : Nat} (hsz : d.size = sz) : ∀ {l : List α} {off : Nat}, (∀ (i : Nat) (x : α), l[i]? = some x → ∃ cs', (∀ j, j < d.size → c.w.cell? ⟨b, off + (i * d.size + j), none⟩ = cs'[j]?) ∧ d.is c.w cs' x) → RepEs c sz b off (l.map e) ∧ ∀ x ∈ l, ok x
 | [], off, h => by simp [RepEs]
 | x :: l, off, h => by
  obtain ⟨cs, h1, h2⟩ := h 0 x rfl
  obtain ⟨k1, k2, k3⟩ := H cs x h2
  have hl : cs.length = d.size := d.len h2
  obtain ⟨r1, r2⟩ := repEs_of H hsz (l := l) (off := off + sz) (fun i y hy => by
   obtain ⟨cs', q1, q2⟩ := h (i + 1) y (by simpa using hy)
   refine ⟨cs', fun j hj => ?_, q2⟩
   have := q1 j hj
   rw [← hsz]
   rwa [show off + d.size + (i * d.size + j) = off + ((i + 1) * d.size + j) by rw [Nat.succ_mul]; omega])
  refine ⟨?_, fun y hy => ?_⟩
  ·simp only [List.map_cons, RepEs]
   refine ⟨by rw [repL_len k1, hl, hsz], repCs_of k1 k3 fun j hj => ?_, r1⟩
   have := h1 j (by rw [← hl]; exact hj)
   simpa using this
  ·rcases List.mem_cons.1 hy with rfl | hy
   ·exact k2
   ·exact r2 y hy
theorem cell_in {w : World} {b off : Nat} {v : Value} (h : w.cell? ⟨b, off, none⟩ = some v) : b < w.heap.size := by
 rcases Nat.lt_or_ge b w.heap.size with k | k
 ·exact k
 ·simp [World.cell?, Array.getElem?_eq_none k] at h
theorem rp_slice {α : Type} {d : Cod α} {e : α → List AV} {ok : α → Prop} (hX : ∀ b, ¬ c.X b) (H : RP c d e ok) {sz : Nat} (hsz : d.size = sz) (h0 : 0 < sz) {v : Value} {l : List α} (h : (sliceC d).is c.w [v] l) : Rep c (sl sz e l) v ∧ okL ok l ∧ one1 v = true := by
 rcases h with ⟨h1, rfl⟩ | ⟨b, off, sp, cap, h1, h2, h3, h4⟩
 ·simp only [List.cons.injEq, and_true] at h1
  subst h1
  exact ⟨by simp [sl, Rep, h0], ⟨by simp, by simp⟩, rfl⟩
 ·simp only [List.cons.injEq, and_true] at h1
  subst h1
  have hes : sp = none ∨ l = [] := by
   cases l with
   | nil => exact .inr rfl
   | cons x l => exact .inl (h4 0 (by simp)).1
  have hh : ∀ (i : Nat) (x : α), l[i]? = some x → ∃ cs', (∀ j, j < d.size → c.w.cell? ⟨b, off + (i * d.size + j), none⟩ = cs'[j]?) ∧ d.is c.w cs' x := by
   intro i x hx
   obtain ⟨hi, hx⟩ := List.getElem?_eq_some_iff.1 hx
   subst hx
   exact (h4 i hi).2
  obtain ⟨r1, r2⟩ := repEs_of H hsz hh
  refine ⟨?_, ⟨by unfold maxLen at h3; unfold mxl; omega, r2⟩, rfl⟩
  simp only [sl, Rep]
  refine ⟨some ⟨b, off, sp⟩, cap, by simp, by simpa using h2, h0, ?_⟩
  rcases hes with rfl | rfl
  ·cases l with
   | nil => exact .inl rfl
   | cons x l =>
    refine .inr ⟨b, off, rfl, ?_, hX b, r1⟩
    obtain ⟨cs, q1, q2⟩ := hh 0 x rfl
    have hl : cs.length = d.size := d.len q2
    have := q1 0 (by omega)
    obtain ⟨y, hy⟩ : ∃ y, cs[0]? = some y := ⟨cs[0], List.getElem?_eq_getElem (by omega)⟩
    rw [hy] at this
    exact cell_in this
  ·exact .inl rfl
theorem one_nil : ∀ v ∈ ([] : List Value), one1 v = true := by simp
theorem one_cons {v : Value} {vs : List Value} (h : one1 v = true) (k : ∀ x ∈ vs, one1 x = true) : ∀ x ∈ v :: vs, one1 x = true := by
 intro x hx
 rcases List.mem_cons.1 hx with rfl | hx
 ·exact h
 ·exact k x hx
theorem rp_agg {α : Type} {d : Cod α} {e : α → List AV} {ok : α → Prop} (H : RP c d e ok) {cs : Array Value} {x : α} (h : d.is c.w cs.toList x) : Rep c (.agg (e x)) (.agg cs) ∧ ok x := by
 obtain ⟨h1, h2, h3⟩ := H _ _ h
 simp only [Rep]
 exact ⟨⟨cs, rfl, h1, h3⟩, h2⟩
end
end Go.Proofs.YtkdafecbdncmiaaDoor

namespace Go.Proofs.YtkdafecbdncmiaaDoor
set_option linter.unusedSectionVars false
open Go.RowKit Go.Deep
set_option linter.unusedVariables false
set_option linter.unusedSimpArgs false
section
variable {c : RC}
theorem rp_pick (hX : ∀ b, ¬ c.X b) : ∀ n : Nat, RP c (pickC n) cPick (fun _ => True)
 | 0 => fun cs x h => h.elim
 | n + 1 => by
  rintro cs x ⟨v, rfl, h0, h1, h2, h3⟩
  obtain ⟨r, o, k⟩ := rp_slice hX (rp_pick hX n) (sz := 4) (pickC_size n) (by decide) h3
  refine ⟨?_, trivial, one_cons rfl (one_cons rfl (one_cons rfl (one_cons k one_nil)))⟩
  rw [cPick_eq]
  exact repL_cons (rep_int _ _) (repL_cons (rep_int _ _) (repL_cons (rep_int _ _) (repL_cons r repL_nil)))
end
end Go.Proofs.YtkdafecbdncmiaaDoor

namespace Go.Proofs.YtkdafecbdncmiaaDoor
set_option linter.unusedSectionVars false
set_option linter.unusedSimpArgs false
set_option linter.unusedVariables false
open Go.ChangeShapes Go.WideShapes Go.ChangeAt Go.RowKit

theorem own : ownKnob Tryd.prog.godebug = none := by kernel_rfl
theorem laidOut : laidOutB Tryd.prog = true := by kernel_rfl

theorem trodAll_below {H : Type} {enc : TypeId × Value → H} {P : Program} (hl : laidOutB P = true) {W W' : World} (hb : Below W.heap.size W W') :
  ∀ {ts : List TypeId} {vs : List Value} {ds : List (DataW H)} {ps : List MemPlace}, (ts.all fun t => P.readableRec t && decide (t < P.types.size)) = true →
   DataW.TrodAll enc P W 0 (fun _ => true) true ts vs ds ps → (∀ x ∈ ps, x.block < W.heap.size) → DataW.TrodAll enc P W' 0 (fun b => decide (b < W.heap.size)) true ts vs ds ps
 | [], [], [], _, _, h, _ => h
 | t :: ts, v :: vs, d :: ds, ps, hts, h, hlt => by
  obtain ⟨p, q, h1, h2, rfl⟩ := h
  simp only [List.all_cons, Bool.and_eq_true, decide_eq_true_eq] at hts
  exact ⟨p, q, Below.trod hl hts.1.1 hts.1.2 h1 hb (fun x hx => hlt x (List.mem_append_left _ hx)),
   trodAll_below hl hb (by simpa using hts.2) h2 (fun x hx => hlt x (List.mem_append_right _ hx)), rfl⟩
 | [], _ :: _, _, _, _, h, _ => h.elim
 | [], [], _ :: _, _, _, h, _ => h.elim
 | _ :: _, [], _, _, _, h, _ => h.elim
 | _ :: _, _ :: _, [], _, _, h, _ => h.elim

theorem law_post {H : Type} {enc : TypeId × Value → H} {f : Func} {s : ChangeSpec} {W W' : World} {args : Array Value} {ds gs : List (DataW H)} {before : List MemPlace} {t : TypeId}
  (hts : (f.params.toList.all fun t => Tryd.prog.readableRec t && decide (t < Tryd.prog.types.size)) = true) (hrt : f.resultTypes = #[t]) (ht : Tryd.prog.underlying t = some .bool) (hvs : s.vars = [])
  (hW : DataW.Whole enc Tryd.prog f.params.toList s.vars false W args.toList ds gs before) (hb : Below W.heap.size W W')
  (hspec : s.fn H (ds ++ gs) = { results := [.lit (.bool true)], args := ds }) :
  s.post enc Tryd.prog f false true false false W args (.bool true) W' := by
 have hW' := hW
 obtain ⟨p, q, hA, hV, rfl, hfz, hnd⟩ := hW
 have hlt : ∀ x ∈ p ++ q, x.block < W.heap.size := fun x hx => hW'.lt x hx
 refine ⟨ds, gs, p ++ q, [], p, [], hW', ?_, ?_, ?_, hb.frame _, fun h => by cases h⟩
 ·rw [hspec, hrt]
  exact trodAll_cons_mk (shut_bool ht _) trodAll_mk0
 ·rw [hspec]
  exact trodAll_below laidOut hb hts hA (fun x hx => hlt x (List.mem_append_left _ hx))
 ·rw [hspec, hvs]
  exact rfl
end Go.Proofs.YtkdafecbdncmiaaDoor

namespace Go.Proofs.YtkdafecbdncmiaaDoor
set_option linter.unusedSectionVars false
set_option linter.unusedSimpArgs false
set_option linter.unusedVariables false
open Go.RowKit
noncomputable def base (W : World) : RC := ctx ⟨W, [], fun _ => False, nmT⟩ W [] nopb
theorem base_X (W : World) : ∀ b, ¬ (base W).X b := by
 rintro b (k | ⟨p, hp, _⟩ | ⟨i, k⟩)
 ·exact k
 ·cases hp
 ·cases k
theorem law_runT {n : FuncId} {m : List AV → Heap → Option (AV × Heap)} {avs : List AV} (hs : Sound Tryd.prog nmT n m) (hc : ∀ us w, (callFunc n us).run Tryd.prog w = .ok (.enter n us) w) (W : World) (hT : tabOk W (fun _ => False)) (vs : Array Value) (hr : RepL (base W) avs vs.toList) (hm : m avs [] = some (.bool true, [])) :
  Calls Tryd.prog n vs W fun e W' => e = .returned (.bool true) ∧ Below W.heap.size W W' := by
 have hZ : ZLt ⟨W, [], fun _ => False, nmT⟩ := ⟨fun _ (k : False) => k.elim, hT.to (Nat.le_refl _) (fun _ _ _ => rfl) fun b _ k => by rcases k with k | ⟨p, hp, _⟩; exact k; cases hp⟩
 have hh0 : HeapRel (ctx ⟨W, [], fun _ => False, nmT⟩ W [] nopb) [] := by
  refine ⟨rfl, fun i j p q hp => ?_, fun i p x hp => ?_⟩
  ·simp [ctx] at hp
  ·simp [ctx] at hp
 rcases hs _ _ _ _ hm with ⟨g, h1, h2⟩ | hv
 case inr =>
  obtain ⟨v, w', E', k1, _⟩ := hv ⟨W, [], fun _ => False, nmT⟩ vs rfl hZ hh0 hr
  rw [hc] at k1
  injection k1 with k1
  cases k1
 have hg : g = n := by
  have e1 := h1 #[] W
  rw [hc #[] W] at e1
  injection e1 with e1
  injection e1 with e1
  exact e1.symm
 subst hg
 have hh : HeapRel (ctx ⟨W, [], fun _ => False, nmT⟩ W [] nopb) [] := by
  refine ⟨rfl, fun i j p q hp => ?_, fun i p x hp => ?_⟩
  ·simp [ctx] at hp
  ·simp [ctx] at hp
 refine (h2 ⟨W, [], fun _ => False, nmT⟩ vs rfl hZ hh hr).mono ?_
 rintro e w' ⟨v, E', rfl, ho, _, hv⟩
 simp only [Rep] at hv
 subst hv
 exact ⟨rfl, ho.os, ho.tape, ho.output, ho.size, fun k hk => ho.stay k hk (fun p hp => by cases hp)⟩
end Go.Proofs.YtkdafecbdncmiaaDoor

namespace Go.Proofs.YtkdafecbdncmiaaDoor
set_option linter.unusedSectionVars false
set_option linter.unusedSimpArgs false
open Go.ChangeShapes Go.WideShapes Go.ChangeAt Go.RowKit
set_option linter.unusedVariables false
mutual
def flatD : DataW Unit → List Value
 | .lit (.int k z) => [.int k z]
 | .agg l => flatDs l
 | _ => []
def flatDs : List (DataW Unit) → List Value
 | [] => []
 | d :: l => flatD d ++ flatDs l
end
def layD (d : DataW Unit) : Obj → Obj
 | .cells _ t fr => .cells (flatD d).toArray t fr
 | o => o
theorem typePow : (Tryd.prog.globals[1]?).map (·.type) = some 170 := by kernel_rfl
theorem tabOk_of {W : World} (h : Lib.TabIs Tryd.prog W "internal/strconv.uint64pow10" .u64 Lib.pow10Tab) : tabOk W (fun _ => False) := by
 refine ⟨h, ?_, id⟩
 unfold Lib.TabIs World.var? at h
 rw [gPow, Option.bind_some] at h
 split at h
 ·rename_i k; exact (Array.getElem?_eq_some_iff.1 k).1
 ·cases h
end Go.Proofs.YtkdafecbdncmiaaDoor

