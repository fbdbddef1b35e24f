/- The contracts of word's small functions. -/
import Derived.Test.YtjhdogdaldlkhaaCd
namespace Go.Proofs.Ytjhdogdaldlkhaa
open Go.RowKit
set_option linter.unusedVariables false
set_option linter.unusedSimpArgs false

def withinB (n lo hi : Int) : Bool := decide (lo ≤ n ∧ n ≤ hi)
theorem within_any (n lo hi : Int) (w : World) :
    Calls Try.prog 46 #[.int .i64 n, .int .i64 lo, .int .i64 hi] w fun e w' => e = .returned (.bool (withinB n lo hi)) ∧ w = w' := by
  by_cases h1 : lo ≤ n
  · go_enter Try.func46, Try.ntmps46
    go_wp2
    go_ret
    exact ⟨by simp [withinB, h1], rfl⟩
  · have h1' : decide (lo ≤ n) = false := by simpa using h1
    go_enter Try.func46, Try.ntmps46
    go_wp2
    go_ret
    exact ⟨by simp [withinB]; omega, rfl⟩
theorem within1_any (n lo hi : Int) (w : World) :
    Calls Try.prog 48 #[.int .i64 n, .int .i64 lo, .int .i64 hi] w fun e w' => e = .returned (.bool (withinB n lo hi)) ∧ w = w' := by
  by_cases h1 : lo ≤ n
  · go_enter Try.func48, Try.ntmps48
    go_wp2
    go_ret
    exact ⟨by simp [withinB, h1], rfl⟩
  · have h1' : decide (lo ≤ n) = false := by simpa using h1
    go_enter Try.func48, Try.ntmps48
    go_wp2
    go_ret
    exact ⟨by simp [withinB]; omega, rfl⟩

def whenI (b : Bool) (n : Int) : Int := bif b then n else 0
theorem when_any (b : Bool) (n : Int) (w : World) :
    Calls Try.prog 45 #[.bool b, .int .i64 n] w fun e w' => e = .returned (.int .i64 (whenI b n)) ∧ w = w' := by
  cases b <;>
  · go_enter Try.func45, Try.ntmps45
    go_wp2
    go_ret
    exact ⟨rfl, rfl⟩

/-- Floor's two ways below 0, in plain numbers. -/
theorem floor_neg (n d : Int) (hd : 0 < d) (h : n < 0) (ht : n.tmod d < 0) : n.tdiv d - 1 = n / d := by
  obtain ⟨m, rfl⟩ : ∃ m, n = -m := ⟨-n, by omega⟩
  rw [Int.neg_tdiv, Int.tdiv_eq_ediv_of_nonneg (by omega)]
  rw [Int.neg_tmod, Int.tmod_eq_emod_of_nonneg (by omega)] at ht
  have b2 := Int.emod_lt_of_pos m hd
  have e2 := Int.emod_add_mul_ediv m d
  refine ((Int.ediv_emod_unique hd (r := d - m % d)).2 ⟨?_, by omega, by omega⟩).1.symm
  rw [Int.mul_sub, Int.mul_neg]; omega
theorem floor_zero (n d : Int) (hd : 0 < d) (h : n < 0) (ht : 0 ≤ n.tmod d) : n.tdiv d = n / d := by
  obtain ⟨m, rfl⟩ : ∃ m, n = -m := ⟨-n, by omega⟩
  rw [Int.neg_tdiv, Int.tdiv_eq_ediv_of_nonneg (by omega)]
  rw [Int.neg_tmod, Int.tmod_eq_emod_of_nonneg (by omega)] at ht
  have b1 := Int.emod_nonneg m (show d ≠ 0 by omega)
  have e2 := Int.emod_add_mul_ediv m d
  refine ((Int.ediv_emod_unique hd (r := 0)).2 ⟨?_, by omega, by omega⟩).1.symm
  rw [Int.mul_neg]; omega
theorem tdiv_bd (n d : Int) (hd : 0 < d) (hn : -9000000000000000000 ≤ n) (h : n < 0) : -9000000000000000000 ≤ n.tdiv d ∧ n.tdiv d ≤ 0 := by
  obtain ⟨m, rfl⟩ : ∃ m, n = -m := ⟨-n, by omega⟩
  rw [Int.neg_tdiv, Int.tdiv_eq_ediv_of_nonneg (by omega)]
  have := Int.ediv_le_self d (show 0 ≤ m by omega)
  have := Int.ediv_nonneg (show 0 ≤ m by omega) (show 0 ≤ d by omega)
  omega
theorem floor_any (n d : Int) (hd : 0 < d) (hn : -9000000000000000000 ≤ n) (hn2 : n ≤ 9000000000000000000) (hd2 : d ≤ 9000000000000000000) (w : World) :
    Calls Try.prog 136 #[.int .i64 n, .int .i64 d] w fun e w' => e = .returned (.int .i64 (n / d)) ∧ w = w' := by
  by_cases h0 : 0 ≤ n
  · have b1 := Int.emod_nonneg n (show d ≠ 0 by omega)
    go_enter Try.func136, Try.ntmps136
    go_wp2
    go_ret
    exact ⟨rfl, rfl⟩
  · have tb := tdiv_bd n d hd hn (by omega)
    obtain ⟨tb1, tb2⟩ := tb
    go_enter Try.func136, Try.ntmps136
    go_wp2
    · go_ret
      exact ⟨ret_int (floor_neg n d hd (by omega) (by assumption)), rfl⟩
    · go_ret
      exact ⟨ret_int (floor_zero n d hd (by omega) (by assumption)), rfl⟩
/-- Round's value: the nearest whole number of n / d. -/
def roundI (n d : Int) : Int := (2 * n + d) / (2 * d)
theorem round_any (n d : Int) (hd : 0 < d) (hn : -1000000000000000000 ≤ n) (hn2 : n ≤ 1000000000000000000) (hd2 : d ≤ 1000000000000000000) (w : World) :
    Calls Try.prog 122 #[.int .i64 n, .int .i64 d] w fun e w' => e = .returned (.int .i64 (roundI n d)) ∧ w = w' := by
  go_enter Try.func122, Try.ntmps122
  go_wp2_with (go_at_call 136; refine (floor_any _ _ (by omega) (by omega) (by omega) (by omega) _).mono ?_; rintro e w' ⟨rfl, rfl⟩)
  go_ret
  exact ⟨rfl, rfl⟩

/-- The first fault of a row that is not OK. -/
def firstN (f : Nat → Int) : Nat → Nat → Int
  | _, 0 => 0
  | i, n + 1 => if f i = 0 then firstN f (i + 1) n else f i
def firstL (l : List Int) : Int := firstN (fun i => l.getD i 0) 0 l.length
theorem firstN_at (f : Nat → Int) (k : Nat) : ∀ (i n : Nat), (∀ j, i ≤ j → j < i + k → f j = 0) → k < n → f (i + k) ≠ 0 → firstN f i n = f (i + k) := by
  induction k with
  | zero => intro i n _ hn h1; cases n with
    | zero => omega
    | succ n => rw [firstN, if_neg (by simpa using h1)]; simp
  | succ k ih => intro i n h hn h1; cases n with
    | zero => omega
    | succ n =>
      rw [firstN, if_pos (h i (by omega) (by omega)), ih (i + 1) n (fun j h2 h3 => h j (by omega) (by omega)) (by omega) (by rw [show i + 1 + k = i + (k + 1) by omega]; exact h1)]
      rw [show i + 1 + k = i + (k + 1) by omega]
theorem firstN_zero (f : Nat → Int) : ∀ (n i : Nat), (∀ j, i ≤ j → j < i + n → f j = 0) → firstN f i n = 0
  | 0, _, _ => rfl
  | n + 1, i, h => by rw [firstN, if_pos (h i (by omega) (by omega)), firstN_zero f n (i + 1) (fun j h2 h3 => h j (by omega) (by omega))]
theorem first_any (n : Nat) (f : Nat → Int) (blk : Nat) (w : World) (hlen : n ≤ 1000) (hc : Hid (∀ i, i < n → w.cell? ⟨blk, i, none⟩ = some (.int .i64 (f i)))) :
    Calls Try.prog 44 #[.slice (some ⟨blk, 0, none⟩) n n] w fun e w' => e = .returned (.int .i64 (firstN f 0 n)) ∧ w = w' := by
  go_enter Try.func44, Try.ntmps44
  go_wp2
  go_loop [7] (fun i => ∃ k : Nat, k ≤ n ∧ i = .int .i64 k ∧ (∀ j, j < k → f j = 0)) (fun i => n - (intOf i).toNat)
  case atStart => exact ⟨0, Nat.zero_le _, rfl, fun j hj => by omega⟩
  case round =>
    obtain ⟨k, hk, rfl, hz⟩ := hrel
    have HZ := Lib.hid hz; clear hz
    by_cases hlt : k < n
    · have hck := hc.out k (by omega)
      by_cases hv : f k = 0
      · have hv' : (f k != 0) = false := by simpa using hv
        have HV := Lib.hid hv; clear hv
        go_wp2
        go_round
        case rel => exact ⟨k + 1, by omega, by go_num, fun j hj => by
          by_cases h : j = k
          · rw [h]; exact HV.out
          · exact HZ.out j (by omega)⟩
        case measure => simp [intOf]; omega
      · have hv' : (f k != 0) = true := by simpa using hv
        have HV := Lib.hid hv; clear hv
        go_wp2
        go_ret
        exact ⟨ret_int (by rw [firstN_at f k 0 n (fun j _ h2 => HZ.out j (by omega)) hlt (by simpa using HV.out)]; simp), rfl⟩
    · go_wp2
      go_ret
      exact ⟨ret_int (by rw [firstN_zero f n 0 (fun j _ h2 => HZ.out j (by omega))]), rfl⟩
theorem firstK2 (x0 x1 : Int) (b : Nat) (w : World) (K : Box2 w b (.int .i64 x0) (.int .i64 x1)) :
    Calls Try.prog 44 #[.slice (some ⟨b, 0, none⟩) 2 2] w fun e w' => e = .returned (.int .i64 (firstL [x0, x1])) ∧ w = w' :=
  first_any 2 (fun i => [x0, x1].getD i 0) b w (by omega) (Lib.hid fun i hi => by
    match i, hi with
    | 0, _ => exact K.1.1
    | 1, _ => exact K.1.2)
theorem firstK3 (x0 x1 x2 : Int) (b : Nat) (w : World) (K : Box3 w b (.int .i64 x0) (.int .i64 x1) (.int .i64 x2)) :
    Calls Try.prog 44 #[.slice (some ⟨b, 0, none⟩) 3 3] w fun e w' => e = .returned (.int .i64 (firstL [x0, x1, x2])) ∧ w = w' :=
  first_any 3 (fun i => [x0, x1, x2].getD i 0) b w (by omega) (Lib.hid fun i hi => by
    match i, hi with
    | 0, _ => exact K.1.1
    | 1, _ => exact K.1.2.1
    | 2, _ => exact K.1.2.2)
theorem firstK4 (x0 x1 x2 x3 : Int) (b : Nat) (w : World) (K : Box4 w b (.int .i64 x0) (.int .i64 x1) (.int .i64 x2) (.int .i64 x3)) :
    Calls Try.prog 44 #[.slice (some ⟨b, 0, none⟩) 4 4] w fun e w' => e = .returned (.int .i64 (firstL [x0, x1, x2, x3])) ∧ w = w' :=
  first_any 4 (fun i => [x0, x1, x2, x3].getD i 0) b w (by omega) (Lib.hid fun i hi => by
    match i, hi with
    | 0, _ => exact K.1.1
    | 1, _ => exact K.1.2.1
    | 2, _ => exact K.1.2.2.1
    | 3, _ => exact K.1.2.2.2)
theorem firstK5 (x0 x1 x2 x3 x4 : Int) (b : Nat) (w : World) (K : Box5 w b (.int .i64 x0) (.int .i64 x1) (.int .i64 x2) (.int .i64 x3) (.int .i64 x4)) :
    Calls Try.prog 44 #[.slice (some ⟨b, 0, none⟩) 5 5] w fun e w' => e = .returned (.int .i64 (firstL [x0, x1, x2, x3, x4])) ∧ w = w' :=
  first_any 5 (fun i => [x0, x1, x2, x3, x4].getD i 0) b w (by omega) (Lib.hid fun i hi => by
    match i, hi with
    | 0, _ => exact K.1.1
    | 1, _ => exact K.1.2.1
    | 2, _ => exact K.1.2.2.1
    | 3, _ => exact K.1.2.2.2.1
    | 4, _ => exact K.1.2.2.2.2)
theorem firstA2 (x0 x1 : Int) (t : TypeId) (b : Nat) (w : World) (hb : b = w.heap.size) :
    Calls Try.prog 44 #[.slice (some ⟨b, 0, none⟩) 2 2] (w.alloc (.cells #[.int .i64 x0, .int .i64 x1] t)) fun e w' => e = .returned (.int .i64 (firstL [x0, x1])) ∧ (w.alloc (.cells #[.int .i64 x0, .int .i64 x1] t)) = w' :=
  hb ▸ firstK2 x0 x1 w.heap.size _ (Box2.of (t := t) (heap_last w _))
theorem firstD2 (x0 x1 : Int) (t : TypeId) (b : Nat) (w : World) (hb : b = w.heap.size) :
    Calls Try.prog 44 #[.slice (some ⟨b, 0, none⟩) 2 2] (w.alloc (.cells #[.int .i64 x0, .int .i64 x1] t)).drew fun e w' => e = .returned (.int .i64 (firstL [x0, x1])) ∧ (w.alloc (.cells #[.int .i64 x0, .int .i64 x1] t)).drew = w' :=
  hb ▸ firstK2 x0 x1 w.heap.size _ (Box2.of (t := t) (heap_last w _))
theorem firstA3 (x0 x1 x2 : Int) (t : TypeId) (b : Nat) (w : World) (hb : b = w.heap.size) :
    Calls Try.prog 44 #[.slice (some ⟨b, 0, none⟩) 3 3] (w.alloc (.cells #[.int .i64 x0, .int .i64 x1, .int .i64 x2] t)) fun e w' => e = .returned (.int .i64 (firstL [x0, x1, x2])) ∧ (w.alloc (.cells #[.int .i64 x0, .int .i64 x1, .int .i64 x2] t)) = w' :=
  hb ▸ firstK3 x0 x1 x2 w.heap.size _ (Box3.of (t := t) (heap_last w _))
theorem firstD3 (x0 x1 x2 : Int) (t : TypeId) (b : Nat) (w : World) (hb : b = w.heap.size) :
    Calls Try.prog 44 #[.slice (some ⟨b, 0, none⟩) 3 3] (w.alloc (.cells #[.int .i64 x0, .int .i64 x1, .int .i64 x2] t)).drew fun e w' => e = .returned (.int .i64 (firstL [x0, x1, x2])) ∧ (w.alloc (.cells #[.int .i64 x0, .int .i64 x1, .int .i64 x2] t)).drew = w' :=
  hb ▸ firstK3 x0 x1 x2 w.heap.size _ (Box3.of (t := t) (heap_last w _))
theorem firstA4 (x0 x1 x2 x3 : Int) (t : TypeId) (b : Nat) (w : World) (hb : b = w.heap.size) :
    Calls Try.prog 44 #[.slice (some ⟨b, 0, none⟩) 4 4] (w.alloc (.cells #[.int .i64 x0, .int .i64 x1, .int .i64 x2, .int .i64 x3] t)) fun e w' => e = .returned (.int .i64 (firstL [x0, x1, x2, x3])) ∧ (w.alloc (.cells #[.int .i64 x0, .int .i64 x1, .int .i64 x2, .int .i64 x3] t)) = w' :=
  hb ▸ firstK4 x0 x1 x2 x3 w.heap.size _ (Box4.of (t := t) (heap_last w _))
theorem firstD4 (x0 x1 x2 x3 : Int) (t : TypeId) (b : Nat) (w : World) (hb : b = w.heap.size) :
    Calls Try.prog 44 #[.slice (some ⟨b, 0, none⟩) 4 4] (w.alloc (.cells #[.int .i64 x0, .int .i64 x1, .int .i64 x2, .int .i64 x3] t)).drew fun e w' => e = .returned (.int .i64 (firstL [x0, x1, x2, x3])) ∧ (w.alloc (.cells #[.int .i64 x0, .int .i64 x1, .int .i64 x2, .int .i64 x3] t)).drew = w' :=
  hb ▸ firstK4 x0 x1 x2 x3 w.heap.size _ (Box4.of (t := t) (heap_last w _))
theorem firstA5 (x0 x1 x2 x3 x4 : Int) (t : TypeId) (b : Nat) (w : World) (hb : b = w.heap.size) :
    Calls Try.prog 44 #[.slice (some ⟨b, 0, none⟩) 5 5] (w.alloc (.cells #[.int .i64 x0, .int .i64 x1, .int .i64 x2, .int .i64 x3, .int .i64 x4] t)) fun e w' => e = .returned (.int .i64 (firstL [x0, x1, x2, x3, x4])) ∧ (w.alloc (.cells #[.int .i64 x0, .int .i64 x1, .int .i64 x2, .int .i64 x3, .int .i64 x4] t)) = w' :=
  hb ▸ firstK5 x0 x1 x2 x3 x4 w.heap.size _ (Box5.of (t := t) (heap_last w _))
theorem firstD5 (x0 x1 x2 x3 x4 : Int) (t : TypeId) (b : Nat) (w : World) (hb : b = w.heap.size) :
    Calls Try.prog 44 #[.slice (some ⟨b, 0, none⟩) 5 5] (w.alloc (.cells #[.int .i64 x0, .int .i64 x1, .int .i64 x2, .int .i64 x3, .int .i64 x4] t)).drew fun e w' => e = .returned (.int .i64 (firstL [x0, x1, x2, x3, x4])) ∧ (w.alloc (.cells #[.int .i64 x0, .int .i64 x1, .int .i64 x2, .int .i64 x3, .int .i64 x4] t)).drew = w' :=
  hb ▸ firstK5 x0 x1 x2 x3 x4 w.heap.size _ (Box5.of (t := t) (heap_last w _))
theorem firstL_nil : firstL [] = 0 := rfl
theorem firstN_shift (f : Nat → Int) : ∀ (n i : Nat), firstN f (i + 1) n = firstN (fun j => f (j + 1)) i n
  | 0, _ => rfl
  | n + 1, i => by simp only [firstN]; rw [firstN_shift f n (i + 1)]
theorem firstL_cons (a : Int) (l : List Int) : firstL (a :: l) = if a = 0 then firstL l else a := by
  unfold firstL
  rw [List.length_cons, firstN]
  simp only [List.getD_cons_zero, firstN_shift, List.getD_cons_succ]
end Go.Proofs.Ytjhdogdaldlkhaa
