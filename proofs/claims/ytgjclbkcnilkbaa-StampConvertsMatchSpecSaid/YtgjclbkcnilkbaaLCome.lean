/- The walk of StampNumbersComeBack. -/
import Derived.Test.YtgjclbkcnilkbaaStF
import Derived.Deep.RegionHeld3
namespace Go.Proofs.Ytgjclbkcnilkbaa
open Go.RowKit
set_option linter.unusedVariables false
set_option linter.unusedSimpArgs false

/-! ### the plain law -/
/-- A number's minute. -/
theorem minute_of {r n : Int} (hr : rateB r = true) (h0 : 0 ≤ n) (h1 : n < dayI r) : ∃ j : Int, 0 ≤ j ∧ j < 1440 ∧ preI r j ≤ n ∧ n < preI r j + minI r j := by
  have key : ∀ k : Nat, k ≤ 1440 → n < preI r k → ∃ j : Int, 0 ≤ j ∧ j < k ∧ preI r j ≤ n ∧ n < preI r j + minI r j := by
    intro k
    induction k with
    | zero => intro _ h; simp [preI] at h; omega
    | succ k ih =>
      intro hk h
      by_cases hlt : n < preI r k
      · obtain ⟨j, a, b, c, d⟩ := ih (by omega) hlt
        exact ⟨j, a, by omega, c, d⟩
      · refine ⟨k, by omega, by omega, by omega, ?_⟩
        have := preI_succ hr k (by omega)
        rw [show ((k + 1 : Nat) : Int) = (k : Int) + 1 by omega, this] at h
        omega
  obtain ⟨j, a, b, c, d⟩ := key 1440 (by omega) (by have := preI_day hr; simpa [this] using h1)
  exact ⟨j, a, by simpa using b, c, d⟩
/-- The stamp of a number is right, and has this number. -/
theorem back_of {r n : Int} (hr : rateB r = true) (h0 : 0 ≤ n) (h1 : n < dayI r) :
    okS r (stH r (undrop r n)) (stM r (undrop r n)) (stS r (undrop r n)) (stF r (undrop r n)) ∧ numI r (stH r (undrop r n)) (stM r (undrop r n)) (stS r (undrop r n)) (stF r (undrop r n)) = n := by
  obtain ⟨j, a, b, c, d⟩ := minute_of hr h0 h1
  obtain ⟨s1, s2, s3, s4⟩ := st_eq hr a c d
  rw [s1, s2, s3, s4]
  have hm := minI_bd hr j
  have hc := (cnt8_yes hr).2
  have hm2 : minI r j ≤ 60 * cnt r := by
    rcases rate_cases hr with rfl | rfl | rfl | rfl <;> simp [minI, cnt] <;> (try split) <;> omega
  have hx0 : 0 ≤ n - preI r j + (60 * cnt r - minI r j) := by omega
  have hx1 : n - preI r j + (60 * cnt r - minI r j) < 60 * cnt r := by omega
  have e : j / 60 * 60 + j % 60 = j := by omega
  constructor
  · refine ⟨hr, by omega, by omega, ?_, ?_, ?_⟩
    · rcases rate_cases hr with rfl | rfl | rfl | rfl <;> simp only [cnt] at * <;> simp at * <;> omega
    · rcases rate_cases hr with rfl | rfl | rfl | rfl <;> simp only [cnt] at * <;> simp at * <;> omega
    · rintro ⟨rfl, g1, g2, g3⟩
      have : minI 29 j = 1798 := by
        rw [minI, if_pos ⟨rfl, by omega⟩]
      clear s1 s2 s3 s4
      simp only [show cnt 29 = 30 from rfl, this] at *
      omega
  · rw [numI, e]
    have := Int.emod_add_mul_ediv (n - preI r j + (60 * cnt r - minI r j)) (cnt r)
    rw [Int.mul_comm (cnt r) ((n - preI r j + (60 * cnt r - minI r j)) / cnt r)] at this
    omega
/-- The order of stamps. -/
def laterB (a b c d a' b' c' d' : Int) : Bool := decide (a' < a ∨ a' = a ∧ (b' < b ∨ b' = b ∧ (c' < c ∨ c' = c ∧ d' < d)))
theorem numI_mono {r h m s f h' m' s' f' : Int} (k : okS r h m s f) (k' : okS r h' m' s' f') (hlt : numI r h m s f < numI r h' m' s' f') : laterB h' m' s' f' h m s f = true := by
  obtain ⟨hr, h1, h2, h3, h4, h5⟩ := k
  obtain ⟨_, h1', h2', h3', h4', h5'⟩ := k'
  refine decide_eq_true ?_
  have e1 := preI_succ hr
  rcases rate_cases hr with rfl | rfl | rfl | rfl
  · rw [numI_plain (by omega) (by omega), numI_plain (by omega) (by omega)] at hlt; simp [cnt] at h4 h4'; omega
  · rw [numI_plain (by omega) (by omega), numI_plain (by omega) (by omega)] at hlt; simp [cnt] at h4 h4'; omega
  · rw [numI_plain (by omega) (by omega), numI_plain (by omega) (by omega)] at hlt; simp [cnt] at h4 h4'; omega
  · rw [numI_drop (by omega), numI_drop (by omega)] at hlt; simp [cnt] at h4 h4'; omega

/-! ### later: slices.Compare of two rows of four -/
theorem isNaN_any (x : Int) (w : World) :
    Calls Try.prog 70 #[.int .i64 x] w fun e w' => e = .returned (.bool false) ∧ w = w' := by
  go_enter Try.func70, Try.ntmps70
  go_wp2
  go_ret
  exact ⟨by simp, rfl⟩
def cmpI (x y : Int) : Int := if x < y then -1 else if y < x then 1 else 0
theorem cmp_any (x y : Int) (w : World) :
    Calls Try.prog 68 #[.int .i64 x, .int .i64 y] w fun e w' => e = .returned (.int .i64 (cmpI x y)) ∧ w = w' := by
  by_cases h1 : x < y
  · rw [cmpI, if_pos h1]
    go_enter Try.func68, Try.ntmps68
    go_wp2_with (go_at_call 70; refine (isNaN_any _ _).mono ?_; rintro e w' ⟨rfl, rfl⟩)
    go_ret
    exact ⟨rfl, rfl⟩
  · by_cases h2 : y < x
    · rw [cmpI, if_neg h1, if_pos h2]
      go_enter Try.func68, Try.ntmps68
      go_wp2_with (go_at_call 70; refine (isNaN_any _ _).mono ?_; rintro e w' ⟨rfl, rfl⟩)
      go_ret
      exact ⟨rfl, rfl⟩
    · rw [cmpI, if_neg h1, if_neg h2]
      go_enter Try.func68, Try.ntmps68
      go_wp2_with (go_at_call 70; refine (isNaN_any _ _).mono ?_; rintro e w' ⟨rfl, rfl⟩)
      go_ret
      exact ⟨rfl, rfl⟩
/-- Compare of two rows of one length. -/
def cmpN (f g : Nat → Int) : Nat → Nat → Int
  | _, 0 => 0
  | i, n + 1 => if cmpI (f i) (g i) = 0 then cmpN f g (i + 1) n else cmpI (f i) (g i)
theorem cmpN_at (f g : Nat → Int) (k : Nat) : ∀ (i n : Nat), (∀ j, i ≤ j → j < i + k → cmpI (f j) (g j) = 0) → k < n → cmpI (f (i + k)) (g (i + k)) ≠ 0 → cmpN f g i n = cmpI (f (i + k)) (g (i + k)) := by
  induction k with
  | zero => intro i n _ hn h1; cases n with
    | zero => omega
    | succ n => rw [cmpN, if_neg (by simpa using h1)]; simp
  | succ k ih => intro i n h hn h1; cases n with
    | zero => omega
    | succ n =>
      rw [cmpN, if_pos (h i (by omega) (by omega)), ih (i + 1) n (fun j h2 h3 => h j (by omega) (by omega)) (by omega) (by rw [show i + 1 + k = i + (k + 1) by omega]; exact h1)]
      rw [show i + 1 + k = i + (k + 1) by omega]
theorem cmpN_zero (f g : Nat → Int) : ∀ (n i : Nat), (∀ j, i ≤ j → j < i + n → cmpI (f j) (g j) = 0) → cmpN f g i n = 0
  | 0, _, _ => rfl
  | n + 1, i, h => by rw [cmpN, if_pos (h i (by omega) (by omega)), cmpN_zero f g n (i + 1) (fun j h2 h3 => h j (by omega) (by omega))]
theorem compare_any (n : Nat) (f g : Nat → Int) (b1 b2 : Nat) (w : World) (hlen : n ≤ 1000) (hc1 : Hid (∀ i, i < n → w.cell? ⟨b1, i, none⟩ = some (.int .i64 (f i)))) (hc2 : Hid (∀ i, i < n → w.cell? ⟨b2, i, none⟩ = some (.int .i64 (g i)))) :
    Calls Try.prog 60 #[.slice (some ⟨b1, 0, none⟩) n n, .slice (some ⟨b2, 0, none⟩) n n] w fun e w' => e = .returned (.int .i64 (cmpN f g 0 n)) ∧ w = w' := by
  go_enter Try.func60, Try.ntmps60
  go_wp2
  go_loop [11] (fun i => ∃ k : Nat, k ≤ n ∧ i = .int .i64 k ∧ (∀ j, j < k → cmpI (f j) (g j) = 0)) (fun i => n - (intOf i).toNat)
  case atStart => exact ⟨0, Nat.zero_le _, rfl, fun j hj => by omega⟩
  case round =>
    obtain ⟨k, hk, rfl, hz⟩ := hrel
    have HZ := Lib.hid hz; clear hz
    by_cases hlt : k < n
    · have hck := hc1.out k (by omega)
      have hck2 := hc2.out k (by omega)
      by_cases hv : cmpI (f k) (g k) = 0
      · have hv' : (cmpI (f k) (g k) != 0) = false := by simpa using hv
        have HV := Lib.hid hv; clear hv
        go_wp2_with (go_at_call 68; refine (cmp_any _ _ _).mono ?_; rintro e w' ⟨rfl, rfl⟩)
        go_round
        case rel => exact ⟨k + 1, by omega, by go_num, fun j hj => by
          by_cases h : j = k
          · rw [h]; exact HV.out
          · exact HZ.out j (by omega)⟩
        case measure => simp [intOf]; omega
      · have hv' : (cmpI (f k) (g k) != 0) = true := by simpa using hv
        have HV := Lib.hid hv; clear hv
        go_wp2_with (go_at_call 68; refine (cmp_any _ _ _).mono ?_; rintro e w' ⟨rfl, rfl⟩)
        go_ret
        exact ⟨ret_int (by rw [cmpN_at f g k 0 n (fun j _ h2 => HZ.out j (by omega)) hlt (by simpa using HV.out)]; simp), rfl⟩
    · go_wp2
      go_ret
      exact ⟨ret_int (by rw [cmpN_zero f g n 0 (fun j _ h2 => HZ.out j (by omega))]), rfl⟩
theorem pos_step (x y R : Int) : (0 < if cmpI x y = 0 then R else cmpI x y) ↔ (y < x ∨ y = x ∧ 0 < R) := by
  unfold cmpI
  by_cases h1 : x < y
  · simp [h1]; omega
  · by_cases h2 : y < x
    · simp [h1, h2]
    · simp [h1, h2]; omega
theorem cmp4_pos (a0 a1 a2 a3 c0 c1 c2 c3 : Int) : decide (0 < cmpN (fun i => [a0, a1, a2, a3].getD i 0) (fun i => [c0, c1, c2, c3].getD i 0) 0 4) = laterB a0 a1 a2 a3 c0 c1 c2 c3 := by
  unfold laterB
  refine decide_eq_decide.2 ?_
  simp only [cmpN, pos_step]
  simp
theorem compare4_any (a0 a1 a2 a3 c0 c1 c2 c3 : Int) (b1 b2 : Nat) (w : World)
    (h0 : w.cell? ⟨b1, 0, none⟩ = some (.int .i64 a0)) (h1 : w.cell? ⟨b1, 1, none⟩ = some (.int .i64 a1)) (h2 : w.cell? ⟨b1, 2, none⟩ = some (.int .i64 a2)) (h3 : w.cell? ⟨b1, 3, none⟩ = some (.int .i64 a3))
    (g0 : w.cell? ⟨b2, 0, none⟩ = some (.int .i64 c0)) (g1 : w.cell? ⟨b2, 1, none⟩ = some (.int .i64 c1)) (g2 : w.cell? ⟨b2, 2, none⟩ = some (.int .i64 c2)) (g3 : w.cell? ⟨b2, 3, none⟩ = some (.int .i64 c3)) :
    Calls Try.prog 60 #[.slice (some ⟨b1, 0, none⟩) 4 4, .slice (some ⟨b2, 0, none⟩) 4 4] w fun e w' => (∃ c, decide (0 < c) = laterB a0 a1 a2 a3 c0 c1 c2 c3 ∧ e = .returned (.int .i64 c)) ∧ w = w' :=
  (compare_any 4 (fun i => [a0, a1, a2, a3].getD i 0) (fun i => [c0, c1, c2, c3].getD i 0) b1 b2 w (by omega)
    (Lib.hid fun i hi => by match i, hi with
      | 0, _ => exact h0
      | 1, _ => exact h1
      | 2, _ => exact h2
      | 3, _ => exact h3)
    (Lib.hid fun i hi => by match i, hi with
      | 0, _ => exact g0
      | 1, _ => exact g1
      | 2, _ => exact g2
      | 3, _ => exact g3)).mono fun e w' ⟨he, hw⟩ => ⟨⟨_, cmp4_pos _ _ _ _ _ _ _ _, he⟩, hw⟩

theorem later_any (a0 a1 a2 a3 c0 c1 c2 c3 : Int) (w : World) :
    Calls Try.prog 30 #[.agg #[.int .i64 a0, .int .i64 a1, .int .i64 a2, .int .i64 a3], .agg #[.int .i64 c0, .int .i64 c1, .int .i64 c2, .int .i64 c3]] w fun e w' => e = .returned (.bool (laterB a0 a1 a2 a3 c0 c1 c2 c3)) ∧ Gr w w' := by
  go_enter Try.func30, Try.ntmps30
  go_wp2_with fail
  refine (compare4_any a0 a1 a2 a3 c0 c1 c2 c3 _ _ _ (by simp [go_sem]) (by simp [go_sem]) (by simp [go_sem]) (by simp [go_sem]) (by simp [go_sem]) (by simp [go_sem]) (by simp [go_sem]) (by simp [go_sem])).mono ?_
  rintro e w' ⟨⟨c, hc, rfl⟩, rfl⟩
  go_wp2
  go_ret
  exact ⟨by simp [← hc], (by repeat (first | exact Gr.refl _ | assumption | refine Gr.alloc ?_ _ | refine Gr.drew ?_ | refine Gr.drewN ?_ _ | refine Gr.set ?_ (by first | exact Nat.le_refl _ | (simp; done) | omega) _ | refine Gr.trans ?_ (by assumption)))⟩

/-- What the law needs of the stamps of n and of n + 1. -/
theorem come_facts {r n : Int} (hr : rateB r = true) (h0 : 0 ≤ n) (h1 : n ≤ dayI r - 1) :
    chkF r (stH r (undrop r n)) (stM r (undrop r n)) (stS r (undrop r n)) (stF r (undrop r n)) = 0 ∧ numI r (stH r (undrop r n)) (stM r (undrop r n)) (stS r (undrop r n)) (stF r (undrop r n)) = n ∧
    (n = dayI r - 1 ∧ numF r (n + 1) (dayI r - 1) = 1 ∨ n < dayI r - 1 ∧ numF r (n + 1) (dayI r - 1) = 0 ∧
      laterB (stH r (undrop r (n + 1))) (stM r (undrop r (n + 1))) (stS r (undrop r (n + 1))) (stF r (undrop r (n + 1))) (stH r (undrop r n)) (stM r (undrop r n)) (stS r (undrop r n)) (stF r (undrop r n)) = true) := by
  obtain ⟨k, e⟩ := back_of hr h0 (by omega)
  refine ⟨chkF_of k, e, ?_⟩
  by_cases hl : n = dayI r - 1
  · exact .inl ⟨hl, by simp [numF, hr]; omega⟩
  · obtain ⟨k', e'⟩ := back_of hr (n := n + 1) (by omega) (by omega)
    exact .inr ⟨by omega, by simp [numF, hr]; omega, numI_mono k k' (by omega)⟩

set_option maxHeartbeats 1000000 in
theorem stampNumbersComeBack_walk (r n : Int) (w : World) :
    Calls Try.prog 9 #[.int .i64 r, .int .i64 n] w fun e w' => e = .returned (.bool true) ∧ Gr w w' := by
  have z0 := resI0
  rcases numF_cases r n (dayI r - 1) with ⟨hr, hz⟩ | ⟨hr, hw, hz⟩ | ⟨hr, hw, hn0, hn1, hz⟩
  · clear hr
    go_enter Try.func9, Try.ntmps9
    go_wp2_with (go_at_call 24; refine (StampOf_any _ _ _).mono ?_; rintro e w1 ⟨rfl, hb⟩)
    go_ret
    exact ⟨rfl, (by repeat (first | exact Gr.refl _ | assumption | refine Gr.alloc ?_ _ | refine Gr.drew ?_ | refine Gr.drewN ?_ _ | refine Gr.set ?_ (by first | exact Nat.le_refl _ | (simp; done) | omega) _ | refine Gr.trans ?_ (by assumption)))⟩
  · clear hr hw
    go_enter Try.func9, Try.ntmps9
    go_wp2_with (go_at_call 24; refine (StampOf_any _ _ _).mono ?_; rintro e w1 ⟨rfl, hb⟩)
    go_ret
    exact ⟨rfl, (by repeat (first | exact Gr.refl _ | assumption | refine Gr.alloc ?_ _ | refine Gr.drew ?_ | refine Gr.drewN ?_ _ | refine Gr.set ?_ (by first | exact Nat.le_refl _ | (simp; done) | omega) _ | refine Gr.trans ?_ (by assumption)))⟩
  · obtain ⟨f1, f2, f3⟩ := come_facts hr hn0 hn1
    have hmo : modeI r = 0 := by simp [modeI, hr]
    have hd := dayI_le hr
    clear hr hw
    rcases f3 with ⟨hl, f3⟩ | ⟨hl, f3, f4⟩
    · have hl' : (n == dayI r - 1) = true := by simpa using hl
      have HL := Lib.hid hl; clear hl
      have Hz := Lib.hid hz
      go_enter Try.func9, Try.ntmps9
      go_wp2_with (first | (go_at_call 16; refine (Day_any _ _).mono ?_; rintro e w2 ⟨rfl, rfl⟩) | ((go_at_call 22; refine (Number_any _ _ _ _ _ _).mono ?_; rintro e w1 ⟨rfl, hb⟩); obtain ⟨k0, k1, k2, k3⟩ := Gr.cells4 hb) | ((go_at_call 20; refine (Check_any _ _ _ _ _ _).mono ?_; rintro e w1 ⟨rfl, hb⟩); have k0 := hb.cell k0; have k1 := hb.cell k1; have k2 := hb.cell k2; have k3 := hb.cell k3; have hlt := cell_lt k0) | ((go_at_call 24; refine (StampOf_any _ _ _).mono ?_; rintro e w1 ⟨rfl, hb⟩); try have k0 := hb.cell k0; have k1 := hb.cell k1; have k2 := hb.cell k2; have k3 := hb.cell k3; have hlt := cell_lt k0))
      go_ret
      exact ⟨rfl, (by repeat (first | exact Gr.refl _ | assumption | refine Gr.alloc ?_ _ | refine Gr.drew ?_ | refine Gr.drewN ?_ _ | refine Gr.set ?_ (by first | exact Nat.le_refl _ | (simp; done) | omega) _ | refine Gr.trans ?_ (by assumption)))⟩
    · have hl' : (n == dayI r - 1) = false := beq_eq_false_iff_ne.2 (by omega)
      go_enter Try.func9, Try.ntmps9
      go_wp2_with (first | (go_at_call 16; refine (Day_any _ _).mono ?_; rintro e w2 ⟨rfl, rfl⟩) | ((go_at_call 22; refine (Number_any _ _ _ _ _ _).mono ?_; rintro e w1 ⟨rfl, hb⟩); obtain ⟨k0, k1, k2, k3⟩ := Gr.cells4 hb) | ((go_at_call 20; refine (Check_any _ _ _ _ _ _).mono ?_; rintro e w1 ⟨rfl, hb⟩); have k0 := hb.cell k0; have k1 := hb.cell k1; have k2 := hb.cell k2; have k3 := hb.cell k3; have hlt := cell_lt k0) | ((go_at_call 24; refine (StampOf_any _ _ _).mono ?_; rintro e w1 ⟨rfl, hb⟩); try (have k0 := hb.cell k0; have k1 := hb.cell k1; have k2 := hb.cell k2; have k3 := hb.cell k3; have hlt := cell_lt k0)) | (go_at_call 30; refine (later_any _ _ _ _ _ _ _ _ _).mono ?_; rintro e w1 ⟨rfl, hb⟩))
      go_ret
      exact ⟨rfl, (by repeat (first | exact Gr.refl _ | assumption | refine Gr.alloc ?_ _ | refine Gr.drew ?_ | refine Gr.drewN ?_ _ | refine Gr.set ?_ (by first | exact Nat.le_refl _ | (simp; done) | omega) _ | refine Gr.trans ?_ (by assumption)))⟩
end Go.Proofs.Ytgjclbkcnilkbaa
