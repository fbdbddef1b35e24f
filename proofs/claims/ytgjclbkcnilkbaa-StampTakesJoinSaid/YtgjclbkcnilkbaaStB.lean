/- The contracts of stamp's times and of its reference: rates, minutes, the day, milliseconds and frames. -/
import Derived.Test.YtgjclbkcnilkbaaStA
namespace Go.Proofs.Ytgjclbkcnilkbaa
open Go.RowKit
set_option linter.unusedVariables false
set_option linter.unusedSimpArgs false

/-! ### the reference: counted, exact, minute, day -/
def cnt8 (r : Int) : Int := if r = 24 ∨ r = 25 ∨ r = 30 then r else if r = 29 then 30 else 0
theorem counted8_any (r : Int) (w : World) :
    Calls Try.prog 45 #[.int .i64 r] w fun e w' => e = .returned (.int .i64 (cnt8 r)) ∧ w = w' := by
  cases h : rateB r
  · have h' : ¬ (r = 24 ∨ r = 25 ∨ r = 30 ∨ r = 29) := of_decide_eq_false h
    have h1 : ((r : Int) == 24) = false := beq_eq_false_iff_ne.2 (by omega)
    have h2 : ((r : Int) == 25) = false := beq_eq_false_iff_ne.2 (by omega)
    have h3 : ((r : Int) == 30) = false := beq_eq_false_iff_ne.2 (by omega)
    have h4 : ((r : Int) == 29) = false := beq_eq_false_iff_ne.2 (by omega)
    have H := Lib.hid h'; clear h h'
    go_enter Try.func45, Try.ntmps45
    go_wp2
    go_ret
    exact ⟨ret_int (by have h := H.out; rw [cnt8, if_neg (by omega), if_neg (by omega)]), rfl⟩
  · rcases rate_cases h with rfl | rfl | rfl | rfl <;> clear h <;>
    · go_enter Try.func45, Try.ntmps45
      go_wp2
      go_ret
      exact ⟨rfl, rfl⟩
theorem cnt8_no {r : Int} (h : rateB r = false) : cnt8 r = 0 := by
  have h' : ¬ (r = 24 ∨ r = 25 ∨ r = 30 ∨ r = 29) := of_decide_eq_false h
  rw [cnt8, if_neg (by omega), if_neg (by omega)]
theorem cnt8_yes {r : Int} (h : rateB r = true) : cnt8 r = cnt r ∧ 24 ≤ cnt r ∧ cnt r ≤ 30 := by
  rcases rate_cases h with rfl | rfl | rfl | rfl <;> decide

theorem exact8_any (r : Int) (w : World) :
    Calls Try.prog 54 #[.int .i64 r] w fun e w' => e = .returned (.tuple #[.int .i64 (spP r), .int .i64 (spQ r)]) ∧ w = w' := by
  by_cases h : r = 29
  · subst h
    go_enter Try.func54, Try.ntmps54
    go_wp2
    go_ret2
    exact ⟨rfl, rfl⟩
  · have h1 : ((r : Int) == 29) = false := beq_eq_false_iff_ne.2 h
    have H := Lib.hid h; clear h
    go_enter Try.func54, Try.ntmps54
    go_wp2
    go_ret2
    exact ⟨by rw [spP, spQ, if_neg H.out, if_neg H.out]; rfl, rfl⟩

/-- The frames of a minute of the day. -/
def minI (r n : Int) : Int := if r = 29 ∧ n % 10 ≠ 0 then 1798 else 60 * cnt r
theorem minute8_any (r n : Int) (h : rateB r = true) (hn : 0 ≤ n) (w : World) :
    Calls Try.prog 66 #[.int .i64 r, .int .i64 n] w fun e w' => e = .returned (.int .i64 (minI r n)) ∧ w = w' := by
  rcases rate_cases h with rfl | rfl | rfl | rfl <;> clear h
  case inr.inr.inr =>
    by_cases hm : n % 10 = 0
    · have hm' : ((n % 10 : Int) != 0) = false := by simpa using hm
      have H := Lib.hid hm; clear hm
      go_enter Try.func66, Try.ntmps66
      go_wp2_with (go_at_call 45; refine (counted8_any _ _).mono ?_; rintro e w' ⟨rfl, rfl⟩; rw [show cnt8 29 = 30 from rfl])
      go_ret
      exact ⟨ret_int (by rw [minI, if_neg (by simp [H.out])]; rfl), rfl⟩
    · have hm' : ((n % 10 : Int) != 0) = true := by simpa using hm
      have H := Lib.hid hm; clear hm
      go_enter Try.func66, Try.ntmps66
      go_wp2_with (go_at_call 45; refine (counted8_any _ _).mono ?_; rintro e w' ⟨rfl, rfl⟩; rw [show cnt8 29 = 30 from rfl])
      go_ret
      exact ⟨ret_int (by rw [minI, if_pos ⟨rfl, H.out⟩]), rfl⟩
  all_goals
    go_enter Try.func66, Try.ntmps66
    go_wp2_with (go_at_call 45; refine (counted8_any _ _).mono ?_; rintro e w' ⟨rfl, rfl⟩; simp only [show cnt8 24 = 24 from rfl, show cnt8 25 = 25 from rfl, show cnt8 30 = 30 from rfl])
    go_ret
    exact ⟨ret_int (by rw [minI, if_neg (by omega)]; rfl), rfl⟩

/-- The frames ahead of a minute of the day. -/
def preI (r m : Int) : Int := 60 * cnt r * m - (if r = 29 then 2 * (m - (m + 9) / 10) else 0)
theorem preI_succ {r : Int} (h : rateB r = true) (m : Int) (hm : 0 ≤ m) : preI r (m + 1) = preI r m + minI r m := by
  rcases rate_cases h with rfl | rfl | rfl | rfl <;> simp only [preI, minI, cnt] <;> simp <;> (try split) <;> omega
theorem preI_day {r : Int} (h : rateB r = true) : preI r 1440 = dayI r := by
  rcases rate_cases h with rfl | rfl | rfl | rfl <;> decide +kernel
theorem minI_bd {r : Int} (h : rateB r = true) (m : Int) : 1440 ≤ minI r m ∧ minI r m ≤ 1800 := by
  rcases rate_cases h with rfl | rfl | rfl | rfl <;> simp only [minI, cnt] <;> simp <;> (try split) <;> omega
theorem preI_bd {r : Int} (h : rateB r = true) (m : Int) (hm : 0 ≤ m) : 1440 * m ≤ preI r m ∧ preI r m ≤ 1800 * m := by
  rcases rate_cases h with rfl | rfl | rfl | rfl <;> simp only [preI, cnt] <;> simp <;> omega

set_option maxRecDepth 100000 in
theorem day8_any (r : Int) (h : rateB r = true) (w : World) :
    Calls Try.prog 47 #[.int .i64 r] w fun e w' => e = .returned (.int .i64 (dayI r)) ∧ w = w' := by
  have HD := Lib.hid (preI_day h)
  have Hr := Lib.hid h; clear h
  go_enter Try.func47, Try.ntmps47
  go_wp2
  go_loop [3, 5] (fun n m => ∃ k : Nat, k ≤ 1440 ∧ m = .int .i64 k ∧ n = .int .i64 (preI r k)) (fun _ m => 1440 - (intOf m).toNat)
  case atStart => exact ⟨0, by omega, rfl, by simp [preI]⟩
  case round =>
    obtain ⟨k, hk, rfl, rfl⟩ := hrel
    have hb := preI_bd Hr.out k (by omega)
    have hm := minI_bd Hr.out k
    by_cases hlt : k < 1440
    · go_wp2_with (go_at_call 66; refine (minute8_any _ _ Hr.out (by omega) _).mono ?_; rintro e w' ⟨rfl, rfl⟩)
      go_round
      case rel => exact ⟨k + 1, by omega, by go_num, by rw [show ((k + 1 : Nat) : Int) = (k : Int) + 1 from by omega, preI_succ Hr.out k (by omega)]⟩
      case measure => simp [intOf]; omega
    · go_wp2
      go_ret
      exact ⟨ret_int (by rw [show (k : Int) = 1440 by omega]; exact HD.out), rfl⟩

/-! ### milliseconds and frames -/
def millisI (r n : Int) : Int := roundI (n * 1000 * spQ r) (spP r)
def framesI (r n : Int) : Int := n * spP r / (1000 * spQ r)
theorem millis_any (r n : Int) (h : rateB r = true) (h0 : 0 ≤ n) (h1 : n ≤ 100000000) (w : World) :
    Calls Try.prog 44 #[.int .i64 r, .int .i64 n] w fun e w' => e = .returned (.int .i64 (millisI r n)) ∧ w = w' := by
  rcases rate_cases h with rfl | rfl | rfl | rfl
  all_goals
    go_enter Try.func44, Try.ntmps44
    go_wp2_with (first | (go_at_call 51; refine (speed_yes _ h _).mono ?_; rintro e w' ⟨rfl, rfl⟩; simp only [spP, spQ]; clear h) | (go_at_call 65; refine (round_any _ _ (by omega) (by omega) (by omega) (by omega) _).mono ?_; rintro e w' ⟨rfl, rfl⟩))
    go_ret
    exact ⟨ret_int (by simp [millisI, spP, spQ]), rfl⟩
theorem millis8_any (r n : Int) (h : rateB r = true) (h0 : 0 ≤ n) (h1 : n ≤ 100000000) (w : World) :
    Calls Try.prog 48 #[.int .i64 r, .int .i64 n] w fun e w' => e = .returned (.int .i64 (millisI r n)) ∧ w = w' := by
  rcases rate_cases h with rfl | rfl | rfl | rfl <;> clear h
  all_goals
    go_enter Try.func48, Try.ntmps48
    go_wp2_with (go_at_call 54; refine (exact8_any _ _).mono ?_; rintro e w' ⟨rfl, rfl⟩; simp only [spP, spQ])
    go_ret
    exact ⟨ret_int (by simp [millisI, spP, spQ, roundI]; try omega), rfl⟩
theorem frames_any (r n : Int) (h : rateB r = true) (h0 : 0 ≤ n) (h1 : n ≤ 100000000) (w : World) :
    Calls Try.prog 49 #[.int .i64 r, .int .i64 n] w fun e w' => e = .returned (.int .i64 (framesI r n)) ∧ w = w' := by
  rcases rate_cases h with rfl | rfl | rfl | rfl
  all_goals
    go_enter Try.func49, Try.ntmps49
    go_wp2_with (go_at_call 51; refine (speed_yes _ h _).mono ?_; rintro e w' ⟨rfl, rfl⟩; simp only [spP, spQ]; clear h)
    go_ret
    exact ⟨ret_int (by simp [framesI, spP, spQ]), rfl⟩
theorem frames8_any (r n : Int) (h : rateB r = true) (h0 : 0 ≤ n) (h1 : n ≤ 100000000) (w : World) :
    Calls Try.prog 50 #[.int .i64 r, .int .i64 n] w fun e w' => e = .returned (.int .i64 (framesI r n)) ∧ w = w' := by
  rcases rate_cases h with rfl | rfl | rfl | rfl <;> clear h
  all_goals
    go_enter Try.func50, Try.ntmps50
    go_wp2_with (go_at_call 54; refine (exact8_any _ _).mono ?_; rintro e w' ⟨rfl, rfl⟩; simp only [spP, spQ])
    go_ret
    exact ⟨ret_int (by simp [framesI, spP, spQ]), rfl⟩
theorem millisI_bd {r n : Int} (h : rateB r = true) (h0 : 0 ≤ n) (h1 : n ≤ dayI r) : 0 ≤ millisI r n ∧ millisI r n ≤ 100000000 := by
  rcases rate_cases h with rfl | rfl | rfl | rfl
  · rw [show dayI 24 = 2073600 from by decide +kernel] at h1; simp [millisI, spP, spQ, roundI]; omega
  · rw [show dayI 25 = 2160000 from by decide +kernel] at h1; simp [millisI, spP, spQ, roundI]; omega
  · rw [show dayI 30 = 2592000 from by decide +kernel] at h1; simp [millisI, spP, spQ, roundI]; omega
  · rw [show dayI 29 = 2589408 from by decide +kernel] at h1; simp [millisI, spP, spQ, roundI]; omega

/-- The fault of a number of frames. -/
def numF (r n hi : Int) : Int := if rateB r then (if 0 ≤ n ∧ n ≤ hi then 0 else 1) else 16
theorem firstL2 (a b : Int) : firstL [a, b] = if a = 0 then b else a := by simp [firstL, firstN]; intros; omega
theorem numF_first (r n hi : Int) : firstL [modeI r, whenI (!withinB n 0 hi) 1] = numF r n hi := by
  rw [firstL2]; unfold modeI whenI withinB numF
  cases rateB r <;> by_cases h : 0 ≤ n ∧ n ≤ hi <;> simp [h]

def resI (f v : Int) : Int := if f = 0 then v else 0
theorem resI16 (x : Int) : resI 16 x = 0 := rfl
theorem resI1 (x : Int) : resI 1 x = 0 := rfl
theorem resI8 (x : Int) : resI 8 x = 0 := rfl
theorem resI0 (x : Int) : resI 0 x = x := rfl
theorem numF_cases (r n hi : Int) : (rateB r = false ∧ numF r n hi = 16) ∨ (rateB r = true ∧ withinB n 0 hi = false ∧ numF r n hi = 1) ∨ (rateB r = true ∧ withinB n 0 hi = true ∧ 0 ≤ n ∧ n ≤ hi ∧ numF r n hi = 0) := by
  unfold numF withinB
  cases rateB r <;> by_cases h : 0 ≤ n ∧ n ≤ hi <;> simp [h] <;> omega
theorem Millis_any (r n : Int) (w : World) :
    Calls Try.prog 12 #[.int .i64 r, .int .i64 n] w fun e w' => e = .returned (.tuple #[.int .i64 (resI (numF r n (dayI r)) (millisI r n)), .int .i64 (numF r n (dayI r))]) ∧ Gr w w' := by
  have Hfi := Lib.hid (numF_first r n (dayI r))
  rcases numF_cases r n (dayI r) with ⟨hr, hz⟩ | ⟨hr, hw, hz⟩ | ⟨hr, hw, hn0, hn1, hz⟩
  case inr.inr =>
    have hd := dayI_le hr
    have Hr := Lib.hid hr
    rw [hz] at Hfi ⊢
    rw [show resI 0 (millisI r n) = millisI r n from rfl]
    clear hz hr hw
    go_enter Try.func12, Try.ntmps12
    go_wp2_with (first | (go_at_call 40; refine (mode_any _ _).mono ?_; rintro e w' ⟨rfl, rfl⟩) | (go_at_call 43; refine (day_any _ _).mono ?_; rintro e w' ⟨rfl, rfl⟩) | (go_at_call 42; refine (within_any _ _ _ _).mono ?_; rintro e w' ⟨rfl, rfl⟩) | (go_at_call 41; refine (when_any _ _ _).mono ?_; rintro e w' ⟨rfl, rfl⟩) | ((go_at_call 39; refine (first2_any _ _ _ _ _ (by simp)).mono ?_; rintro e w' ⟨rfl, rfl⟩); rw [Hfi.out]) | (go_at_call 44; refine (millis_any _ _ Hr.out (by omega) (by omega) _).mono ?_; rintro e w' ⟨rfl, rfl⟩))
    go_ret2
    exact ⟨rfl, (by repeat (first | exact Gr.refl _ | assumption | refine Gr.alloc ?_ _ | refine Gr.drew ?_ | refine Gr.drewN ?_ _ | (refine Gr.put ?_ ?_ _; first | exact Nat.le_refl _ | (simp; done) | omega) | (apply Gr.after; assumption)))⟩
  all_goals
    rw [hz] at Hfi ⊢
    simp only [resI16, resI1]
    clear hz hr
    try clear hw
    go_enter Try.func12, Try.ntmps12
    go_wp2_with (first | (go_at_call 40; refine (mode_any _ _).mono ?_; rintro e w' ⟨rfl, rfl⟩) | (go_at_call 43; refine (day_any _ _).mono ?_; rintro e w' ⟨rfl, rfl⟩) | (go_at_call 42; refine (within_any _ _ _ _).mono ?_; rintro e w' ⟨rfl, rfl⟩) | (go_at_call 41; refine (when_any _ _ _).mono ?_; rintro e w' ⟨rfl, rfl⟩) | ((go_at_call 39; refine (first2_any _ _ _ _ _ (by simp)).mono ?_; rintro e w' ⟨rfl, rfl⟩); rw [Hfi.out]))
    go_ret2
    exact ⟨rfl, (by repeat (first | exact Gr.refl _ | assumption | refine Gr.alloc ?_ _ | refine Gr.drew ?_ | refine Gr.drewN ?_ _ | (refine Gr.put ?_ ?_ _; first | exact Nat.le_refl _ | (simp; done) | omega) | (apply Gr.after; assumption)))⟩
theorem Millis8_any (r n : Int) (w : World) :
    Calls Try.prog 13 #[.int .i64 r, .int .i64 n] w fun e w' => e = .returned (.tuple #[.int .i64 (resI (numF r n (dayI r)) (millisI r n)), .int .i64 (numF r n (dayI r))]) ∧ w = w' := by
  rcases numF_cases r n (dayI r) with ⟨hr, hz⟩ | ⟨hr, hw, hz⟩ | ⟨hr, hw, hn0, hn1, hz⟩
  · rw [hz, resI16]
    have hc := cnt8_no hr
    clear hz
    go_enter Try.func13, Try.ntmps13
    go_wp2_with (first | (go_at_call 45; refine (counted8_any _ _).mono ?_; rintro e w' ⟨rfl, rfl⟩))
    go_ret2
    exact ⟨rfl, rfl⟩
  · rw [hz, resI1]
    obtain ⟨hc, hc1, hc2⟩ := cnt8_yes hr
    have hcb : (cnt8 r == 0) = false := beq_eq_false_iff_ne.2 (by omega)
    have Hr := Lib.hid hr
    clear hz hc hr
    go_enter Try.func13, Try.ntmps13
    go_wp2_with (first | (go_at_call 45; refine (counted8_any _ _).mono ?_; rintro e w' ⟨rfl, rfl⟩) | (go_at_call 47; refine (day8_any _ Hr.out _).mono ?_; rintro e w' ⟨rfl, rfl⟩) | (go_at_call 46; refine (within1_any _ _ _ _).mono ?_; rintro e w' ⟨rfl, rfl⟩))
    go_ret2
    exact ⟨rfl, rfl⟩
  · rw [hz, resI0]
    have hd := dayI_le hr
    obtain ⟨hc, hc1, hc2⟩ := cnt8_yes hr
    have hcb : (cnt8 r == 0) = false := beq_eq_false_iff_ne.2 (by omega)
    have Hr := Lib.hid hr
    clear hz hc hr
    go_enter Try.func13, Try.ntmps13
    go_wp2_with (first | (go_at_call 45; refine (counted8_any _ _).mono ?_; rintro e w' ⟨rfl, rfl⟩) | (go_at_call 47; refine (day8_any _ Hr.out _).mono ?_; rintro e w' ⟨rfl, rfl⟩) | (go_at_call 46; refine (within1_any _ _ _ _).mono ?_; rintro e w' ⟨rfl, rfl⟩) | (go_at_call 48; refine (millis8_any _ _ Hr.out (by omega) (by omega) _).mono ?_; rintro e w' ⟨rfl, rfl⟩))
    go_ret2
    exact ⟨rfl, rfl⟩

/-- The fault of milliseconds. -/
def millF (r n : Int) : Int := numF r n (millisI r (dayI r))
theorem Frames_any (r n : Int) (w : World) :
    Calls Try.prog 14 #[.int .i64 r, .int .i64 n] w fun e w' => e = .returned (.tuple #[.int .i64 (resI (millF r n) (framesI r n)), .int .i64 (millF r n)]) ∧ w = w' := by
  unfold millF
  rcases numF_cases r n (millisI r (dayI r)) with ⟨hr, hz⟩ | ⟨hr, hw, hz⟩ | ⟨hr, hw, hn0, hn1, hz⟩
  · rw [hz, resI16]
    have hc : modeI r = 16 := by simp [modeI, hr]
    clear hz
    go_enter Try.func14, Try.ntmps14
    go_wp2_with (first | (go_at_call 40; refine (mode_any _ _).mono ?_; rintro e w' ⟨rfl, rfl⟩))
    go_ret2
    exact ⟨rfl, rfl⟩
  · rw [hz, resI1]
    have hc : modeI r = 0 := by simp [modeI, hr]
    have hd := dayI_le hr
    have Hr := Lib.hid hr
    clear hz hr
    go_enter Try.func14, Try.ntmps14
    go_wp2_with (first | (go_at_call 40; refine (mode_any _ _).mono ?_; rintro e w' ⟨rfl, rfl⟩) | (go_at_call 43; refine (day_any _ _).mono ?_; rintro e w' ⟨rfl, rfl⟩) | (go_at_call 44; refine (millis_any _ _ Hr.out (by omega) (by omega) _).mono ?_; rintro e w' ⟨rfl, rfl⟩) | (go_at_call 42; refine (within_any _ _ _ _).mono ?_; rintro e w' ⟨rfl, rfl⟩))
    go_ret2
    exact ⟨rfl, rfl⟩
  · rw [hz, resI0]
    have hc : modeI r = 0 := by simp [modeI, hr]
    have hd := dayI_le hr
    have hm := millisI_bd hr (show 0 ≤ dayI r by omega) (Int.le_refl _)
    have Hr := Lib.hid hr
    clear hz hr
    go_enter Try.func14, Try.ntmps14
    go_wp2_with (first | (go_at_call 40; refine (mode_any _ _).mono ?_; rintro e w' ⟨rfl, rfl⟩) | (go_at_call 43; refine (day_any _ _).mono ?_; rintro e w' ⟨rfl, rfl⟩) | (go_at_call 44; refine (millis_any _ _ Hr.out (by omega) (by omega) _).mono ?_; rintro e w' ⟨rfl, rfl⟩) | (go_at_call 42; refine (within_any _ _ _ _).mono ?_; rintro e w' ⟨rfl, rfl⟩) | (go_at_call 49; refine (frames_any _ _ Hr.out (by omega) (by omega) _).mono ?_; rintro e w' ⟨rfl, rfl⟩))
    go_ret2
    exact ⟨rfl, rfl⟩
theorem Frames8_any (r n : Int) (w : World) :
    Calls Try.prog 15 #[.int .i64 r, .int .i64 n] w fun e w' => e = .returned (.tuple #[.int .i64 (resI (millF r n) (framesI r n)), .int .i64 (millF r n)]) ∧ w = w' := by
  unfold millF
  rcases numF_cases r n (millisI r (dayI r)) with ⟨hr, hz⟩ | ⟨hr, hw, hz⟩ | ⟨hr, hw, hn0, hn1, hz⟩
  · rw [hz, resI16]
    have hc := cnt8_no hr
    clear hz
    go_enter Try.func15, Try.ntmps15
    go_wp2_with (first | (go_at_call 45; refine (counted8_any _ _).mono ?_; rintro e w' ⟨rfl, rfl⟩))
    go_ret2
    exact ⟨rfl, rfl⟩
  · rw [hz, resI1]
    obtain ⟨hc, hc1, hc2⟩ := cnt8_yes hr
    have hcb : (cnt8 r == 0) = false := beq_eq_false_iff_ne.2 (by omega)
    have hd := dayI_le hr
    have Hr := Lib.hid hr
    clear hz hc hr
    go_enter Try.func15, Try.ntmps15
    go_wp2_with (first | (go_at_call 45; refine (counted8_any _ _).mono ?_; rintro e w' ⟨rfl, rfl⟩) | (go_at_call 47; refine (day8_any _ Hr.out _).mono ?_; rintro e w' ⟨rfl, rfl⟩) | (go_at_call 46; refine (within1_any _ _ _ _).mono ?_; rintro e w' ⟨rfl, rfl⟩) | (go_at_call 48; refine (millis8_any _ _ Hr.out (by omega) (by omega) _).mono ?_; rintro e w' ⟨rfl, rfl⟩))
    go_ret2
    exact ⟨rfl, rfl⟩
  · rw [hz, resI0]
    have hd := dayI_le hr
    have hm := millisI_bd hr (show 0 ≤ dayI r by omega) (Int.le_refl _)
    obtain ⟨hc, hc1, hc2⟩ := cnt8_yes hr
    have hcb : (cnt8 r == 0) = false := beq_eq_false_iff_ne.2 (by omega)
    have Hr := Lib.hid hr
    clear hz hc hr
    go_enter Try.func15, Try.ntmps15
    go_wp2_with (first | (go_at_call 45; refine (counted8_any _ _).mono ?_; rintro e w' ⟨rfl, rfl⟩) | (go_at_call 47; refine (day8_any _ Hr.out _).mono ?_; rintro e w' ⟨rfl, rfl⟩) | (go_at_call 46; refine (within1_any _ _ _ _).mono ?_; rintro e w' ⟨rfl, rfl⟩) | (go_at_call 48; refine (millis8_any _ _ Hr.out (by omega) (by omega) _).mono ?_; rintro e w' ⟨rfl, rfl⟩) | (go_at_call 50; refine (frames8_any _ _ Hr.out (by omega) (by omega) _).mono ?_; rintro e w' ⟨rfl, rfl⟩))
    go_ret2
    exact ⟨rfl, rfl⟩
theorem Day_any (r : Int) (w : World) :
    Calls Try.prog 16 #[.int .i64 r] w fun e w' => e = .returned (.tuple #[.int .i64 (resI (modeI r) (dayI r)), .int .i64 (modeI r)]) ∧ w = w' := by
  cases h : rateB r
  · have hm : modeI r = 16 := by simp [modeI, h]
    rw [hm, resI16]
    go_enter Try.func16, Try.ntmps16
    go_wp2_with (go_at_call 40; refine (mode_any _ _).mono ?_; rintro e w' ⟨rfl, rfl⟩)
    go_ret2
    exact ⟨rfl, rfl⟩
  · have hm : modeI r = 0 := by simp [modeI, h]
    rw [hm, resI0]
    go_enter Try.func16, Try.ntmps16
    go_wp2_with (first | (go_at_call 40; refine (mode_any _ _).mono ?_; rintro e w' ⟨rfl, rfl⟩) | (go_at_call 43; refine (day_any _ _).mono ?_; rintro e w' ⟨rfl, rfl⟩))
    go_ret2
    exact ⟨rfl, rfl⟩

end Go.Proofs.Ytgjclbkcnilkbaa
