/- The walk of StampTimesAreInverse. -/
import Derived.Test.YtgjclbkcnilkbaaStB
namespace Go.Proofs.Ytgjclbkcnilkbaa
open Go.RowKit
set_option linter.unusedVariables false
set_option linter.unusedSimpArgs false

theorem Day_any (r : Int) (w : World) :
    Calls Try.prog 16 #[.int .i64 r] w fun e w' => e = .returned (.tuple #[.int .i64 (resI (modeI r) (dayI r)), .int .i64 (modeI r)]) ∧ w = w' := by
  cases h : rateB r
  · have hm : modeI r = 16 := by simp [modeI, h]
    rw [hm, resI16]
    go_enter Try.func16, Try.ntmps16
    go_wp2_with (go_at_call 40; refine (mode_any _ _).mono ?_; rintro e w' ⟨rfl, rfl⟩)
    go_ret2
    exact ⟨rfl, rfl⟩
  · have hm : modeI r = 0 := by simp [modeI, h]
    rw [hm, resI0]
    go_enter Try.func16, Try.ntmps16
    go_wp2_with (first | (go_at_call 40; refine (mode_any _ _).mono ?_; rintro e w' ⟨rfl, rfl⟩) | (go_at_call 43; refine (day_any _ _).mono ?_; rintro e w' ⟨rfl, rfl⟩))
    go_ret2
    exact ⟨rfl, rfl⟩

/-! the plain law -/
theorem inv_at {r n : Int} (h : rateB r = true) (h0 : 0 ≤ n) (h1 : n ≤ dayI r) : millF r (millisI r n) = 0 ∧ (framesI r (millisI r n) = n ∨ framesI r (millisI r n) = n - 1) := by
  have hm := millisI_bd h h0 h1
  have hmono : millisI r n ≤ millisI r (dayI r) := by
    rcases rate_cases h with rfl | rfl | rfl | rfl <;> simp [millisI, spP, spQ, roundI] <;> omega
  refine ⟨by simp [millF, numF, h, hm.1, hmono], ?_⟩
  clear hmono hm
  rcases rate_cases h with rfl | rfl | rfl | rfl <;> simp [millisI, framesI, spP, spQ, roundI] <;> omega
theorem inv_next {r n : Int} (h : rateB r = true) (h0 : 0 ≤ n) (h1 : n < dayI r) : millF r (millisI r n + 1) = 0 ∧ framesI r (millisI r n + 1) = n ∧ numF r (n + 1) (dayI r) = 0 ∧ millisI r n < millisI r (n + 1) := by
  have hm := millisI_bd h h0 (by omega)
  have hlt : millisI r n + 1 ≤ millisI r (n + 1) := by
    rcases rate_cases h with rfl | rfl | rfl | rfl <;> simp [millisI, spP, spQ, roundI] <;> omega
  have hmono : millisI r (n + 1) ≤ millisI r (dayI r) := by
    rcases rate_cases h with rfl | rfl | rfl | rfl <;> simp [millisI, spP, spQ, roundI] <;> omega
  refine ⟨by simp [millF, numF, h]; omega, ?_, by simp [numF, h]; omega, by omega⟩
  clear hmono hm hlt
  rcases rate_cases h with rfl | rfl | rfl | rfl <;> simp [millisI, framesI, spP, spQ, roundI] <;> omega

theorem stampTimesAreInverse_walk (r n : Int) (w : World) :
    Calls Try.prog 4 #[.int .i64 r, .int .i64 n] w fun e w' => e = .returned (.bool true) ∧ Gr w w' := by
  have z0 := resI0
  rcases numF_cases r n (dayI r) with ⟨hr, hz⟩ | ⟨hr, hw, hz⟩ | ⟨hr, hw, hn0, hn1, hz⟩
  · clear hr
    go_enter Try.func4, Try.ntmps4
    go_wp2_with (first | (go_at_call 12; refine (Millis_any _ _ _).mono ?_; rintro e w1 ⟨rfl, hb⟩) | (go_at_call 16; refine (Day_any _ _).mono ?_; rintro e w2 ⟨rfl, rfl⟩))
    go_ret
    exact ⟨rfl, (by repeat (first | exact Gr.refl _ | assumption | refine Gr.alloc ?_ _ | refine Gr.drew ?_ | refine Gr.drewN ?_ _ | refine Gr.trans ?_ (by assumption)))⟩
  · clear hr hw
    go_enter Try.func4, Try.ntmps4
    go_wp2_with (first | (go_at_call 12; refine (Millis_any _ _ _).mono ?_; rintro e w1 ⟨rfl, hb⟩) | (go_at_call 16; refine (Day_any _ _).mono ?_; rintro e w2 ⟨rfl, rfl⟩))
    go_ret
    exact ⟨rfl, (by repeat (first | exact Gr.refl _ | assumption | refine Gr.alloc ?_ _ | refine Gr.drew ?_ | refine Gr.drewN ?_ _ | refine Gr.trans ?_ (by assumption)))⟩
  · have hmo : modeI r = 0 := by simp [modeI, hr]
    have hd := dayI_le hr
    obtain ⟨i1, i2⟩ := inv_at hr hn0 hn1
    have hm := millisI_bd hr hn0 hn1
    have k1 : framesI r (millisI r n) = n ∨ (framesI r (millisI r n) != n) = true ∧ framesI r (millisI r n) = n - 1 := by
      rcases i2 with h | h
      · exact .inl h
      · exact .inr ⟨by rw [bne_iff_ne]; omega, h⟩
    clear i2
    by_cases hlast : n = dayI r
    · have hl : (n == dayI r) = true := by simpa using hlast
      have Hl := Lib.hid hlast
      clear hr hw hlast
      rcases k1 with k1 | ⟨k2, k1⟩
      all_goals
        go_enter Try.func4, Try.ntmps4
        go_wp2_with (first | (go_at_call 12; refine (Millis_any _ _ _).mono ?_; rintro e w1 ⟨rfl, hb⟩) | (go_at_call 16; refine (Day_any _ _).mono ?_; rintro e w2 ⟨rfl, rfl⟩) | (go_at_call 14; refine (Frames_any _ _ _).mono ?_; rintro e w3 ⟨rfl, rfl⟩))
        go_ret
        exact ⟨rfl, (by repeat (first | exact Gr.refl _ | assumption | refine Gr.alloc ?_ _ | refine Gr.drew ?_ | refine Gr.drewN ?_ _ | refine Gr.trans ?_ (by assumption)))⟩
    · obtain ⟨j1, j2, j3, j4⟩ := inv_next hr hn0 (by omega)
      have hl : (n == dayI r) = false := by simpa using hlast
      have hn1' : n < dayI r := by omega
      clear hr hw hlast hn1
      rcases k1 with k1 | ⟨k2, k1⟩
      all_goals
        go_enter Try.func4, Try.ntmps4
        go_wp2_with (first | (go_at_call 12; refine (Millis_any _ _ _).mono ?_; rintro e w1 ⟨rfl, hb⟩) | (go_at_call 16; refine (Day_any _ _).mono ?_; rintro e w2 ⟨rfl, rfl⟩) | (go_at_call 14; refine (Frames_any _ _ _).mono ?_; rintro e w3 ⟨rfl, rfl⟩))
        go_ret
        exact ⟨rfl, (by repeat (first | exact Gr.refl _ | assumption | refine Gr.alloc ?_ _ | refine Gr.drew ?_ | refine Gr.drewN ?_ _ | refine Gr.trans ?_ (by assumption)))⟩
end Go.Proofs.Ytgjclbkcnilkbaa
