/- The contracts of stamp's Check, number and stampOf, and of their references. -/
import Derived.Test.YtgjclbkcnilkbaaStB
import Derived.IntWalk
namespace Go.Proofs.Ytgjclbkcnilkbaa
open Go.RowKit
set_option linter.unusedVariables false
set_option linter.unusedSimpArgs false

/-- The fault of a stamp. -/
def chkF (r h m s f : Int) : Int :=
  if rateB r = false then 16
  else if withinB h 0 23 = false ∨ withinB m 0 59 = false ∨ withinB s 0 59 = false ∨ withinB f 0 (cnt r - 1) = false then 1
  else if r = 29 ∧ f < 2 ∧ s = 0 ∧ m % 10 ≠ 0 then 8 else 0
theorem withinB_true {n lo hi : Int} (h : withinB n lo hi = true) : lo ≤ n ∧ n ≤ hi := of_decide_eq_true h
theorem chk_cases (r h m s f : Int) : (rateB r = false ∧ chkF r h m s f = 16) ∨
    (rateB r = true ∧ withinB h 0 23 = false ∧ chkF r h m s f = 1) ∨
    (rateB r = true ∧ withinB h 0 23 = true ∧ withinB m 0 59 = false ∧ chkF r h m s f = 1) ∨
    (rateB r = true ∧ withinB h 0 23 = true ∧ withinB m 0 59 = true ∧ withinB s 0 59 = false ∧ chkF r h m s f = 1) ∨
    (rateB r = true ∧ withinB h 0 23 = true ∧ withinB m 0 59 = true ∧ withinB s 0 59 = true ∧ withinB f 0 (cnt r - 1) = false ∧ chkF r h m s f = 1) ∨
    (rateB r = true ∧ withinB h 0 23 = true ∧ withinB m 0 59 = true ∧ withinB s 0 59 = true ∧ withinB f 0 (cnt r - 1) = true ∧
      chkF r h m s f = if r = 29 ∧ f < 2 ∧ s = 0 ∧ m % 10 ≠ 0 then 8 else 0) := by
  unfold chkF
  cases rateB r <;> cases withinB h 0 23 <;> cases withinB m 0 59 <;> cases withinB s 0 59 <;> cases withinB f 0 (cnt r - 1) <;> simp

theorem Check_any (r h m s f : Int) (w : World) :
    Calls Try.prog 20 #[.int .i64 r, .agg #[.int .i64 h, .int .i64 m, .int .i64 s, .int .i64 f]] w fun e w' => e = .returned (.int .i64 (chkF r h m s f)) ∧ Gr w w' := by
  rcases chk_cases r h m s f with ⟨hr, hz⟩ | ⟨hr, h1, hz⟩ | ⟨hr, h1, h2, hz⟩ | ⟨hr, h1, h2, h3, hz⟩ | ⟨hr, h1, h2, h3, h4, hz⟩ | ⟨hr, h1, h2, h3, h4, hz⟩
  · have hm : modeI r = 16 := by simp [modeI, hr]
    rw [hz]; clear hz hr
    go_enter Try.func20, Try.ntmps20
    go_wp2_with (go_at_call 40; refine (mode_any _ _).mono ?_; rintro e w' ⟨rfl, rfl⟩)
    go_ret
    exact ⟨rfl, (by repeat (first | exact Gr.refl _ | assumption | refine Gr.alloc ?_ _ | refine Gr.drew ?_ | refine Gr.drewN ?_ _ | (refine Gr.put ?_ ?_ _; first | exact Nat.le_refl _ | (simp; done) | omega) | (apply Gr.after; assumption)))⟩
  case inr.inr.inr.inr.inr =>
    have hm : modeI r = 0 := by simp [modeI, hr]
    obtain ⟨b1, b2⟩ := withinB_true h2
    have hlast : (if r = 29 ∧ f < 2 ∧ s = 0 ∧ m % 10 ≠ 0 then 8 else 0 : Int) = whenI (r == 29 && decide (f < 2) && (s == 0) && decide (0 < m % 10)) 8 := by
      have e : (0 < m % 10) ↔ m % 10 ≠ 0 := by omega
      simp only [whenI, cond_eq_ite, Bool.and_eq_true, beq_iff_eq, decide_eq_true_eq, e, and_assoc]
    obtain ⟨hc, hc1, hc2⟩ := cnt8_yes hr
    rw [hz, hlast]; clear hz hr hlast hc
    by_cases g1 : r = 29
    · subst g1
      by_cases g2 : f < 2
      · by_cases g3 : s = 0
        · subst g3
          go_enter Try.func20, Try.ntmps20
          go_wp2_with (go_at_call 40; refine (mode_any _ _).mono ?_; rintro e w' ⟨rfl, rfl⟩)
          go_quiet (first | (go_at_call 42; exact quiet_left (within_any _ _ _ _)) | (go_at_call 57; exact quiet_left (counted_any _ _)))
          go_wp2_with (go_at_call 41; refine (when_any _ _ _).mono ?_; rintro e w' ⟨rfl, rfl⟩)
          go_ret
          exact ⟨by simp [g2], (by repeat (first | exact Gr.refl _ | assumption | refine Gr.alloc ?_ _ | refine Gr.drew ?_ | refine Gr.drewN ?_ _ | (refine Gr.put ?_ ?_ _; first | exact Nat.le_refl _ | (simp; done) | omega) | (apply Gr.after; assumption)))⟩
        · have g3' : (s == 0) = false := by simpa using g3
          clear g3
          go_enter Try.func20, Try.ntmps20
          go_wp2_with (go_at_call 40; refine (mode_any _ _).mono ?_; rintro e w' ⟨rfl, rfl⟩)
          go_quiet (first | (go_at_call 42; exact quiet_left (within_any _ _ _ _)) | (go_at_call 57; exact quiet_left (counted_any _ _)))
          go_wp2_with (go_at_call 41; refine (when_any _ _ _).mono ?_; rintro e w' ⟨rfl, rfl⟩)
          go_ret
          exact ⟨by simp [g2, g3'], (by repeat (first | exact Gr.refl _ | assumption | refine Gr.alloc ?_ _ | refine Gr.drew ?_ | refine Gr.drewN ?_ _ | (refine Gr.put ?_ ?_ _; first | exact Nat.le_refl _ | (simp; done) | omega) | (apply Gr.after; assumption)))⟩
      · have g2' : decide (f < 2) = false := by simpa using g2
        clear g2
        go_enter Try.func20, Try.ntmps20
        go_wp2_with (go_at_call 40; refine (mode_any _ _).mono ?_; rintro e w' ⟨rfl, rfl⟩)
        go_quiet (first | (go_at_call 42; exact quiet_left (within_any _ _ _ _)) | (go_at_call 57; exact quiet_left (counted_any _ _)))
        go_wp2_with (go_at_call 41; refine (when_any _ _ _).mono ?_; rintro e w' ⟨rfl, rfl⟩)
        go_ret
        exact ⟨by simp [g2'], (by repeat (first | exact Gr.refl _ | assumption | refine Gr.alloc ?_ _ | refine Gr.drew ?_ | refine Gr.drewN ?_ _ | (refine Gr.put ?_ ?_ _; first | exact Nat.le_refl _ | (simp; done) | omega) | (apply Gr.after; assumption)))⟩
    · have g1' : (r == 29) = false := by simpa using g1
      clear g1
      go_enter Try.func20, Try.ntmps20
      go_wp2_with (go_at_call 40; refine (mode_any _ _).mono ?_; rintro e w' ⟨rfl, rfl⟩)
      go_quiet (first | (go_at_call 42; exact quiet_left (within_any _ _ _ _)) | (go_at_call 57; exact quiet_left (counted_any _ _)))
      go_wp2_with (go_at_call 41; refine (when_any _ _ _).mono ?_; rintro e w' ⟨rfl, rfl⟩)
      go_ret
      exact ⟨by simp [g1'], (by repeat (first | exact Gr.refl _ | assumption | refine Gr.alloc ?_ _ | refine Gr.drew ?_ | refine Gr.drewN ?_ _ | (refine Gr.put ?_ ?_ _; first | exact Nat.le_refl _ | (simp; done) | omega) | (apply Gr.after; assumption)))⟩
  all_goals
    have hm : modeI r = 0 := by simp [modeI, hr]
    obtain ⟨hc, hc1, hc2⟩ := cnt8_yes hr
    rw [hz]; clear hz hr hc
    go_enter Try.func20, Try.ntmps20
    go_wp2_with (go_at_call 40; refine (mode_any _ _).mono ?_; rintro e w' ⟨rfl, rfl⟩)
    go_quiet (first | (go_at_call 42; exact quiet_left (within_any _ _ _ _)) | (go_at_call 57; exact quiet_left (counted_any _ _)))
    go_wp2
    go_ret
    exact ⟨rfl, (by repeat (first | exact Gr.refl _ | assumption | refine Gr.alloc ?_ _ | refine Gr.drew ?_ | refine Gr.drewN ?_ _ | (refine Gr.put ?_ ?_ _; first | exact Nat.le_refl _ | (simp; done) | omega) | (apply Gr.after; assumption)))⟩

theorem Check8_any (r h m s f : Int) (w : World) :
    Calls Try.prog 21 #[.int .i64 r, .agg #[.int .i64 h, .int .i64 m, .int .i64 s, .int .i64 f]] w fun e w' => e = .returned (.int .i64 (chkF r h m s f)) ∧ Gr w w' := by
  rcases chk_cases r h m s f with ⟨hr, hz⟩ | ⟨hr, h1, hz⟩ | ⟨hr, h1, h2, hz⟩ | ⟨hr, h1, h2, h3, hz⟩ | ⟨hr, h1, h2, h3, h4, hz⟩ | ⟨hr, h1, h2, h3, h4, hz⟩
  · have hm : (cnt8 r == 0) = true := by simp [cnt8_no hr]
    rw [hz]; clear hz hr
    go_enter Try.func21, Try.ntmps21
    go_wp2_with (go_at_call 45; refine (counted8_any _ _).mono ?_; rintro e w' ⟨rfl, rfl⟩)
    go_ret
    exact ⟨rfl, (by repeat (first | exact Gr.refl _ | assumption | refine Gr.alloc ?_ _ | refine Gr.drew ?_ | refine Gr.drewN ?_ _ | (refine Gr.put ?_ ?_ _; first | exact Nat.le_refl _ | (simp; done) | omega) | (apply Gr.after; assumption)))⟩
  case inr.inr.inr.inr.inr =>
    obtain ⟨b1, b2⟩ := withinB_true h2
    obtain ⟨hc, hc1, hc2⟩ := cnt8_yes hr
    have hm : (cnt r == 0) = false := beq_eq_false_iff_ne.2 (by omega)
    rw [hz]; clear hz hr
    by_cases g1 : r = 29
    · subst g1
      by_cases g4 : m % 10 = 0
      · have g4' : (m % 10 != 0) = false := by simpa using g4
        have G4 := Lib.hid g4; clear g4
        rw [if_neg (by simp [G4.out])]
        go_enter Try.func21, Try.ntmps21
        go_wp2_with (go_at_call 45; refine (counted8_any _ _).mono ?_; rintro e w' ⟨rfl, rfl⟩)
        go_quiet (first | (go_at_call 46; exact quiet_left (within1_any _ _ _ _)) | (go_at_call 45; exact quiet_left (counted8_any _ _)))
        go_wp2
        go_ret
        exact ⟨rfl, (by repeat (first | exact Gr.refl _ | assumption | refine Gr.alloc ?_ _ | refine Gr.drew ?_ | refine Gr.drewN ?_ _ | (refine Gr.put ?_ ?_ _; first | exact Nat.le_refl _ | (simp; done) | omega) | (apply Gr.after; assumption)))⟩
      · have g4' : (m % 10 != 0) = true := by simpa using g4
        have G4 := Lib.hid g4; clear g4
        by_cases g3 : s = 0
        · subst g3
          by_cases g2 : f < 2
          · rw [if_pos ⟨rfl, g2, rfl, G4.out⟩]
            go_enter Try.func21, Try.ntmps21
            go_wp2_with (go_at_call 45; refine (counted8_any _ _).mono ?_; rintro e w' ⟨rfl, rfl⟩)
            go_quiet (first | (go_at_call 46; exact quiet_left (within1_any _ _ _ _)) | (go_at_call 45; exact quiet_left (counted8_any _ _)))
            go_wp2
            go_ret
            exact ⟨rfl, (by repeat (first | exact Gr.refl _ | assumption | refine Gr.alloc ?_ _ | refine Gr.drew ?_ | refine Gr.drewN ?_ _ | (refine Gr.put ?_ ?_ _; first | exact Nat.le_refl _ | (simp; done) | omega) | (apply Gr.after; assumption)))⟩
          · rw [if_neg (by omega)]
            go_enter Try.func21, Try.ntmps21
            go_wp2_with (go_at_call 45; refine (counted8_any _ _).mono ?_; rintro e w' ⟨rfl, rfl⟩)
            go_quiet (first | (go_at_call 46; exact quiet_left (within1_any _ _ _ _)) | (go_at_call 45; exact quiet_left (counted8_any _ _)))
            go_wp2
            go_ret
            exact ⟨rfl, (by repeat (first | exact Gr.refl _ | assumption | refine Gr.alloc ?_ _ | refine Gr.drew ?_ | refine Gr.drewN ?_ _ | (refine Gr.put ?_ ?_ _; first | exact Nat.le_refl _ | (simp; done) | omega) | (apply Gr.after; assumption)))⟩
        · have g3' : (s == 0) = false := by simpa using g3
          rw [if_neg (by omega)]
          clear g3
          go_enter Try.func21, Try.ntmps21
          go_wp2_with (go_at_call 45; refine (counted8_any _ _).mono ?_; rintro e w' ⟨rfl, rfl⟩)
          go_quiet (first | (go_at_call 46; exact quiet_left (within1_any _ _ _ _)) | (go_at_call 45; exact quiet_left (counted8_any _ _)))
          go_wp2
          go_ret
          exact ⟨rfl, (by repeat (first | exact Gr.refl _ | assumption | refine Gr.alloc ?_ _ | refine Gr.drew ?_ | refine Gr.drewN ?_ _ | (refine Gr.put ?_ ?_ _; first | exact Nat.le_refl _ | (simp; done) | omega) | (apply Gr.after; assumption)))⟩
    · have g1' : (r == 29) = false := by simpa using g1
      rw [if_neg (by omega)]
      clear g1
      go_enter Try.func21, Try.ntmps21
      go_wp2_with (go_at_call 45; refine (counted8_any _ _).mono ?_; rintro e w' ⟨rfl, rfl⟩)
      go_quiet (first | (go_at_call 46; exact quiet_left (within1_any _ _ _ _)) | (go_at_call 45; exact quiet_left (counted8_any _ _)))
      go_wp2
      go_ret
      exact ⟨rfl, (by repeat (first | exact Gr.refl _ | assumption | refine Gr.alloc ?_ _ | refine Gr.drew ?_ | refine Gr.drewN ?_ _ | (refine Gr.put ?_ ?_ _; first | exact Nat.le_refl _ | (simp; done) | omega) | (apply Gr.after; assumption)))⟩
  all_goals
    obtain ⟨hc, hc1, hc2⟩ := cnt8_yes hr
    have hm : (cnt r == 0) = false := beq_eq_false_iff_ne.2 (by omega)
    rw [hz]; clear hz hr
    go_enter Try.func21, Try.ntmps21
    go_wp2_with (go_at_call 45; refine (counted8_any _ _).mono ?_; rintro e w' ⟨rfl, rfl⟩)
    go_quiet (first | (go_at_call 46; exact quiet_left (within1_any _ _ _ _)) | (go_at_call 45; exact quiet_left (counted8_any _ _)))
    go_wp2
    go_ret
    exact ⟨rfl, (by repeat (first | exact Gr.refl _ | assumption | refine Gr.alloc ?_ _ | refine Gr.drew ?_ | refine Gr.drewN ?_ _ | (refine Gr.put ?_ ?_ _; first | exact Nat.le_refl _ | (simp; done) | omega) | (apply Gr.after; assumption)))⟩

/-! ### number -/
/-- The number of a right stamp. -/
def numI (r h m s f : Int) : Int := preI r (h * 60 + m) + s * cnt r + f - (60 * cnt r - minI r (h * 60 + m))
/-- What a right stamp's parts are. -/
def okS (r h m s f : Int) : Prop := rateB r = true ∧ (0 ≤ h ∧ h ≤ 23) ∧ (0 ≤ m ∧ m ≤ 59) ∧ (0 ≤ s ∧ s ≤ 59) ∧ (0 ≤ f ∧ f ≤ cnt r - 1) ∧ ¬ (r = 29 ∧ f < 2 ∧ s = 0 ∧ m % 10 ≠ 0)
theorem okS_of {r h m s f : Int} (hz : chkF r h m s f = 0) : okS r h m s f := by
  rcases chk_cases r h m s f with ⟨hr, hz'⟩ | ⟨hr, h1, hz'⟩ | ⟨hr, h1, h2, hz'⟩ | ⟨hr, h1, h2, h3, hz'⟩ | ⟨hr, h1, h2, h3, h4, hz'⟩ | ⟨hr, h1, h2, h3, h4, hz'⟩
  case inr.inr.inr.inr.inr =>
    refine ⟨hr, withinB_true h1, withinB_true h2, withinB_true h3, withinB_true h4, fun g => ?_⟩
    rw [hz', if_pos g] at hz
    cases hz
  all_goals (rw [hz'] at hz; cases hz)
theorem chkF_of {r h m s f : Int} (k : okS r h m s f) : chkF r h m s f = 0 := by
  obtain ⟨hr, h1, h2, h3, h4, h5⟩ := k
  unfold chkF withinB
  simp [hr, h1, h2, h3, h4]
  omega

end Go.Proofs.Ytgjclbkcnilkbaa
