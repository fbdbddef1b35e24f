/- Show and Read: the contracts of rates, Check and its reference (as in StA, StB, StC, for a seat without the rest of package stamp). -/
import Derived.Test.YtchbbdplopchlaaDoorBs
import Derived.IntWalk
namespace Go.Proofs.YtchbbdplopchlaaDoor
open Go.RowKit
set_option linter.unusedVariables false
set_option linter.unusedSimpArgs false

def withinB (n lo hi : Int) : Bool := decide (lo ≤ n ∧ n ≤ hi)
theorem within_any (n lo hi : Int) (w : World) :
    Calls Tryd.prog 18 #[.int .i64 n, .int .i64 lo, .int .i64 hi] w fun e w' => e = .returned (.bool (withinB n lo hi)) ∧ w = w' := by
  by_cases h1 : lo ≤ n
  · go_enter Tryd.func18, Tryd.ntmps18
    go_wp2
    go_ret
    exact ⟨by simp [withinB, h1], rfl⟩
  · have h1' : decide (lo ≤ n) = false := by simpa using h1
    go_enter Tryd.func18, Tryd.ntmps18
    go_wp2
    go_ret
    exact ⟨by simp [withinB]; omega, rfl⟩
theorem within1_any (n lo hi : Int) (w : World) :
    Calls Tryd.prog 17 #[.int .i64 n, .int .i64 lo, .int .i64 hi] w fun e w' => e = .returned (.bool (withinB n lo hi)) ∧ w = w' := by
  by_cases h1 : lo ≤ n
  · go_enter Tryd.func17, Tryd.ntmps17
    go_wp2
    go_ret
    exact ⟨by simp [withinB, h1], rfl⟩
  · have h1' : decide (lo ≤ n) = false := by simpa using h1
    go_enter Tryd.func17, Tryd.ntmps17
    go_wp2
    go_ret
    exact ⟨by simp [withinB]; omega, rfl⟩

def whenI (b : Bool) (n : Int) : Int := bif b then n else 0
theorem when_any (b : Bool) (n : Int) (w : World) :
    Calls Tryd.prog 20 #[.bool b, .int .i64 n] w fun e w' => e = .returned (.int .i64 (whenI b n)) ∧ w = w' := by
  cases b <;>
  · go_enter Tryd.func20, Tryd.ntmps20
    go_wp2
    go_ret
    exact ⟨rfl, rfl⟩

/-- A rate: 24, 25, 30 or 29 (drop). -/
def rateB (r : Int) : Bool := decide (r = 24 ∨ r = 25 ∨ r = 30 ∨ r = 29)
theorem rate_cases {r : Int} (h : rateB r = true) : r = 24 ∨ r = 25 ∨ r = 30 ∨ r = 29 := of_decide_eq_true h
def spP (r : Int) : Int := if r = 29 then 30000 else r
def spQ (r : Int) : Int := if r = 29 then 1001 else 1
theorem speed_yes (r : Int) (h : rateB r = true) (w : World) :
    Calls Tryd.prog 24 #[.int .i64 r] w fun e w' => e = .returned (.tuple #[.int .i64 (spP r), .int .i64 (spQ r), .bool true]) ∧ w = w' := by
  rcases rate_cases h with rfl | rfl | rfl | rfl <;> clear h <;>
  · go_enter Tryd.func24, Tryd.ntmps24
    go_wp2
    go_ret3
    exact ⟨rfl, rfl⟩
theorem speed_no (r : Int) (h : rateB r = false) (w : World) :
    Calls Tryd.prog 24 #[.int .i64 r] w fun e w' => e = .returned (.tuple #[.int .i64 0, .int .i64 0, .bool false]) ∧ w = w' := by
  have h' : ¬ (r = 24 ∨ r = 25 ∨ r = 30 ∨ r = 29) := of_decide_eq_false h
  have h1 : ((r : Int) == 24) = false := beq_eq_false_iff_ne.2 (by omega)
  have h2 : ((r : Int) == 25) = false := beq_eq_false_iff_ne.2 (by omega)
  have h3 : ((r : Int) == 30) = false := beq_eq_false_iff_ne.2 (by omega)
  have h4 : ((r : Int) == 29) = false := beq_eq_false_iff_ne.2 (by omega)
  clear h h'
  go_enter Tryd.func24, Tryd.ntmps24
  go_wp2
  go_ret3
  exact ⟨rfl, rfl⟩

def modeI (r : Int) : Int := bif rateB r then 0 else 16
theorem mode_any (r : Int) (w : World) :
    Calls Tryd.prog 13 #[.int .i64 r] w fun e w' => e = .returned (.int .i64 (modeI r)) ∧ w = w' := by
  cases h : rateB r
  · go_enter Tryd.func13, Tryd.ntmps13
    go_wp2_with (first | (go_at_call 24; refine (speed_no _ h _).mono ?_; rintro e w' ⟨rfl, rfl⟩) | (go_at_call 20; refine (when_any _ _ _).mono ?_; rintro e w' ⟨rfl, rfl⟩))
    go_ret
    exact ⟨ret_int (by simp [modeI, whenI, h]), rfl⟩
  · go_enter Tryd.func13, Tryd.ntmps13
    go_wp2_with (first | (go_at_call 24; refine (speed_yes _ h _).mono ?_; rintro e w' ⟨rfl, rfl⟩) | (go_at_call 20; refine (when_any _ _ _).mono ?_; rintro e w' ⟨rfl, rfl⟩))
    go_ret
    exact ⟨ret_int (by simp [modeI, whenI, h]), rfl⟩

def cnt (r : Int) : Int := if r = 29 then 30 else r
theorem counted_any (r : Int) (w : World) :
    Calls Tryd.prog 19 #[.int .i64 r] w fun e w' => e = .returned (.int .i64 (cnt r)) ∧ w = w' := by
  by_cases h : r = 29
  · subst h
    go_enter Tryd.func19, Tryd.ntmps19
    go_wp2
    go_ret
    exact ⟨rfl, rfl⟩
  · have h1 : ((r : Int) == 29) = false := beq_eq_false_iff_ne.2 h
    have H := Lib.hid h; clear h
    go_enter Tryd.func19, Tryd.ntmps19
    go_wp2
    go_ret
    exact ⟨ret_int (by rw [cnt, if_neg H.out]), rfl⟩

def cnt8 (r : Int) : Int := if r = 24 ∨ r = 25 ∨ r = 30 then r else if r = 29 then 30 else 0
theorem counted8_any (r : Int) (w : World) :
    Calls Tryd.prog 16 #[.int .i64 r] w fun e w' => e = .returned (.int .i64 (cnt8 r)) ∧ w = w' := by
  cases h : rateB r
  · have h' : ¬ (r = 24 ∨ r = 25 ∨ r = 30 ∨ r = 29) := of_decide_eq_false h
    have h1 : ((r : Int) == 24) = false := beq_eq_false_iff_ne.2 (by omega)
    have h2 : ((r : Int) == 25) = false := beq_eq_false_iff_ne.2 (by omega)
    have h3 : ((r : Int) == 30) = false := beq_eq_false_iff_ne.2 (by omega)
    have h4 : ((r : Int) == 29) = false := beq_eq_false_iff_ne.2 (by omega)
    have H := Lib.hid h'; clear h h'
    go_enter Tryd.func16, Tryd.ntmps16
    go_wp2
    go_ret
    exact ⟨ret_int (by have h := H.out; rw [cnt8, if_neg (by omega), if_neg (by omega)]), rfl⟩
  · rcases rate_cases h with rfl | rfl | rfl | rfl <;> clear h <;>
    · go_enter Tryd.func16, Tryd.ntmps16
      go_wp2
      go_ret
      exact ⟨rfl, rfl⟩
theorem cnt8_no {r : Int} (h : rateB r = false) : cnt8 r = 0 := by
  have h' : ¬ (r = 24 ∨ r = 25 ∨ r = 30 ∨ r = 29) := of_decide_eq_false h
  rw [cnt8, if_neg (by omega), if_neg (by omega)]
theorem cnt8_yes {r : Int} (h : rateB r = true) : cnt8 r = cnt r ∧ 24 ≤ cnt r ∧ cnt r ≤ 30 := by
  rcases rate_cases h with rfl | rfl | rfl | rfl <;> decide

/-- The fault of a stamp. -/
def chkF (r h m s f : Int) : Int :=
  if rateB r = false then 16
  else if withinB h 0 23 = false ∨ withinB m 0 59 = false ∨ withinB s 0 59 = false ∨ withinB f 0 (cnt r - 1) = false then 1
  else if r = 29 ∧ f < 2 ∧ s = 0 ∧ m % 10 ≠ 0 then 8 else 0
theorem withinB_true {n lo hi : Int} (h : withinB n lo hi = true) : lo ≤ n ∧ n ≤ hi := of_decide_eq_true h
theorem chk_cases (r h m s f : Int) : (rateB r = false ∧ chkF r h m s f = 16) ∨
    (rateB r = true ∧ withinB h 0 23 = false ∧ chkF r h m s f = 1) ∨
    (rateB r = true ∧ withinB h 0 23 = true ∧ withinB m 0 59 = false ∧ chkF r h m s f = 1) ∨
    (rateB r = true ∧ withinB h 0 23 = true ∧ withinB m 0 59 = true ∧ withinB s 0 59 = false ∧ chkF r h m s f = 1) ∨
    (rateB r = true ∧ withinB h 0 23 = true ∧ withinB m 0 59 = true ∧ withinB s 0 59 = true ∧ withinB f 0 (cnt r - 1) = false ∧ chkF r h m s f = 1) ∨
    (rateB r = true ∧ withinB h 0 23 = true ∧ withinB m 0 59 = true ∧ withinB s 0 59 = true ∧ withinB f 0 (cnt r - 1) = true ∧
      chkF r h m s f = if r = 29 ∧ f < 2 ∧ s = 0 ∧ m % 10 ≠ 0 then 8 else 0) := by
  unfold chkF
  cases rateB r <;> cases withinB h 0 23 <;> cases withinB m 0 59 <;> cases withinB s 0 59 <;> cases withinB f 0 (cnt r - 1) <;> simp

theorem Check_any (r h m s f : Int) (w : World) :
    Calls Tryd.prog 9 #[.int .i64 r, .agg #[.int .i64 h, .int .i64 m, .int .i64 s, .int .i64 f]] w fun e w' => e = .returned (.int .i64 (chkF r h m s f)) ∧ Gr w w' := by
  rcases chk_cases r h m s f with ⟨hr, hz⟩ | ⟨hr, h1, hz⟩ | ⟨hr, h1, h2, hz⟩ | ⟨hr, h1, h2, h3, hz⟩ | ⟨hr, h1, h2, h3, h4, hz⟩ | ⟨hr, h1, h2, h3, h4, hz⟩
  · have hm : modeI r = 16 := by simp [modeI, hr]
    rw [hz]; clear hz hr
    go_enter Tryd.func9, Tryd.ntmps9
    go_wp2_with (go_at_call 13; refine (mode_any _ _).mono ?_; rintro e w' ⟨rfl, rfl⟩)
    go_ret
    exact ⟨rfl, (by repeat (first | exact Gr.refl _ | assumption | refine Gr.alloc ?_ _ | refine Gr.drew ?_ | refine Gr.drewN ?_ _ | (refine Gr.put ?_ ?_ _; first | exact Nat.le_refl _ | (simp; done) | omega) | (apply Gr.after; assumption)))⟩
  case inr.inr.inr.inr.inr =>
    have hm : modeI r = 0 := by simp [modeI, hr]
    obtain ⟨b1, b2⟩ := withinB_true h2
    have hlast : (if r = 29 ∧ f < 2 ∧ s = 0 ∧ m % 10 ≠ 0 then 8 else 0 : Int) = whenI (r == 29 && decide (f < 2) && (s == 0) && decide (0 < m % 10)) 8 := by
      have e : (0 < m % 10) ↔ m % 10 ≠ 0 := by omega
      simp only [whenI, cond_eq_ite, Bool.and_eq_true, beq_iff_eq, decide_eq_true_eq, e, and_assoc]
    obtain ⟨hc, hc1, hc2⟩ := cnt8_yes hr
    rw [hz, hlast]; clear hz hr hlast hc
    by_cases g1 : r = 29
    · subst g1
      by_cases g2 : f < 2
      · by_cases g3 : s = 0
        · subst g3
          go_enter Tryd.func9, Tryd.ntmps9
          go_wp2_with (go_at_call 13; refine (mode_any _ _).mono ?_; rintro e w' ⟨rfl, rfl⟩)
          go_quiet (first | (go_at_call 18; exact quiet_left (within_any _ _ _ _)) | (go_at_call 19; exact quiet_left (counted_any _ _)))
          go_wp2_with (go_at_call 20; refine (when_any _ _ _).mono ?_; rintro e w' ⟨rfl, rfl⟩)
          go_ret
          exact ⟨by simp [g2], (by repeat (first | exact Gr.refl _ | assumption | refine Gr.alloc ?_ _ | refine Gr.drew ?_ | refine Gr.drewN ?_ _ | (refine Gr.put ?_ ?_ _; first | exact Nat.le_refl _ | (simp; done) | omega) | (apply Gr.after; assumption)))⟩
        · have g3' : (s == 0) = false := by simpa using g3
          clear g3
          go_enter Tryd.func9, Tryd.ntmps9
          go_wp2_with (go_at_call 13; refine (mode_any _ _).mono ?_; rintro e w' ⟨rfl, rfl⟩)
          go_quiet (first | (go_at_call 18; exact quiet_left (within_any _ _ _ _)) | (go_at_call 19; exact quiet_left (counted_any _ _)))
          go_wp2_with (go_at_call 20; refine (when_any _ _ _).mono ?_; rintro e w' ⟨rfl, rfl⟩)
          go_ret
          exact ⟨by simp [g2, g3'], (by repeat (first | exact Gr.refl _ | assumption | refine Gr.alloc ?_ _ | refine Gr.drew ?_ | refine Gr.drewN ?_ _ | (refine Gr.put ?_ ?_ _; first | exact Nat.le_refl _ | (simp; done) | omega) | (apply Gr.after; assumption)))⟩
      · have g2' : decide (f < 2) = false := by simpa using g2
        clear g2
        go_enter Tryd.func9, Tryd.ntmps9
        go_wp2_with (go_at_call 13; refine (mode_any _ _).mono ?_; rintro e w' ⟨rfl, rfl⟩)
        go_quiet (first | (go_at_call 18; exact quiet_left (within_any _ _ _ _)) | (go_at_call 19; exact quiet_left (counted_any _ _)))
        go_wp2_with (go_at_call 20; refine (when_any _ _ _).mono ?_; rintro e w' ⟨rfl, rfl⟩)
        go_ret
        exact ⟨by simp [g2'], (by repeat (first | exact Gr.refl _ | assumption | refine Gr.alloc ?_ _ | refine Gr.drew ?_ | refine Gr.drewN ?_ _ | (refine Gr.put ?_ ?_ _; first | exact Nat.le_refl _ | (simp; done) | omega) | (apply Gr.after; assumption)))⟩
    · have g1' : (r == 29) = false := by simpa using g1
      clear g1
      go_enter Tryd.func9, Tryd.ntmps9
      go_wp2_with (go_at_call 13; refine (mode_any _ _).mono ?_; rintro e w' ⟨rfl, rfl⟩)
      go_quiet (first | (go_at_call 18; exact quiet_left (within_any _ _ _ _)) | (go_at_call 19; exact quiet_left (counted_any _ _)))
      go_wp2_with (go_at_call 20; refine (when_any _ _ _).mono ?_; rintro e w' ⟨rfl, rfl⟩)
      go_ret
      exact ⟨by simp [g1'], (by repeat (first | exact Gr.refl _ | assumption | refine Gr.alloc ?_ _ | refine Gr.drew ?_ | refine Gr.drewN ?_ _ | (refine Gr.put ?_ ?_ _; first | exact Nat.le_refl _ | (simp; done) | omega) | (apply Gr.after; assumption)))⟩
  all_goals
    have hm : modeI r = 0 := by simp [modeI, hr]
    obtain ⟨hc, hc1, hc2⟩ := cnt8_yes hr
    rw [hz]; clear hz hr hc
    go_enter Tryd.func9, Tryd.ntmps9
    go_wp2_with (go_at_call 13; refine (mode_any _ _).mono ?_; rintro e w' ⟨rfl, rfl⟩)
    go_quiet (first | (go_at_call 18; exact quiet_left (within_any _ _ _ _)) | (go_at_call 19; exact quiet_left (counted_any _ _)))
    go_wp2
    go_ret
    exact ⟨rfl, (by repeat (first | exact Gr.refl _ | assumption | refine Gr.alloc ?_ _ | refine Gr.drew ?_ | refine Gr.drewN ?_ _ | (refine Gr.put ?_ ?_ _; first | exact Nat.le_refl _ | (simp; done) | omega) | (apply Gr.after; assumption)))⟩

theorem Check8_any (r h m s f : Int) (w : World) :
    Calls Tryd.prog 11 #[.int .i64 r, .agg #[.int .i64 h, .int .i64 m, .int .i64 s, .int .i64 f]] w fun e w' => e = .returned (.int .i64 (chkF r h m s f)) ∧ Gr w w' := by
  rcases chk_cases r h m s f with ⟨hr, hz⟩ | ⟨hr, h1, hz⟩ | ⟨hr, h1, h2, hz⟩ | ⟨hr, h1, h2, h3, hz⟩ | ⟨hr, h1, h2, h3, h4, hz⟩ | ⟨hr, h1, h2, h3, h4, hz⟩
  · have hm : (cnt8 r == 0) = true := by simp [cnt8_no hr]
    rw [hz]; clear hz hr
    go_enter Tryd.func11, Tryd.ntmps11
    go_wp2_with (go_at_call 16; refine (counted8_any _ _).mono ?_; rintro e w' ⟨rfl, rfl⟩)
    go_ret
    exact ⟨rfl, (by repeat (first | exact Gr.refl _ | assumption | refine Gr.alloc ?_ _ | refine Gr.drew ?_ | refine Gr.drewN ?_ _ | (refine Gr.put ?_ ?_ _; first | exact Nat.le_refl _ | (simp; done) | omega) | (apply Gr.after; assumption)))⟩
  case inr.inr.inr.inr.inr =>
    obtain ⟨b1, b2⟩ := withinB_true h2
    obtain ⟨hc, hc1, hc2⟩ := cnt8_yes hr
    have hm : (cnt r == 0) = false := beq_eq_false_iff_ne.2 (by omega)
    rw [hz]; clear hz hr
    by_cases g1 : r = 29
    · subst g1
      by_cases g4 : m % 10 = 0
      · have g4' : (m % 10 != 0) = false := by simpa using g4
        have G4 := Lib.hid g4; clear g4
        rw [if_neg (by simp [G4.out])]
        go_enter Tryd.func11, Tryd.ntmps11
        go_wp2_with (go_at_call 16; refine (counted8_any _ _).mono ?_; rintro e w' ⟨rfl, rfl⟩)
        go_quiet (first | (go_at_call 17; exact quiet_left (within1_any _ _ _ _)) | (go_at_call 16; exact quiet_left (counted8_any _ _)))
        go_wp2
        go_ret
        exact ⟨rfl, (by repeat (first | exact Gr.refl _ | assumption | refine Gr.alloc ?_ _ | refine Gr.drew ?_ | refine Gr.drewN ?_ _ | (refine Gr.put ?_ ?_ _; first | exact Nat.le_refl _ | (simp; done) | omega) | (apply Gr.after; assumption)))⟩
      · have g4' : (m % 10 != 0) = true := by simpa using g4
        have G4 := Lib.hid g4; clear g4
        by_cases g3 : s = 0
        · subst g3
          by_cases g2 : f < 2
          · rw [if_pos ⟨rfl, g2, rfl, G4.out⟩]
            go_enter Tryd.func11, Tryd.ntmps11
            go_wp2_with (go_at_call 16; refine (counted8_any _ _).mono ?_; rintro e w' ⟨rfl, rfl⟩)
            go_quiet (first | (go_at_call 17; exact quiet_left (within1_any _ _ _ _)) | (go_at_call 16; exact quiet_left (counted8_any _ _)))
            go_wp2
            go_ret
            exact ⟨rfl, (by repeat (first | exact Gr.refl _ | assumption | refine Gr.alloc ?_ _ | refine Gr.drew ?_ | refine Gr.drewN ?_ _ | (refine Gr.put ?_ ?_ _; first | exact Nat.le_refl _ | (simp; done) | omega) | (apply Gr.after; assumption)))⟩
          · rw [if_neg (by omega)]
            go_enter Tryd.func11, Tryd.ntmps11
            go_wp2_with (go_at_call 16; refine (counted8_any _ _).mono ?_; rintro e w' ⟨rfl, rfl⟩)
            go_quiet (first | (go_at_call 17; exact quiet_left (within1_any _ _ _ _)) | (go_at_call 16; exact quiet_left (counted8_any _ _)))
            go_wp2
            go_ret
            exact ⟨rfl, (by repeat (first | exact Gr.refl _ | assumption | refine Gr.alloc ?_ _ | refine Gr.drew ?_ | refine Gr.drewN ?_ _ | (refine Gr.put ?_ ?_ _; first | exact Nat.le_refl _ | (simp; done) | omega) | (apply Gr.after; assumption)))⟩
        · have g3' : (s == 0) = false := by simpa using g3
          rw [if_neg (by omega)]
          clear g3
          go_enter Tryd.func11, Tryd.ntmps11
          go_wp2_with (go_at_call 16; refine (counted8_any _ _).mono ?_; rintro e w' ⟨rfl, rfl⟩)
          go_quiet (first | (go_at_call 17; exact quiet_left (within1_any _ _ _ _)) | (go_at_call 16; exact quiet_left (counted8_any _ _)))
          go_wp2
          go_ret
          exact ⟨rfl, (by repeat (first | exact Gr.refl _ | assumption | refine Gr.alloc ?_ _ | refine Gr.drew ?_ | refine Gr.drewN ?_ _ | (refine Gr.put ?_ ?_ _; first | exact Nat.le_refl _ | (simp; done) | omega) | (apply Gr.after; assumption)))⟩
    · have g1' : (r == 29) = false := by simpa using g1
      rw [if_neg (by omega)]
      clear g1
      go_enter Tryd.func11, Tryd.ntmps11
      go_wp2_with (go_at_call 16; refine (counted8_any _ _).mono ?_; rintro e w' ⟨rfl, rfl⟩)
      go_quiet (first | (go_at_call 17; exact quiet_left (within1_any _ _ _ _)) | (go_at_call 16; exact quiet_left (counted8_any _ _)))
      go_wp2
      go_ret
      exact ⟨rfl, (by repeat (first | exact Gr.refl _ | assumption | refine Gr.alloc ?_ _ | refine Gr.drew ?_ | refine Gr.drewN ?_ _ | (refine Gr.put ?_ ?_ _; first | exact Nat.le_refl _ | (simp; done) | omega) | (apply Gr.after; assumption)))⟩
  all_goals
    obtain ⟨hc, hc1, hc2⟩ := cnt8_yes hr
    have hm : (cnt r == 0) = false := beq_eq_false_iff_ne.2 (by omega)
    rw [hz]; clear hz hr
    go_enter Tryd.func11, Tryd.ntmps11
    go_wp2_with (go_at_call 16; refine (counted8_any _ _).mono ?_; rintro e w' ⟨rfl, rfl⟩)
    go_quiet (first | (go_at_call 17; exact quiet_left (within1_any _ _ _ _)) | (go_at_call 16; exact quiet_left (counted8_any _ _)))
    go_wp2
    go_ret
    exact ⟨rfl, (by repeat (first | exact Gr.refl _ | assumption | refine Gr.alloc ?_ _ | refine Gr.drew ?_ | refine Gr.drewN ?_ _ | (refine Gr.put ?_ ?_ _; first | exact Nat.le_refl _ | (simp; done) | omega) | (apply Gr.after; assumption)))⟩

/-- What a right stamp's parts are. -/
def okS (r h m s f : Int) : Prop := rateB r = true ∧ (0 ≤ h ∧ h ≤ 23) ∧ (0 ≤ m ∧ m ≤ 59) ∧ (0 ≤ s ∧ s ≤ 59) ∧ (0 ≤ f ∧ f ≤ cnt r - 1) ∧ ¬ (r = 29 ∧ f < 2 ∧ s = 0 ∧ m % 10 ≠ 0)
theorem okS_of {r h m s f : Int} (hz : chkF r h m s f = 0) : okS r h m s f := by
  rcases chk_cases r h m s f with ⟨hr, hz'⟩ | ⟨hr, h1, hz'⟩ | ⟨hr, h1, h2, hz'⟩ | ⟨hr, h1, h2, h3, hz'⟩ | ⟨hr, h1, h2, h3, h4, hz'⟩ | ⟨hr, h1, h2, h3, h4, hz'⟩
  case inr.inr.inr.inr.inr =>
    refine ⟨hr, withinB_true h1, withinB_true h2, withinB_true h3, withinB_true h4, fun g => ?_⟩
    rw [hz', if_pos g] at hz
    cases hz
  all_goals (rw [hz'] at hz; cases hz)
theorem chkF_of {r h m s f : Int} (k : okS r h m s f) : chkF r h m s f = 0 := by
  obtain ⟨hr, h1, h2, h3, h4, h5⟩ := k
  unfold chkF withinB
  simp [hr, h1, h2, h3, h4]
  omega

end Go.Proofs.YtchbbdplopchlaaDoor
