/- The contracts of NewFollower and Hear, and of their references. -/
import Derived.Test.YtgjclbkcnilkbaaStJ
namespace Go.Proofs.Ytgjclbkcnilkbaa
open Go.RowKit
set_option linter.unusedVariables false
set_option linter.unusedSimpArgs false

/-! ### NewFollower -/
def newF (R F J : Int) : Int := if rateB R = true then (if withinB F 0 1000 = true ∧ withinB J 1 1000 = true then 0 else 1) else 16
def New9 (R F J : Int) (w : World) (e : Ending) (w' : World) : Prop := ∃ b, e = .returned (.tuple #[.pointer (some ⟨b, 0, none⟩), .int .i64 0]) ∧ w.heap.size ≤ b ∧ Box9 w' b (.int .i64 R) (.int .i64 F) (.int .i64 J) (.int .i64 0) (.bool false) (.int .i64 0) (.int .i64 0) (.bool false) (.int .i64 0) ∧ Gr w w'
def New8 (R F J : Int) (w : World) (e : Ending) (w' : World) : Prop := ∃ b, e = .returned (.tuple #[.pointer (some ⟨b, 0, none⟩), .int .i64 0]) ∧ w.heap.size ≤ b ∧ Box8 w' b (.int .i64 R) (.int .i64 F) (.int .i64 J) (.bool false) (.int .i64 0) (.int .i64 0) (.int .i64 0) (.int .i64 (-1)) ∧ Gr w w'
theorem new_cases (R F J : Int) : (rateB R = false ∧ newF R F J = 16) ∨ (rateB R = true ∧ withinB F 0 1000 = false ∧ newF R F J = 1) ∨ (rateB R = true ∧ withinB F 0 1000 = true ∧ withinB J 1 1000 = false ∧ newF R F J = 1) ∨ (rateB R = true ∧ withinB F 0 1000 = true ∧ withinB J 1 1000 = true ∧ newF R F J = 0) := by
  unfold newF
  cases rateB R <;> cases withinB F 0 1000 <;> cases withinB J 1 1000 <;> simp
theorem New9_no (R F J : Int) (w : World) (hF : newF R F J ≠ 0) :
    Calls Try.prog 31 #[.int .i64 R, .int .i64 F, .int .i64 J] w fun e w' => e = .returned (.tuple #[.pointer none, .int .i64 (newF R F J)]) ∧ Gr w w' := by
  rcases new_cases R F J with ⟨hr, hz⟩ | ⟨hr, h1, hz⟩ | ⟨hr, h1, h2, hz⟩ | ⟨hr, h1, h2, hz⟩
  case inr.inr.inr => exact absurd hz hF
  · have Hf1 : Hid (∀ x, firstL [modeI R, x] = 16) := Lib.hid fun x => by simp [firstL2, modeI, hr]
    rw [hz]; clear hz hF hr
    cases h1 : withinB F 0 1000
    all_goals
      go_enter Try.func31, Try.ntmps31
      go_wp2_with (first | (go_at_call 40; refine (mode_any _ _).mono ?_; rintro e w' ⟨rfl, rfl⟩) | (go_at_call 42; refine (within_any _ _ _ _).mono ?_; rintro e w' ⟨rfl, rfl⟩) | (go_at_call 41; refine (when_any _ _ _).mono ?_; rintro e w' ⟨rfl, rfl⟩) | ((go_at_call 39; with_reducible refine (first2_any _ _ _ _ _ ?_).mono ?_; (focus (simp; done)); rintro e w' ⟨rfl, rfl⟩); rw [Hf1.out]))
      go_ret2
      exact ⟨rfl, (by repeat (first | exact Gr.refl _ | assumption | refine Gr.alloc ?_ _ | refine Gr.drew ?_ | refine Gr.drewN ?_ _ | (refine Gr.put ?_ ?_ _; first | exact Nat.le_refl _ | (simp; done) | omega) | (apply Gr.after; assumption)))⟩
  all_goals
    have hm : modeI R = 0 := by simp [modeI, hr]
    have Hf1 : Hid (firstL [0, whenI true 1] = 1) := Lib.hid (by decide)
    rw [hz]; clear hz hF hr
    go_enter Try.func31, Try.ntmps31
    go_wp2_with (first | (go_at_call 40; refine (mode_any _ _).mono ?_; rintro e w' ⟨rfl, rfl⟩) | (go_at_call 42; refine (within_any _ _ _ _).mono ?_; rintro e w' ⟨rfl, rfl⟩) | (go_at_call 41; refine (when_any _ _ _).mono ?_; rintro e w' ⟨rfl, rfl⟩) | ((go_at_call 39; with_reducible refine (first2_any _ _ _ _ _ ?_).mono ?_; (focus (simp; done)); rintro e w' ⟨rfl, rfl⟩); rw [Hf1.out]))
    go_ret2
    exact ⟨rfl, (by repeat (first | exact Gr.refl _ | assumption | refine Gr.alloc ?_ _ | refine Gr.drew ?_ | refine Gr.drewN ?_ _ | (refine Gr.put ?_ ?_ _; first | exact Nat.le_refl _ | (simp; done) | omega) | (apply Gr.after; assumption)))⟩
theorem New9_ok (R F J : Int) (w : World) (hF : newF R F J = 0) :
    Calls Try.prog 31 #[.int .i64 R, .int .i64 F, .int .i64 J] w (New9 R F J w) := by
  rcases new_cases R F J with ⟨hr, hz⟩ | ⟨hr, h1, hz⟩ | ⟨hr, h1, h2, hz⟩ | ⟨hr, h1, h2, hz⟩
  case inr.inr.inr =>
    have hm : modeI R = 0 := by simp [modeI, hr]
    have Hf1 : Hid (firstL [0, whenI false 1] = 0) := Lib.hid (by decide)
    clear hz hF hr
    go_enter Try.func31, Try.ntmps31
    go_wp2_with (first | (go_at_call 40; refine (mode_any _ _).mono ?_; rintro e w' ⟨rfl, rfl⟩) | (go_at_call 42; refine (within_any _ _ _ _).mono ?_; rintro e w' ⟨rfl, rfl⟩) | (go_at_call 41; refine (when_any _ _ _).mono ?_; rintro e w' ⟨rfl, rfl⟩) | ((go_at_call 39; with_reducible refine (first2_any _ _ _ _ _ ?_).mono ?_; (focus (simp; done)); rintro e w' ⟨rfl, rfl⟩); rw [Hf1.out]))
    go_ret2
    exact ⟨_, rfl, by simp, Box9.of (by repeat (first | exact heap_last _ _ | (refine heap_at _ _ _ ?_; (simp; done)) | (refine heap_old _ _ _ _ (by simp; try omega) ?_))), (by repeat (first | exact Gr.refl _ | assumption | refine Gr.alloc ?_ _ | refine Gr.drew ?_ | refine Gr.drewN ?_ _ | (refine Gr.put ?_ ?_ _; first | exact Nat.le_refl _ | (simp; done) | omega) | (apply Gr.after; assumption)))⟩
  all_goals (rw [hz] at hF; cases hF)
theorem New8_no (R F J : Int) (w : World) (hF : newF R F J ≠ 0) :
    Calls Try.prog 32 #[.int .i64 R, .int .i64 F, .int .i64 J] w fun e w' => e = .returned (.tuple #[.pointer none, .int .i64 (newF R F J)]) ∧ Gr w w' := by
  rcases new_cases R F J with ⟨hr, hz⟩ | ⟨hr, h1, hz⟩ | ⟨hr, h1, h2, hz⟩ | ⟨hr, h1, h2, hz⟩
  case inr.inr.inr => exact absurd hz hF
  · have hc := cnt8_no hr
    rw [hz]; clear hz hF hr
    go_enter Try.func32, Try.ntmps32
    go_wp2_with (go_at_call 45; refine (counted8_any _ _).mono ?_; rintro e w' ⟨rfl, rfl⟩)
    go_ret2
    exact ⟨rfl, (by repeat (first | exact Gr.refl _ | assumption | refine Gr.alloc ?_ _ | refine Gr.drew ?_ | refine Gr.drewN ?_ _ | (refine Gr.put ?_ ?_ _; first | exact Nat.le_refl _ | (simp; done) | omega) | (apply Gr.after; assumption)))⟩
  all_goals
    have hc := cnt8_yes hr
    have hcb : (cnt8 R == 0) = false := beq_eq_false_iff_ne.2 (by omega)
    rw [hz]; clear hz hF hr hc
    go_enter Try.func32, Try.ntmps32
    go_wp2_with (first | (go_at_call 45; refine (counted8_any _ _).mono ?_; rintro e w' ⟨rfl, rfl⟩) | (go_at_call 46; refine (within1_any _ _ _ _).mono ?_; rintro e w' ⟨rfl, rfl⟩))
    go_ret2
    exact ⟨rfl, (by repeat (first | exact Gr.refl _ | assumption | refine Gr.alloc ?_ _ | refine Gr.drew ?_ | refine Gr.drewN ?_ _ | (refine Gr.put ?_ ?_ _; first | exact Nat.le_refl _ | (simp; done) | omega) | (apply Gr.after; assumption)))⟩
theorem New8_ok (R F J : Int) (w : World) (hF : newF R F J = 0) :
    Calls Try.prog 32 #[.int .i64 R, .int .i64 F, .int .i64 J] w (New8 R F J w) := by
  rcases new_cases R F J with ⟨hr, hz⟩ | ⟨hr, h1, hz⟩ | ⟨hr, h1, h2, hz⟩ | ⟨hr, h1, h2, hz⟩
  case inr.inr.inr =>
    have hc := cnt8_yes hr
    have hcb : (cnt8 R == 0) = false := beq_eq_false_iff_ne.2 (by omega)
    clear hz hF hr hc
    go_enter Try.func32, Try.ntmps32
    go_wp2_with (first | (go_at_call 45; refine (counted8_any _ _).mono ?_; rintro e w' ⟨rfl, rfl⟩) | (go_at_call 46; refine (within1_any _ _ _ _).mono ?_; rintro e w' ⟨rfl, rfl⟩))
    go_ret2
    exact ⟨_, rfl, by simp, Box8.of (by repeat (first | exact heap_last _ _ | (refine heap_at _ _ _ ?_; (simp; done)) | (refine heap_old _ _ _ _ (by simp; try omega) ?_))), (by repeat (first | exact Gr.refl _ | assumption | refine Gr.alloc ?_ _ | refine Gr.drew ?_ | refine Gr.drewN ?_ _ | (refine Gr.put ?_ ?_ _; first | exact Nat.le_refl _ | (simp; done) | omega) | (apply Gr.after; assumption)))⟩
  all_goals (rw [hz] at hF; cases hF)

/-! ### Hear -/
def hearF (last t R h m s f : Int) : Int := if whenF last t = 0 then chkF R h m s f else whenF last t
theorem hear_first (last t R h m s f : Int) : firstL [whenF last t, chkF R h m s f] = hearF last t R h m s f := by rw [firstL2, hearF]
/-- The rate of a follower, and a stamp. -/
abbrev RS (w : World) (b c : Nat) (r h m s f : Value) : Prop := w.cell? ⟨b, 0, none⟩ = some r ∧ w.cell? ⟨c, 0, none⟩ = some h ∧ w.cell? ⟨c, 1, none⟩ = some m ∧ w.cell? ⟨c, 2, none⟩ = some s ∧ w.cell? ⟨c, 3, none⟩ = some f
theorem RS.mono {w w' : World} {b c : Nat} {r h m s f : Value} (k : RS w b c r h m s f) (g : Gr w w') : RS w' b c r h m s f := ⟨g.cell k.1, g.cell k.2.1, g.cell k.2.2.1, g.cell k.2.2.2.1, g.cell k.2.2.2.2⟩
theorem RS.set {w : World} {b c o : Nat} {r h m s f u : Value} (k : RS w b c r h m s f) (hne : c ≠ b) (ho : o ≠ 0) : RS (w.setCell ⟨b, o, none⟩ u) b c r h m s f := by
  obtain ⟨k0, k1, k2, k3, k4⟩ := k
  have hx : ∀ j, (⟨b, o, none⟩ : Addr) ≠ ⟨c, j, none⟩ := fun j e => hne (by injection e with e1; exact e1.symm)
  exact ⟨(World.cell?_setCell_other w ⟨b, o, none⟩ ⟨b, 0, none⟩ u (by simp [ho])).trans k0, (World.cell?_setCell_other w _ _ u (hx 0)).trans k1, (World.cell?_setCell_other w _ _ u (hx 1)).trans k2, (World.cell?_setCell_other w _ _ u (hx 2)).trans k3, (World.cell?_setCell_other w _ _ u (hx 3)).trans k4⟩
theorem Box9.set3 {w : World} {b : Nat} {v0 v1 v2 v3 v4 v5 v6 v7 v8 u : Value} (k : Box9 w b v0 v1 v2 v3 v4 v5 v6 v7 v8) : Box9 (w.setCell ⟨b, 3, none⟩ u) b v0 v1 v2 u v4 v5 v6 v7 v8 := by
  obtain ⟨⟨k0, k1, k2, k3, k4, k5, k6, k7, k8⟩, ⟨f0, f1, f2, f3, f4, f5, f6, f7, f8⟩, hlt⟩ := k
  exact ⟨⟨(World.cell?_setCell_other w _ _ u (by simp)).trans k0, (World.cell?_setCell_other w _ _ u (by simp)).trans k1, (World.cell?_setCell_other w _ _ u (by simp)).trans k2, World.cell?_setCell_same w _ u k3, (World.cell?_setCell_other w _ _ u (by simp)).trans k4, (World.cell?_setCell_other w _ _ u (by simp)).trans k5, (World.cell?_setCell_other w _ _ u (by simp)).trans k6, (World.cell?_setCell_other w _ _ u (by simp)).trans k7, (World.cell?_setCell_other w _ _ u (by simp)).trans k8⟩, ⟨by simpa [go_sem] using f0, by simpa [go_sem] using f1, by simpa [go_sem] using f2, by simpa [go_sem] using f3, by simpa [go_sem] using f4, by simpa [go_sem] using f5, by simpa [go_sem] using f6, by simpa [go_sem] using f7, by simpa [go_sem] using f8⟩, by simpa [World.setCell] using hlt⟩
theorem Box9.set4 {w : World} {b : Nat} {v0 v1 v2 v3 v4 v5 v6 v7 v8 u : Value} (k : Box9 w b v0 v1 v2 v3 v4 v5 v6 v7 v8) : Box9 (w.setCell ⟨b, 4, none⟩ u) b v0 v1 v2 v3 u v5 v6 v7 v8 := by
  obtain ⟨⟨k0, k1, k2, k3, k4, k5, k6, k7, k8⟩, ⟨f0, f1, f2, f3, f4, f5, f6, f7, f8⟩, hlt⟩ := k
  exact ⟨⟨(World.cell?_setCell_other w _ _ u (by simp)).trans k0, (World.cell?_setCell_other w _ _ u (by simp)).trans k1, (World.cell?_setCell_other w _ _ u (by simp)).trans k2, (World.cell?_setCell_other w _ _ u (by simp)).trans k3, World.cell?_setCell_same w _ u k4, (World.cell?_setCell_other w _ _ u (by simp)).trans k5, (World.cell?_setCell_other w _ _ u (by simp)).trans k6, (World.cell?_setCell_other w _ _ u (by simp)).trans k7, (World.cell?_setCell_other w _ _ u (by simp)).trans k8⟩, ⟨by simpa [go_sem] using f0, by simpa [go_sem] using f1, by simpa [go_sem] using f2, by simpa [go_sem] using f3, by simpa [go_sem] using f4, by simpa [go_sem] using f5, by simpa [go_sem] using f6, by simpa [go_sem] using f7, by simpa [go_sem] using f8⟩, by simpa [World.setCell] using hlt⟩
theorem Box9.set5 {w : World} {b : Nat} {v0 v1 v2 v3 v4 v5 v6 v7 v8 u : Value} (k : Box9 w b v0 v1 v2 v3 v4 v5 v6 v7 v8) : Box9 (w.setCell ⟨b, 5, none⟩ u) b v0 v1 v2 v3 v4 u v6 v7 v8 := by
  obtain ⟨⟨k0, k1, k2, k3, k4, k5, k6, k7, k8⟩, ⟨f0, f1, f2, f3, f4, f5, f6, f7, f8⟩, hlt⟩ := k
  exact ⟨⟨(World.cell?_setCell_other w _ _ u (by simp)).trans k0, (World.cell?_setCell_other w _ _ u (by simp)).trans k1, (World.cell?_setCell_other w _ _ u (by simp)).trans k2, (World.cell?_setCell_other w _ _ u (by simp)).trans k3, (World.cell?_setCell_other w _ _ u (by simp)).trans k4, World.cell?_setCell_same w _ u k5, (World.cell?_setCell_other w _ _ u (by simp)).trans k6, (World.cell?_setCell_other w _ _ u (by simp)).trans k7, (World.cell?_setCell_other w _ _ u (by simp)).trans k8⟩, ⟨by simpa [go_sem] using f0, by simpa [go_sem] using f1, by simpa [go_sem] using f2, by simpa [go_sem] using f3, by simpa [go_sem] using f4, by simpa [go_sem] using f5, by simpa [go_sem] using f6, by simpa [go_sem] using f7, by simpa [go_sem] using f8⟩, by simpa [World.setCell] using hlt⟩
theorem Box9.set6 {w : World} {b : Nat} {v0 v1 v2 v3 v4 v5 v6 v7 v8 u : Value} (k : Box9 w b v0 v1 v2 v3 v4 v5 v6 v7 v8) : Box9 (w.setCell ⟨b, 6, none⟩ u) b v0 v1 v2 v3 v4 v5 u v7 v8 := by
  obtain ⟨⟨k0, k1, k2, k3, k4, k5, k6, k7, k8⟩, ⟨f0, f1, f2, f3, f4, f5, f6, f7, f8⟩, hlt⟩ := k
  exact ⟨⟨(World.cell?_setCell_other w _ _ u (by simp)).trans k0, (World.cell?_setCell_other w _ _ u (by simp)).trans k1, (World.cell?_setCell_other w _ _ u (by simp)).trans k2, (World.cell?_setCell_other w _ _ u (by simp)).trans k3, (World.cell?_setCell_other w _ _ u (by simp)).trans k4, (World.cell?_setCell_other w _ _ u (by simp)).trans k5, World.cell?_setCell_same w _ u k6, (World.cell?_setCell_other w _ _ u (by simp)).trans k7, (World.cell?_setCell_other w _ _ u (by simp)).trans k8⟩, ⟨by simpa [go_sem] using f0, by simpa [go_sem] using f1, by simpa [go_sem] using f2, by simpa [go_sem] using f3, by simpa [go_sem] using f4, by simpa [go_sem] using f5, by simpa [go_sem] using f6, by simpa [go_sem] using f7, by simpa [go_sem] using f8⟩, by simpa [World.setCell] using hlt⟩
theorem Box9.set7 {w : World} {b : Nat} {v0 v1 v2 v3 v4 v5 v6 v7 v8 u : Value} (k : Box9 w b v0 v1 v2 v3 v4 v5 v6 v7 v8) : Box9 (w.setCell ⟨b, 7, none⟩ u) b v0 v1 v2 v3 v4 v5 v6 u v8 := by
  obtain ⟨⟨k0, k1, k2, k3, k4, k5, k6, k7, k8⟩, ⟨f0, f1, f2, f3, f4, f5, f6, f7, f8⟩, hlt⟩ := k
  exact ⟨⟨(World.cell?_setCell_other w _ _ u (by simp)).trans k0, (World.cell?_setCell_other w _ _ u (by simp)).trans k1, (World.cell?_setCell_other w _ _ u (by simp)).trans k2, (World.cell?_setCell_other w _ _ u (by simp)).trans k3, (World.cell?_setCell_other w _ _ u (by simp)).trans k4, (World.cell?_setCell_other w _ _ u (by simp)).trans k5, (World.cell?_setCell_other w _ _ u (by simp)).trans k6, World.cell?_setCell_same w _ u k7, (World.cell?_setCell_other w _ _ u (by simp)).trans k8⟩, ⟨by simpa [go_sem] using f0, by simpa [go_sem] using f1, by simpa [go_sem] using f2, by simpa [go_sem] using f3, by simpa [go_sem] using f4, by simpa [go_sem] using f5, by simpa [go_sem] using f6, by simpa [go_sem] using f7, by simpa [go_sem] using f8⟩, by simpa [World.setCell] using hlt⟩
theorem Box9.set8 {w : World} {b : Nat} {v0 v1 v2 v3 v4 v5 v6 v7 v8 u : Value} (k : Box9 w b v0 v1 v2 v3 v4 v5 v6 v7 v8) : Box9 (w.setCell ⟨b, 8, none⟩ u) b v0 v1 v2 v3 v4 v5 v6 v7 u := by
  obtain ⟨⟨k0, k1, k2, k3, k4, k5, k6, k7, k8⟩, ⟨f0, f1, f2, f3, f4, f5, f6, f7, f8⟩, hlt⟩ := k
  exact ⟨⟨(World.cell?_setCell_other w _ _ u (by simp)).trans k0, (World.cell?_setCell_other w _ _ u (by simp)).trans k1, (World.cell?_setCell_other w _ _ u (by simp)).trans k2, (World.cell?_setCell_other w _ _ u (by simp)).trans k3, (World.cell?_setCell_other w _ _ u (by simp)).trans k4, (World.cell?_setCell_other w _ _ u (by simp)).trans k5, (World.cell?_setCell_other w _ _ u (by simp)).trans k6, (World.cell?_setCell_other w _ _ u (by simp)).trans k7, World.cell?_setCell_same w _ u k8⟩, ⟨by simpa [go_sem] using f0, by simpa [go_sem] using f1, by simpa [go_sem] using f2, by simpa [go_sem] using f3, by simpa [go_sem] using f4, by simpa [go_sem] using f5, by simpa [go_sem] using f6, by simpa [go_sem] using f7, by simpa [go_sem] using f8⟩, by simpa [World.setCell] using hlt⟩
theorem Box8.set3 {w : World} {b : Nat} {v0 v1 v2 v3 v4 v5 v6 v7 u : Value} (k : Box8 w b v0 v1 v2 v3 v4 v5 v6 v7) : Box8 (w.setCell ⟨b, 3, none⟩ u) b v0 v1 v2 u v4 v5 v6 v7 := by
  obtain ⟨⟨k0, k1, k2, k3, k4, k5, k6, k7⟩, ⟨f0, f1, f2, f3, f4, f5, f6, f7⟩, hlt⟩ := k
  exact ⟨⟨(World.cell?_setCell_other w _ _ u (by simp)).trans k0, (World.cell?_setCell_other w _ _ u (by simp)).trans k1, (World.cell?_setCell_other w _ _ u (by simp)).trans k2, World.cell?_setCell_same w _ u k3, (World.cell?_setCell_other w _ _ u (by simp)).trans k4, (World.cell?_setCell_other w _ _ u (by simp)).trans k5, (World.cell?_setCell_other w _ _ u (by simp)).trans k6, (World.cell?_setCell_other w _ _ u (by simp)).trans k7⟩, ⟨by simpa [go_sem] using f0, by simpa [go_sem] using f1, by simpa [go_sem] using f2, by simpa [go_sem] using f3, by simpa [go_sem] using f4, by simpa [go_sem] using f5, by simpa [go_sem] using f6, by simpa [go_sem] using f7⟩, by simpa [World.setCell] using hlt⟩
theorem Box8.set4 {w : World} {b : Nat} {v0 v1 v2 v3 v4 v5 v6 v7 u : Value} (k : Box8 w b v0 v1 v2 v3 v4 v5 v6 v7) : Box8 (w.setCell ⟨b, 4, none⟩ u) b v0 v1 v2 v3 u v5 v6 v7 := by
  obtain ⟨⟨k0, k1, k2, k3, k4, k5, k6, k7⟩, ⟨f0, f1, f2, f3, f4, f5, f6, f7⟩, hlt⟩ := k
  exact ⟨⟨(World.cell?_setCell_other w _ _ u (by simp)).trans k0, (World.cell?_setCell_other w _ _ u (by simp)).trans k1, (World.cell?_setCell_other w _ _ u (by simp)).trans k2, (World.cell?_setCell_other w _ _ u (by simp)).trans k3, World.cell?_setCell_same w _ u k4, (World.cell?_setCell_other w _ _ u (by simp)).trans k5, (World.cell?_setCell_other w _ _ u (by simp)).trans k6, (World.cell?_setCell_other w _ _ u (by simp)).trans k7⟩, ⟨by simpa [go_sem] using f0, by simpa [go_sem] using f1, by simpa [go_sem] using f2, by simpa [go_sem] using f3, by simpa [go_sem] using f4, by simpa [go_sem] using f5, by simpa [go_sem] using f6, by simpa [go_sem] using f7⟩, by simpa [World.setCell] using hlt⟩
theorem Box8.set5 {w : World} {b : Nat} {v0 v1 v2 v3 v4 v5 v6 v7 u : Value} (k : Box8 w b v0 v1 v2 v3 v4 v5 v6 v7) : Box8 (w.setCell ⟨b, 5, none⟩ u) b v0 v1 v2 v3 v4 u v6 v7 := by
  obtain ⟨⟨k0, k1, k2, k3, k4, k5, k6, k7⟩, ⟨f0, f1, f2, f3, f4, f5, f6, f7⟩, hlt⟩ := k
  exact ⟨⟨(World.cell?_setCell_other w _ _ u (by simp)).trans k0, (World.cell?_setCell_other w _ _ u (by simp)).trans k1, (World.cell?_setCell_other w _ _ u (by simp)).trans k2, (World.cell?_setCell_other w _ _ u (by simp)).trans k3, (World.cell?_setCell_other w _ _ u (by simp)).trans k4, World.cell?_setCell_same w _ u k5, (World.cell?_setCell_other w _ _ u (by simp)).trans k6, (World.cell?_setCell_other w _ _ u (by simp)).trans k7⟩, ⟨by simpa [go_sem] using f0, by simpa [go_sem] using f1, by simpa [go_sem] using f2, by simpa [go_sem] using f3, by simpa [go_sem] using f4, by simpa [go_sem] using f5, by simpa [go_sem] using f6, by simpa [go_sem] using f7⟩, by simpa [World.setCell] using hlt⟩
theorem Box8.set6 {w : World} {b : Nat} {v0 v1 v2 v3 v4 v5 v6 v7 u : Value} (k : Box8 w b v0 v1 v2 v3 v4 v5 v6 v7) : Box8 (w.setCell ⟨b, 6, none⟩ u) b v0 v1 v2 v3 v4 v5 u v7 := by
  obtain ⟨⟨k0, k1, k2, k3, k4, k5, k6, k7⟩, ⟨f0, f1, f2, f3, f4, f5, f6, f7⟩, hlt⟩ := k
  exact ⟨⟨(World.cell?_setCell_other w _ _ u (by simp)).trans k0, (World.cell?_setCell_other w _ _ u (by simp)).trans k1, (World.cell?_setCell_other w _ _ u (by simp)).trans k2, (World.cell?_setCell_other w _ _ u (by simp)).trans k3, (World.cell?_setCell_other w _ _ u (by simp)).trans k4, (World.cell?_setCell_other w _ _ u (by simp)).trans k5, World.cell?_setCell_same w _ u k6, (World.cell?_setCell_other w _ _ u (by simp)).trans k7⟩, ⟨by simpa [go_sem] using f0, by simpa [go_sem] using f1, by simpa [go_sem] using f2, by simpa [go_sem] using f3, by simpa [go_sem] using f4, by simpa [go_sem] using f5, by simpa [go_sem] using f6, by simpa [go_sem] using f7⟩, by simpa [World.setCell] using hlt⟩
theorem Box8.set7 {w : World} {b : Nat} {v0 v1 v2 v3 v4 v5 v6 v7 u : Value} (k : Box8 w b v0 v1 v2 v3 v4 v5 v6 v7) : Box8 (w.setCell ⟨b, 7, none⟩ u) b v0 v1 v2 v3 v4 v5 v6 u := by
  obtain ⟨⟨k0, k1, k2, k3, k4, k5, k6, k7⟩, ⟨f0, f1, f2, f3, f4, f5, f6, f7⟩, hlt⟩ := k
  exact ⟨⟨(World.cell?_setCell_other w _ _ u (by simp)).trans k0, (World.cell?_setCell_other w _ _ u (by simp)).trans k1, (World.cell?_setCell_other w _ _ u (by simp)).trans k2, (World.cell?_setCell_other w _ _ u (by simp)).trans k3, (World.cell?_setCell_other w _ _ u (by simp)).trans k4, (World.cell?_setCell_other w _ _ u (by simp)).trans k5, (World.cell?_setCell_other w _ _ u (by simp)).trans k6, World.cell?_setCell_same w _ u k7⟩, ⟨by simpa [go_sem] using f0, by simpa [go_sem] using f1, by simpa [go_sem] using f2, by simpa [go_sem] using f3, by simpa [go_sem] using f4, by simpa [go_sem] using f5, by simpa [go_sem] using f6, by simpa [go_sem] using f7⟩, by simpa [World.setCell] using hlt⟩

set_option maxHeartbeats 1000000 in
theorem Hear9_no (b : Nat) (R F J last stamp time at0 t h m s f : Int) (heard kept : Bool) (w : World) (hF : hearF last t R h m s f ≠ 0) (K : Box9 w b (.int .i64 R) (.int .i64 F) (.int .i64 J) (.int .i64 last) (.bool heard) (.int .i64 stamp) (.int .i64 time) (.bool kept) (.int .i64 at0)) :
    Calls Try.prog 33 #[.pointer (some ⟨b, 0, none⟩), .agg #[.int .i64 h, .int .i64 m, .int .i64 s, .int .i64 f], .int .i64 t] w fun e w' => e = .returned (.int .i64 (hearF last t R h m s f)) ∧ Gr w w' := by
  have Hfi := Lib.hid (hear_first last t R h m s f)
  have hb' : (hearF last t R h m s f != 0) = true := by simpa using hF
  have hlt := K.2.2
  clear hF
  go_enter Try.func33, Try.ntmps33
  go_wp2
  obtain ⟨W, hW⟩ : ∃ W, W = w.alloc (.cells #[.int .i64 h, .int .i64 m, .int .i64 s, .int .i64 f] 29) := ⟨_, rfl⟩
  have hG : Gr w W := by subst hW; exact (by repeat (first | exact Gr.refl _ | assumption | refine Gr.alloc ?_ _ | refine Gr.drew ?_ | refine Gr.drewN ?_ _ | (refine Gr.put ?_ ?_ _; first | exact Nat.le_refl _ | (simp; done) | omega) | (apply Gr.after; assumption)))
  have K4 : Box4 W w.heap.size (.int .i64 h) (.int .i64 m) (.int .i64 s) (.int .i64 f) := by subst hW; exact Box4.of (by repeat (first | exact heap_last _ _ | (refine heap_at _ _ _ ?_; (simp; done)) | (refine heap_old _ _ _ _ (by simp; try omega) ?_)))
  have K := K.mono hG
  have hne : w.heap.size ≠ b := by omega
  have KS : RS W b w.heap.size (.int .i64 R) (.int .i64 h) (.int .i64 m) (.int .i64 s) (.int .i64 f) := ⟨K.1.1, K4.1.1, K4.1.2.1, K4.1.2.2.1, K4.1.2.2.2⟩
  rw [← hW]
  clear hW
  go_region_held3 (fun w' => RS w' b w.heap.size (.int .i64 R) (.int .i64 h) (.int .i64 m) (.int .i64 s) (.int .i64 f)) ((first | (refine RS.mono KS ?_; (repeat (first | exact Gr.refl _ | assumption | refine Gr.alloc ?_ _ | refine Gr.drew ?_ | refine Gr.drewN ?_ _ | (refine Gr.put ?_ ?_ _; first | exact Nat.le_refl _ | (simp; done) | omega) | (apply Gr.after; assumption))); done) | (refine RS.set ?_ hne ?_; assumption; decide))) (first | (go_at_call 61; refine (when9_any _ _ _ _ _ _ _ _ _ _ _ _ (by first | exact K | exact K.mono ((Gr.refl _).drew))).mono ?_; rintro e w1 ⟨rfl, hb⟩; (first | have K := K.mono hb | have K := (K.mono ((Gr.refl _).drew)).mono hb)) | ((go_at_call 20; refine (Check_any _ _ _ _ _ _).mono ?_; rintro e w1 ⟨rfl, hb⟩); (first | have K := K.mono hb | have K := (K.mono ((Gr.refl _).drew)).mono hb)) | ((go_at_call 39; with_reducible refine (first2_any _ _ _ _ _ ?_).mono ?_; (focus (simp; done)); rintro e w' ⟨rfl, rfl⟩); rw [Hfi.out]) | ((go_at_call 39; with_reducible refine (first2d_any _ _ _ _ _ ?_).mono ?_; (focus (simp; done)); rintro e w' ⟨rfl, rfl⟩); rw [Hfi.out]))
  all_goals go_wp2
  all_goals go_ret
  all_goals exact ⟨rfl, (by repeat (first | exact Gr.refl _ | assumption | refine Gr.alloc ?_ _ | refine Gr.drew ?_ | refine Gr.drewN ?_ _ | (refine Gr.put ?_ ?_ _; first | exact Nat.le_refl _ | (simp; done) | omega) | (apply Gr.after; assumption)))⟩
set_option maxHeartbeats 1000000 in
theorem Hear9_ok (b : Nat) (R F J last stamp time at0 t h m s f : Int) (heard kept : Bool) (w : World) (hF : hearF last t R h m s f = 0) (K : Box9 w b (.int .i64 R) (.int .i64 F) (.int .i64 J) (.int .i64 last) (.bool heard) (.int .i64 stamp) (.int .i64 time) (.bool kept) (.int .i64 at0)) :
    Calls Try.prog 33 #[.pointer (some ⟨b, 0, none⟩), .agg #[.int .i64 h, .int .i64 m, .int .i64 s, .int .i64 f], .int .i64 t] w fun e w' => e = .returned (.int .i64 0) ∧ Mo b w w' ∧ Box9 w' b (.int .i64 R) (.int .i64 F) (.int .i64 J) (.int .i64 t) (.bool true) (.int .i64 (numI R h m s f)) (.int .i64 t) (.bool kept) (.int .i64 at0) := by
  have Hfi := Lib.hid (hear_first last t R h m s f)
  rw [hF] at Hfi
  have hc : chkF R h m s f = 0 := by
    by_cases h0 : whenF last t = 0
    · rw [hearF, if_pos h0] at hF; exact hF
    · rw [hearF, if_neg h0] at hF; exact absurd hF h0
  have ok := Lib.hid (okS_of hc)
  have hlt := K.2.2
  clear hF hc
  go_enter Try.func33, Try.ntmps33
  go_wp2
  obtain ⟨W, hW⟩ : ∃ W, W = w.alloc (.cells #[.int .i64 h, .int .i64 m, .int .i64 s, .int .i64 f] 29) := ⟨_, rfl⟩
  have hG : Gr w W := by subst hW; exact (by repeat (first | exact Gr.refl _ | assumption | refine Gr.alloc ?_ _ | refine Gr.drew ?_ | refine Gr.drewN ?_ _ | (refine Gr.put ?_ ?_ _; first | exact Nat.le_refl _ | (simp; done) | omega) | (apply Gr.after; assumption)))
  have K4 : Box4 W w.heap.size (.int .i64 h) (.int .i64 m) (.int .i64 s) (.int .i64 f) := by subst hW; exact Box4.of (by repeat (first | exact heap_last _ _ | (refine heap_at _ _ _ ?_; (simp; done)) | (refine heap_old _ _ _ _ (by simp; try omega) ?_)))
  have K := K.mono hG
  have hne : w.heap.size ≠ b := by omega
  have KS : RS W b w.heap.size (.int .i64 R) (.int .i64 h) (.int .i64 m) (.int .i64 s) (.int .i64 f) := ⟨K.1.1, K4.1.1, K4.1.2.1, K4.1.2.2.1, K4.1.2.2.2⟩
  rw [← hW]
  clear hW
  go_region_held3 (fun w' => RS w' b w.heap.size (.int .i64 R) (.int .i64 h) (.int .i64 m) (.int .i64 s) (.int .i64 f)) ((first | (refine RS.mono KS ?_; (repeat (first | exact Gr.refl _ | assumption | refine Gr.alloc ?_ _ | refine Gr.drew ?_ | refine Gr.drewN ?_ _ | (refine Gr.put ?_ ?_ _; first | exact Nat.le_refl _ | (simp; done) | omega) | (apply Gr.after; assumption))); done) | (refine RS.set ?_ hne ?_; assumption; decide))) (first | (go_at_call 61; refine (when9_any _ _ _ _ _ _ _ _ _ _ _ _ (by first | exact K | exact K.mono ((Gr.refl _).drew))).mono ?_; rintro e w1 ⟨rfl, hb⟩; (first | have K := K.mono hb | have K := (K.mono ((Gr.refl _).drew)).mono hb)) | ((go_at_call 20; refine (Check_any _ _ _ _ _ _).mono ?_; rintro e w1 ⟨rfl, hb⟩); (first | have K := K.mono hb | have K := (K.mono ((Gr.refl _).drew)).mono hb)) | ((go_at_call 39; with_reducible refine (first2_any _ _ _ _ _ ?_).mono ?_; (focus (simp; done)); rintro e w' ⟨rfl, rfl⟩); rw [Hfi.out]) | ((go_at_call 39; with_reducible refine (first2d_any _ _ _ _ _ ?_).mono ?_; (focus (simp; done)); rintro e w' ⟨rfl, rfl⟩); rw [Hfi.out]))
  rename_i hh
  obtain ⟨W2, hW2⟩ : ∃ W2, W2 = w1.alloc (.cells #[.int .i64 (whenF last t), .int .i64 (chkF R h m s f)] 22) := ⟨_, rfl⟩
  rw [← hW2] at hh ⊢
  have hG2 : Gr w1 W2 := by subst hW2; exact (by repeat (first | exact Gr.refl _ | assumption | refine Gr.alloc ?_ _ | refine Gr.drew ?_ | refine Gr.drewN ?_ _ | (refine Gr.put ?_ ?_ _; first | exact Nat.le_refl _ | (simp; done) | omega) | (apply Gr.after; assumption)))
  clear KS
  have KS := hh
  have K := K.mono hG2
  have hG3 : Gr w W2 := (by repeat (first | exact Gr.refl _ | assumption | refine Gr.alloc ?_ _ | refine Gr.drew ?_ | refine Gr.drewN ?_ _ | (refine Gr.put ?_ ?_ _; first | exact Nat.le_refl _ | (simp; done) | omega) | (apply Gr.after; assumption)))
  clear hh hW2
  go_wp2
  go_region_held3 (fun w' => RS w' b w.heap.size (.int .i64 R) (.int .i64 h) (.int .i64 m) (.int .i64 s) (.int .i64 f)) ((first | (refine RS.mono KS ?_; (repeat (first | exact Gr.refl _ | assumption | refine Gr.alloc ?_ _ | refine Gr.drew ?_ | refine Gr.drewN ?_ _ | (refine Gr.put ?_ ?_ _; first | exact Nat.le_refl _ | (simp; done) | omega) | (apply Gr.after; assumption))); done) | (refine RS.set ?_ hne ?_; assumption; decide))) (first | (go_at_call 53; refine (number_any _ _ _ _ _ ok _).mono ?_; rintro e w3 ⟨rfl, hb⟩; (first | have K := K.mono hb | have K := (K.mono ((Gr.refl _).drew)).mono hb)))
  go_wp2
  go_ret
  refine ⟨rfl, Mo.set (Mo.set (Mo.set (Mo.set (Mo.of (by repeat (first | exact Gr.refl _ | assumption | refine Gr.alloc ?_ _ | refine Gr.drew ?_ | refine Gr.drewN ?_ _ | (refine Gr.put ?_ ?_ _; first | exact Nat.le_refl _ | (simp; done) | omega) | (apply Gr.after; assumption)))) _) _) _) _, K.set3.set4.set5.set6⟩
end Go.Proofs.Ytgjclbkcnilkbaa
