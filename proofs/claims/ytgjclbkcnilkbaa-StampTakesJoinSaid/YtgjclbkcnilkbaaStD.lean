/- The contracts of stamp's number and stampOf, and of their references. -/
import Derived.Test.YtgjclbkcnilkbaaStC
import Derived.IntWalk
namespace Go.Proofs.Ytgjclbkcnilkbaa
open Go.RowKit
set_option linter.unusedVariables false
set_option linter.unusedSimpArgs false

theorem counted_at {r c : Int} (hc : cnt r = c) (w : World) :
    Calls Try.prog 57 #[.int .i64 r] w fun e w' => e = .returned (.int .i64 c) ∧ w = w' := by
  subst hc; exact counted_any r w
theorem counted24 (w : World) : Calls Try.prog 57 #[.int .i64 24] w fun e w' => e = .returned (.int .i64 24) ∧ w = w' := counted_any 24 w
theorem counted25 (w : World) : Calls Try.prog 57 #[.int .i64 25] w fun e w' => e = .returned (.int .i64 25) ∧ w = w' := counted_any 25 w
theorem counted30 (w : World) : Calls Try.prog 57 #[.int .i64 30] w fun e w' => e = .returned (.int .i64 30) ∧ w = w' := counted_any 30 w
theorem counted29 (w : World) : Calls Try.prog 57 #[.int .i64 29] w fun e w' => e = .returned (.int .i64 30) ∧ w = w' := counted_any 29 w
theorem counted8_at {r c : Int} (hc : cnt8 r = c) (w : World) :
    Calls Try.prog 45 #[.int .i64 r] w fun e w' => e = .returned (.int .i64 c) ∧ w = w' := by
  subst hc; exact counted8_any r w

/-- number at the rate r with c frames a second, in plain numbers. -/
theorem numI_plain {r h m s f : Int} (h0 : 0 ≤ h * 60 + m) (hr : r = 24 ∨ r = 25 ∨ r = 30) : numI r h m s f = ((h * 60 + m) * 60 + s) * r + f := by
  rcases hr with rfl | rfl | rfl <;> simp [numI, preI, minI, cnt] <;> omega
theorem numI_drop {h m s f : Int} (h0 : 0 ≤ h * 60 + m) : numI 29 h m s f = ((h * 60 + m) * 60 + s) * 30 + f - 2 * (h * 60 + m - (h * 60 + m) / 10) := by
  simp [numI, preI, minI, cnt]; split <;> omega

theorem number_any (r h m s f : Int) (k : Hid (okS r h m s f)) (w : World) :
    Calls Try.prog 53 #[.int .i64 r, .agg #[.int .i64 h, .int .i64 m, .int .i64 s, .int .i64 f]] w fun e w' => e = .returned (.int .i64 (numI r h m s f)) ∧ Gr w w' := by
  obtain ⟨hr, ⟨h1, h1'⟩, ⟨h2, h2'⟩, ⟨h3, h3'⟩, ⟨h4, h4'⟩, h5⟩ := k.out
  clear h5
  have q1 : IntKind.i64.wrap ((h * 60 + m) * 60) = (h * 60 + m) * 60 := wrap_in (by omega)
  have q2 : IntKind.i64.wrap ((h * 60 + m) * 60 + s) = (h * 60 + m) * 60 + s := wrap_in (by omega)
  rcases rate_cases hr with rfl | rfl | rfl | rfl <;> clear hr <;> simp only [cnt] at h4' <;> simp at h4'
  case inr.inr.inr =>
    rw [numI_drop (by omega)]
    have q3 : IntKind.i64.wrap (((h * 60 + m) * 60 + s) * 30) = ((h * 60 + m) * 60 + s) * 30 := wrap_in (by omega)
    have q4 : IntKind.i64.wrap (((h * 60 + m) * 60 + s) * 30 + f) = ((h * 60 + m) * 60 + s) * 30 + f := wrap_in (by omega)
    go_enter Try.func53, Try.ntmps53
    go_wp2
    go_quiet ((go_at_call 57; first | exact quiet_left (counted29 _) | exact quiet_left (counted24 _) | exact quiet_left (counted25 _) | exact quiet_left (counted30 _)))
    clear q1 q2 q3 q4
    go_wp2
    go_ret
    exact ⟨rfl, (by repeat (first | exact Gr.refl _ | assumption | refine Gr.alloc ?_ _ | refine Gr.drew ?_ | refine Gr.drewN ?_ _ | (refine Gr.put ?_ ?_ _; first | exact Nat.le_refl _ | (simp; done) | omega) | (apply Gr.after; assumption)))⟩
  · rw [numI_plain (by omega) (by omega)]
    have q3 : IntKind.i64.wrap (((h * 60 + m) * 60 + s) * 24) = ((h * 60 + m) * 60 + s) * 24 := wrap_in (by omega)
    have q4 : IntKind.i64.wrap (((h * 60 + m) * 60 + s) * 24 + f) = ((h * 60 + m) * 60 + s) * 24 + f := wrap_in (by omega)
    go_enter Try.func53, Try.ntmps53
    go_wp2
    go_quiet ((go_at_call 57; first | exact quiet_left (counted29 _) | exact quiet_left (counted24 _) | exact quiet_left (counted25 _) | exact quiet_left (counted30 _)))
    clear q1 q2 q3 q4
    go_wp2
    go_ret
    exact ⟨rfl, (by repeat (first | exact Gr.refl _ | assumption | refine Gr.alloc ?_ _ | refine Gr.drew ?_ | refine Gr.drewN ?_ _ | (refine Gr.put ?_ ?_ _; first | exact Nat.le_refl _ | (simp; done) | omega) | (apply Gr.after; assumption)))⟩
  · rw [numI_plain (by omega) (by omega)]
    have q3 : IntKind.i64.wrap (((h * 60 + m) * 60 + s) * 25) = ((h * 60 + m) * 60 + s) * 25 := wrap_in (by omega)
    have q4 : IntKind.i64.wrap (((h * 60 + m) * 60 + s) * 25 + f) = ((h * 60 + m) * 60 + s) * 25 + f := wrap_in (by omega)
    go_enter Try.func53, Try.ntmps53
    go_wp2
    go_quiet ((go_at_call 57; first | exact quiet_left (counted29 _) | exact quiet_left (counted24 _) | exact quiet_left (counted25 _) | exact quiet_left (counted30 _)))
    clear q1 q2 q3 q4
    go_wp2
    go_ret
    exact ⟨rfl, (by repeat (first | exact Gr.refl _ | assumption | refine Gr.alloc ?_ _ | refine Gr.drew ?_ | refine Gr.drewN ?_ _ | (refine Gr.put ?_ ?_ _; first | exact Nat.le_refl _ | (simp; done) | omega) | (apply Gr.after; assumption)))⟩
  · rw [numI_plain (by omega) (by omega)]
    have q3 : IntKind.i64.wrap (((h * 60 + m) * 60 + s) * 30) = ((h * 60 + m) * 60 + s) * 30 := wrap_in (by omega)
    have q4 : IntKind.i64.wrap (((h * 60 + m) * 60 + s) * 30 + f) = ((h * 60 + m) * 60 + s) * 30 + f := wrap_in (by omega)
    go_enter Try.func53, Try.ntmps53
    go_wp2
    go_quiet ((go_at_call 57; first | exact quiet_left (counted29 _) | exact quiet_left (counted24 _) | exact quiet_left (counted25 _) | exact quiet_left (counted30 _)))
    clear q1 q2 q3 q4
    go_wp2
    go_ret
    exact ⟨rfl, (by repeat (first | exact Gr.refl _ | assumption | refine Gr.alloc ?_ _ | refine Gr.drew ?_ | refine Gr.drewN ?_ _ | (refine Gr.put ?_ ?_ _; first | exact Nat.le_refl _ | (simp; done) | omega) | (apply Gr.after; assumption)))⟩

/-! ### the reference's number: a loop over the minutes -/
set_option maxRecDepth 100000 in
theorem number8_any (r h m s f : Int) (k : Hid (okS r h m s f)) (w : World) :
    Calls Try.prog 56 #[.int .i64 r, .agg #[.int .i64 h, .int .i64 m, .int .i64 s, .int .i64 f]] w fun e w' => e = .returned (.int .i64 (numI r h m s f)) ∧ Gr w w' := by
  obtain ⟨hr, ⟨h1, h1'⟩, ⟨h2, h2'⟩, ⟨h3, h3'⟩, ⟨h4, h4'⟩, h5⟩ := k.out
  clear h5
  have Hr := Lib.hid hr
  obtain ⟨hc, hc1, hc2⟩ := cnt8_yes hr
  have Hc := Lib.hid hc; clear hc
  clear hr
  go_enter Try.func56, Try.ntmps56
  go_wp2
  go_loop [5, 15] (fun n i => ∃ j : Nat, j ≤ h * 60 + m ∧ i = .int .i64 j ∧ n = .int .i64 (preI r j)) (fun _ i => (h * 60 + m).toNat - (intOf i).toNat)
  case atStart => exact ⟨0, by omega, rfl, by simp [preI]⟩
  case round =>
    obtain ⟨j, hj, rfl, rfl⟩ := hrel
    have hb := preI_bd Hr.out j (by omega)
    have hm := minI_bd Hr.out j
    by_cases hlt : j < h * 60 + m
    · go_wp2_with (go_at_call 66; refine (minute8_any _ _ Hr.out (by omega) _).mono ?_; rintro e w' ⟨rfl, rfl⟩)
      go_round
      case rel => exact ⟨j + 1, by omega, by go_num, by rw [show ((j + 1 : Nat) : Int) = (j : Int) + 1 from by omega, preI_succ Hr.out j (by omega)]⟩
      case measure => simp [intOf]; omega
    · have hj2 : (j : Int) = h * 60 + m := by omega
      have hb2 := preI_bd Hr.out (h * 60 + m) (by omega)
      have hm2 := minI_bd Hr.out (h * 60 + m)
      have hsc : 0 ≤ s * cnt r ∧ s * cnt r ≤ 1770 := by
        rcases rate_cases Hr.out with rfl | rfl | rfl | rfl <;> simp [cnt] <;> omega
      have q1 : IntKind.i64.wrap (s * cnt r) = s * cnt r := wrap_in (by omega)
      have q2 : IntKind.i64.wrap (s * cnt r + f) = s * cnt r + f := wrap_in (by omega)
      have q3 : IntKind.i64.wrap (preI r (h * 60 + m) + (s * cnt r + f)) = preI r (h * 60 + m) + (s * cnt r + f) := wrap_in (by omega)
      go_wp2
      go_quiet ((go_at_call 45; exact quiet_left (counted8_at Hc.out _)))
      clear q1 q2 q3
      go_wp2_with (first | (go_at_call 45; refine (counted8_at Hc.out _).mono ?_; rintro e w' ⟨rfl, rfl⟩) | (go_at_call 66; refine (minute8_any _ _ Hr.out (by omega) _).mono ?_; rintro e w' ⟨rfl, rfl⟩))
      go_ret
      exact ⟨ret_int (by unfold numI; omega), (by repeat (first | exact Gr.refl _ | assumption | refine Gr.alloc ?_ _ | refine Gr.drew ?_ | refine Gr.drewN ?_ _ | (refine Gr.put ?_ ?_ _; first | exact Nat.le_refl _ | (simp; done) | omega) | (apply Gr.after; assumption)))⟩

/-! ### stampOf -/
/-- A number's parts at a rate without drop: hours, minutes, seconds, frames. -/
def stH (r n : Int) : Int := n / cnt r / 3600
def stM (r n : Int) : Int := n / cnt r / 60 % 60
def stS (r n : Int) : Int := n / cnt r % 60
def stF (r n : Int) : Int := n % cnt r
/-- What is left out put in. -/
def undrop (r n : Int) : Int := if r = 29 then n + 18 * (n / 17982) + (if 1800 ≤ n % 17982 then 2 * (1 + (n % 17982 - 1800) / 1798) else 0) else n
theorem stampOf_any (r n : Int) (hr : rateB r = true) (h0 : 0 ≤ n) (h1 : n < dayI r) (w : World) :
    Calls Try.prog 52 #[.int .i64 r, .int .i64 n] w fun e w' => e = .returned (.agg #[.int .i64 (stH r (undrop r n)), .int .i64 (stM r (undrop r n)), .int .i64 (stS r (undrop r n)), .int .i64 (stF r (undrop r n))]) ∧ Gr w w' := by
  rcases rate_cases hr with rfl | rfl | rfl | rfl <;> clear hr
  case inr.inr.inr =>
    rw [show dayI 29 = 2589408 from by decide +kernel] at h1
    by_cases h2 : 1800 ≤ n % 17982
    · have e : undrop 29 n = n + 18 * (n / 17982) + 2 * (1 + (n % 17982 - 1800) / 1798) := by simp [undrop, h2]
      rw [e]; clear e
      obtain ⟨u, hu⟩ : ∃ u, u = n + 18 * (n / 17982) + 2 * (1 + (n % 17982 - 1800) / 1798) := ⟨_, rfl⟩
      have HU := Lib.hid hu; clear hu
      go_enter Try.func52, Try.ntmps52
      go_wp2_with (go_at_call 57; (first | refine (counted29 _).mono ?_ | refine (counted24 _).mono ?_ | refine (counted25 _).mono ?_ | refine (counted30 _).mono ?_); (rintro e w' ⟨rfl, rfl⟩))
      rw [← HU.out]
      exact bodyPost_ret (v := .agg #[.int .i64 (u / 30 / 3600), .int .i64 (u / 30 / 60 % 60), .int .i64 (u / 30 % 60), .int .i64 (u % 30)]) (by simp [results, Try.results52, go_sem, HU.out]) rfl ⟨rfl, (by repeat (first | exact Gr.refl _ | assumption | refine Gr.alloc ?_ _ | refine Gr.drew ?_ | refine Gr.drewN ?_ _ | (refine Gr.put ?_ ?_ _; first | exact Nat.le_refl _ | (simp; done) | omega) | (apply Gr.after; assumption)))⟩
    · have e : undrop 29 n = n + 18 * (n / 17982) := by simp [undrop, h2]
      rw [e]; clear e
      obtain ⟨u, hu⟩ : ∃ u, u = n + 18 * (n / 17982) := ⟨_, rfl⟩
      have HU := Lib.hid hu; clear hu
      go_enter Try.func52, Try.ntmps52
      go_wp2_with (go_at_call 57; (first | refine (counted29 _).mono ?_ | refine (counted24 _).mono ?_ | refine (counted25 _).mono ?_ | refine (counted30 _).mono ?_); (rintro e w' ⟨rfl, rfl⟩))
      rw [← HU.out]
      exact bodyPost_ret (v := .agg #[.int .i64 (u / 30 / 3600), .int .i64 (u / 30 / 60 % 60), .int .i64 (u / 30 % 60), .int .i64 (u % 30)]) (by simp [results, Try.results52, go_sem, HU.out]) rfl ⟨rfl, (by repeat (first | exact Gr.refl _ | assumption | refine Gr.alloc ?_ _ | refine Gr.drew ?_ | refine Gr.drewN ?_ _ | (refine Gr.put ?_ ?_ _; first | exact Nat.le_refl _ | (simp; done) | omega) | (apply Gr.after; assumption)))⟩
  · have e : undrop 24 n = n := by simp [undrop]
    rw [show dayI 24 = 2073600 from by decide +kernel] at h1
    rw [e]; clear e
    go_enter Try.func52, Try.ntmps52
    go_wp2_with (go_at_call 57; (first | refine (counted29 _).mono ?_ | refine (counted24 _).mono ?_ | refine (counted25 _).mono ?_ | refine (counted30 _).mono ?_); (rintro e w' ⟨rfl, rfl⟩))
    exact bodyPost_ret (v := .agg #[.int .i64 (n / 24 / 3600), .int .i64 (n / 24 / 60 % 60), .int .i64 (n / 24 % 60), .int .i64 (n % 24)]) (by simp [results, Try.results52, go_sem]) rfl ⟨rfl, (by repeat (first | exact Gr.refl _ | assumption | refine Gr.alloc ?_ _ | refine Gr.drew ?_ | refine Gr.drewN ?_ _ | (refine Gr.put ?_ ?_ _; first | exact Nat.le_refl _ | (simp; done) | omega) | (apply Gr.after; assumption)))⟩
  · have e : undrop 25 n = n := by simp [undrop]
    rw [show dayI 25 = 2160000 from by decide +kernel] at h1
    rw [e]; clear e
    go_enter Try.func52, Try.ntmps52
    go_wp2_with (go_at_call 57; (first | refine (counted29 _).mono ?_ | refine (counted24 _).mono ?_ | refine (counted25 _).mono ?_ | refine (counted30 _).mono ?_); (rintro e w' ⟨rfl, rfl⟩))
    exact bodyPost_ret (v := .agg #[.int .i64 (n / 25 / 3600), .int .i64 (n / 25 / 60 % 60), .int .i64 (n / 25 % 60), .int .i64 (n % 25)]) (by simp [results, Try.results52, go_sem]) rfl ⟨rfl, (by repeat (first | exact Gr.refl _ | assumption | refine Gr.alloc ?_ _ | refine Gr.drew ?_ | refine Gr.drewN ?_ _ | (refine Gr.put ?_ ?_ _; first | exact Nat.le_refl _ | (simp; done) | omega) | (apply Gr.after; assumption)))⟩
  · have e : undrop 30 n = n := by simp [undrop]
    rw [show dayI 30 = 2592000 from by decide +kernel] at h1
    rw [e]; clear e
    go_enter Try.func52, Try.ntmps52
    go_wp2_with (go_at_call 57; (first | refine (counted29 _).mono ?_ | refine (counted24 _).mono ?_ | refine (counted25 _).mono ?_ | refine (counted30 _).mono ?_); (rintro e w' ⟨rfl, rfl⟩))
    exact bodyPost_ret (v := .agg #[.int .i64 (n / 30 / 3600), .int .i64 (n / 30 / 60 % 60), .int .i64 (n / 30 % 60), .int .i64 (n % 30)]) (by simp [results, Try.results52, go_sem]) rfl ⟨rfl, (by repeat (first | exact Gr.refl _ | assumption | refine Gr.alloc ?_ _ | refine Gr.drew ?_ | refine Gr.drewN ?_ _ | (refine Gr.put ?_ ?_ _; first | exact Nat.le_refl _ | (simp; done) | omega) | (apply Gr.after; assumption)))⟩
end Go.Proofs.Ytgjclbkcnilkbaa
