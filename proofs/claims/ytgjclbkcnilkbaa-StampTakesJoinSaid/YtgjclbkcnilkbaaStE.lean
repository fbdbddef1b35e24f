/- The contract of the reference's stampOf. -/
import Derived.Test.YtgjclbkcnilkbaaStD
import Derived.Deep.RegionHeld3
namespace Go.Proofs.Ytgjclbkcnilkbaa
open Go.RowKit
set_option linter.unusedVariables false
set_option linter.unusedSimpArgs false

/-- The drop rate: what is left out ahead of a minute. -/
theorem pre29 {j : Int} (t u : Int) (hj : j = 10 * t + u) (hu : 0 ≤ u ∧ u ≤ 9) : preI 29 j = 17982 * t + (if u = 0 then 0 else 1800 + 1798 * (u - 1)) ∧ minI 29 j = (if u = 0 then 1800 else 1798) := by
  have e1 : j % 10 = u := by omega
  by_cases h0 : u = 0
  · have e2 : (j + 9) / 10 = t := by omega
    simp only [preI, minI, cnt, e1, e2, h0]; simp; omega
  · have e2 : (j + 9) / 10 = t + 1 := by omega
    simp only [preI, minI, cnt, e1, e2, h0]; simp; omega
theorem undrop29 {n j : Int} (hj : 0 ≤ j) (h1 : preI 29 j ≤ n) (h2 : n < preI 29 j + minI 29 j) : undrop 29 n = n + 2 * (j - j / 10) := by
  obtain ⟨t, ht⟩ : ∃ t, t = j / 10 := ⟨_, rfl⟩
  obtain ⟨u, hu⟩ : ∃ u, u = j % 10 := ⟨_, rfl⟩
  obtain ⟨e1, e2⟩ := pre29 (j := j) t u (by omega) (by omega)
  rw [e1, e2] at h2; rw [e1] at h1
  have hj2 : j = 10 * t + u := by omega
  have hu2 : 0 ≤ u ∧ u ≤ 9 := by omega
  rw [← ht]
  clear e1 e2 ht hu
  subst hj2
  by_cases h0 : u = 0
  · subst h0
    simp at h1 h2
    have q1 : n / 17982 = t := by omega
    have q2 : n % 17982 < 1800 := by omega
    rw [undrop, if_pos rfl, q1, if_neg (by omega)]; omega
  · rw [if_neg h0] at h1 h2
    rw [if_neg h0] at h2
    have q1 : n / 17982 = t := by omega
    have q3 : n % 17982 = n - 17982 * t := by omega
    have q4 : (n - 17982 * t - 1800) / 1798 = u - 1 := by omega
    rw [undrop, if_pos rfl, q1, q3, if_pos (by omega), q4]; omega
/-- The minute of a number, and the parts. -/
theorem st_eq {r n j : Int} (hr : rateB r = true) (hj : 0 ≤ j) (h1 : preI r j ≤ n) (h2 : n < preI r j + minI r j) :
    stH r (undrop r n) = j / 60 ∧ stM r (undrop r n) = j % 60 ∧ stS r (undrop r n) = (n - preI r j + (60 * cnt r - minI r j)) / cnt r ∧ stF r (undrop r n) = (n - preI r j + (60 * cnt r - minI r j)) % cnt r := by
  rcases rate_cases hr with rfl | rfl | rfl | rfl
  · simp [preI, minI, cnt, undrop, stH, stM, stS, stF] at *; omega
  · simp [preI, minI, cnt, undrop, stH, stM, stS, stF] at *; omega
  · simp [preI, minI, cnt, undrop, stH, stM, stS, stF] at *; omega
  · have e : undrop 29 n = n + 2 * (j - j / 10) := undrop29 hj h1 h2
    rw [e]
    have e2 : n + 2 * (j - j / 10) = 1800 * j + (n - preI 29 j + (60 * cnt 29 - minI 29 j)) := by
      obtain ⟨e1, e2⟩ := pre29 (j := j) (j / 10) (j % 10) (by omega) (by omega)
      rw [e1, e2]; simp [cnt]; split <;> omega
    have e3 : 0 ≤ n - preI 29 j + (60 * cnt 29 - minI 29 j) ∧ n - preI 29 j + (60 * cnt 29 - minI 29 j) < 1800 := by
      have := minI_bd hr j
      simp [cnt]; omega
    rw [e2]
    generalize n - preI 29 j + (60 * cnt 29 - minI 29 j) = x at *
    simp [stH, stM, stS, stF, cnt]
    omega

set_option maxRecDepth 100000 in
theorem stampOf8_any (r n : Int) (hr : rateB r = true) (h0 : 0 ≤ n) (h1 : n < dayI r) (w : World) :
    Calls Try.prog 55 #[.int .i64 r, .int .i64 n] w fun e w' => e = .returned (.agg #[.int .i64 (stH r (undrop r n)), .int .i64 (stM r (undrop r n)), .int .i64 (stS r (undrop r n)), .int .i64 (stF r (undrop r n))]) ∧ Gr w w' := by
  have Hr := Lib.hid hr
  obtain ⟨hc, hc1, hc2⟩ := cnt8_yes hr
  have Hc := Lib.hid hc; clear hc
  have hd := dayI_le hr
  clear hr
  go_enter Try.func55, Try.ntmps55
  go_wp2
  go_loop [1, 5] (fun a i => ∃ j : Nat, i = .int .i64 j ∧ a = .int .i64 (n - preI r j) ∧ 0 ≤ n - preI r j) (fun a _ => (intOf a).toNat)
  case atStart => exact ⟨0, rfl, by simp [preI], by simp [preI]; omega⟩
  case round =>
    obtain ⟨j, rfl, rfl, hj⟩ := hrel
    have hb := preI_bd Hr.out j (by omega)
    have hm := minI_bd Hr.out j
    by_cases hlt : minI r j ≤ n - preI r j
    · go_wp2_with (go_at_call 66; refine (minute8_any _ _ Hr.out (by omega) _).mono ?_; rintro e w' ⟨rfl, rfl⟩)
      go_round
      case rel => exact ⟨j + 1, by go_num, by rw [show ((j + 1 : Nat) : Int) = (j : Int) + 1 from by omega, preI_succ Hr.out j (by omega)]; go_num, by rw [show ((j + 1 : Nat) : Int) = (j : Int) + 1 from by omega, preI_succ Hr.out j (by omega)]; omega⟩
      case measure => simp [intOf]; omega
    · have st := st_eq Hr.out (by omega) (show preI r j ≤ n by omega) (show n < preI r j + minI r j by omega)
      have ST := Lib.hid st
      clear st
      go_wp2_with (first | (go_at_call 66; refine (minute8_any _ _ Hr.out (by omega) _).mono ?_; rintro e w' ⟨rfl, rfl⟩) | (go_at_call 45; refine (counted8_at Hc.out _).mono ?_; rintro e w' ⟨rfl, rfl⟩))
      have hx : 0 ≤ n - preI r j + (60 * cnt r - minI r j) ∧ n - preI r j + (60 * cnt r - minI r j) ≤ 1800 := by
        have : minI r j ≤ 60 * cnt r := by
          rcases rate_cases Hr.out with rfl | rfl | rfl | rfl <;> simp [minI, cnt] <;> (try split) <;> omega
        omega
      generalize n - preI r j + (60 * cnt r - minI r j) = x at *
      obtain ⟨hx0, hx1⟩ := hx
      have hne : ¬ cnt r = 0 := by omega
      have hdv : x.tdiv (cnt r) = x / cnt r := Int.tdiv_eq_ediv_of_nonneg hx0
      have hdb := Int.ediv_le_self (cnt r) hx0
      have hd0 := Int.ediv_nonneg hx0 (show 0 ≤ cnt r by omega)
      have t1 : IntKind.i64.wrap (x.tdiv (cnt r)) = x / cnt r := by rw [hdv]; exact wrap_in (by omega)
      have t2 : x.tmod (cnt r) = x % cnt r := Int.tmod_eq_emod_of_nonneg hx0
      clear hdv hdb hd0
      go_region_held3 (fun _ => True) (trivial) (first | (go_at_call 45; refine (counted8_at Hc.out _).mono ?_; rintro e w' ⟨rfl, rfl⟩))
      go_wp2
      obtain ⟨s1, s2, s3, s4⟩ := ST.out
      exact bodyPost_ret (v := .agg #[.int .i64 (j / 60), .int .i64 (j % 60), .int .i64 (x / cnt r), .int .i64 (x % cnt r)]) (by simp [results, Try.results55, go_sem]; exact ⟨wrap_in (by omega), Int.tmod_eq_emod_of_nonneg (by omega)⟩) rfl ⟨by rw [s1, s2, s3, s4], (by repeat (first | exact Gr.refl _ | assumption | refine Gr.alloc ?_ _ | refine Gr.drew ?_ | refine Gr.drewN ?_ _ | (refine Gr.put ?_ ?_ _; first | exact Nat.le_refl _ | (simp; done) | omega) | (apply Gr.after; assumption)))⟩
end Go.Proofs.Ytgjclbkcnilkbaa
