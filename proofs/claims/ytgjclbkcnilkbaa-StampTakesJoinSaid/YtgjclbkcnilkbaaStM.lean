/- The contract of the reference's Take. -/
import Derived.Test.YtgjclbkcnilkbaaStL
namespace Go.Proofs.Ytgjclbkcnilkbaa
open Go.RowKit
set_option linter.unusedVariables false
set_option linter.unusedSimpArgs false

theorem Take8_no (b : Nat) (R F J last stamp time at1 t : Int) (heard : Bool) (w : World) (hF : takeF last t heard ≠ 0) (K : Box8 w b (.int .i64 R) (.int .i64 F) (.int .i64 J) (.bool heard) (.int .i64 stamp) (.int .i64 time) (.int .i64 last) (.int .i64 at1)) :
    Calls Try.prog 38 #[.pointer (some ⟨b, 0, none⟩), .int .i64 t] w fun e w' => e = .returned (.tuple #[.int .i64 0, .int .i64 0, .bool false, .int .i64 (takeF last t heard)]) ∧ Gr w w' := by
  by_cases h0 : whenF last t = 0
  · have hh : heard = false := by
      cases heard
      · rfl
      · simp [takeF, h0] at hF
    subst hh
    have hz : takeF last t false = 10 := by simp [takeF, h0]
    rw [hz]
    clear hF hz
    go_enter Try.func38, Try.ntmps38
    go_wp2_with (go_at_call 62; refine (begins8_any _ _ _ _ _ _ _ _ _ _ _ K).mono ?_; rintro e w' ⟨rfl, rfl⟩)
    refine bodyPost_ret (results_tmp4 rfl _ _ _) rfl ?_
    exact ⟨rfl, (by repeat (first | exact Gr.refl _ | assumption | refine Gr.alloc ?_ _ | refine Gr.drew ?_ | refine Gr.drewN ?_ _ | (refine Gr.put ?_ ?_ _; first | exact Nat.le_refl _ | (simp; done) | omega) | (apply Gr.after; assumption)))⟩
  · have hz : takeF last t heard = whenF last t := by rw [takeF, if_neg h0]
    have hb' : (whenF last t != 0) = true := by simpa using h0
    rw [hz]
    clear hF hz h0
    go_enter Try.func38, Try.ntmps38
    go_wp2_with (go_at_call 62; refine (begins8_any _ _ _ _ _ _ _ _ _ _ _ K).mono ?_; rintro e w' ⟨rfl, rfl⟩)
    refine bodyPost_ret (results_tmp4 rfl _ _ _) rfl ?_
    exact ⟨rfl, (by repeat (first | exact Gr.refl _ | assumption | refine Gr.alloc ?_ _ | refine Gr.drew ?_ | refine Gr.drewN ?_ _ | (refine Gr.put ?_ ?_ _; first | exact Nat.le_refl _ | (simp; done) | omega) | (apply Gr.after; assumption)))⟩
set_option maxHeartbeats 2000000 in
theorem Take8_ok (b : Nat) (R F J last stamp time at1 t : Int) (heard : Bool) (w : World) (hF : takeF last t heard = 0) (ok : okFol R F J last stamp time) (ha : -1 ≤ at1 ∧ at1 < dayI R) (K : Box8 w b (.int .i64 R) (.int .i64 F) (.int .i64 J) (.bool heard) (.int .i64 stamp) (.int .i64 time) (.int .i64 last) (.int .i64 at1)) :
    Calls Try.prog 38 #[.pointer (some ⟨b, 0, none⟩), .int .i64 t] w fun e w' => e = .returned (.tuple #[.int .i64 (tkFrom (decide (0 ≤ at1)) J (tkG R at1 (wP true R F stamp time t)) at1 (wP true R F stamp time t)), .int .i64 (tkTo (decide (0 ≤ at1)) J (tkG R at1 (wP true R F stamp time t)) at1 (wP true R F stamp time t)), .bool (tkJ (decide (0 ≤ at1)) J (tkG R at1 (wP true R F stamp time t))), .int .i64 0]) ∧ Mo b w w' ∧ Box8 w' b (.int .i64 R) (.int .i64 F) (.int .i64 J) (.bool true) (.int .i64 stamp) (.int .i64 time) (.int .i64 t) (.int .i64 (wP true R F stamp time t)) := by
  have hw0 : whenF last t = 0 := by
    by_cases h0 : whenF last t = 0
    · exact h0
    · rw [takeF, if_neg h0] at hF; exact hF
  have hh : heard = true := by
    cases heard
    · simp [takeF, hw0] at hF
    · rfl
  subst hh
  obtain ⟨hr, h1, h2, h3, h4, h5⟩ := ok
  have hw := whenF_zero hw0
  have hd := dayI_le hr
  have hp := wP_bd (R := R) (F := F) (stamp := stamp) (time := time) (t := t) hr true
  have hgb := mod_bd hr (wP true R F stamp time t - at1)
  have Hr := Lib.hid hr
  clear hF hr
  by_cases hneg : at1 < 0
  · have hd0 : decide (0 ≤ at1) = false := by simpa using hneg
    have hfr : ∀ g a p, tkFrom false J g a p = p := fun _ _ _ => rfl
    have hto : ∀ g a p, tkTo false J g a p = p := fun _ _ _ => rfl
    have hj : ∀ g, tkJ false J g = false := fun _ => rfl
    rw [hd0, hfr, hto, hj]
    clear hfr hto hj hd0
    go_enter Try.func38, Try.ntmps38
    go_wp2_with (first | (go_at_call 62; refine (begins8_any _ _ _ _ _ _ _ _ _ _ _ K).mono ?_; rintro e w' ⟨rfl, rfl⟩) | (go_at_call 64; refine (where8_any _ _ _ _ _ _ _ _ _ _ _ Hr.out h1 h4 ⟨by omega, by omega⟩ K.set6).mono ?_; rintro e w2 ⟨rfl, hb2⟩; have K := K.set6.mono hb2))
    refine bodyPost_ret (results_tmp4 rfl _ _ _) rfl ?_
    exact ⟨rfl, Mo.set (Mo.trans (Mo.set (Mo.of (Gr.refl _)) _) (Mo.of hb2)) _, K.set7⟩
  · have hd0 : decide (0 ≤ at1) = true := by simpa using hneg
    rw [hd0]
    clear hd0
    by_cases hg : tkG R at1 (wP true R F stamp time t) ≤ J
    · have hfr : tkFrom true J (tkG R at1 (wP true R F stamp time t)) at1 (wP true R F stamp time t) = at1 := if_pos ⟨rfl, hg⟩
      have hto : tkTo true J (tkG R at1 (wP true R F stamp time t)) at1 (wP true R F stamp time t) = at1 + tkG R at1 (wP true R F stamp time t) := if_pos ⟨rfl, hg⟩
      have hj : tkJ true J (tkG R at1 (wP true R F stamp time t)) = false := by simp [tkJ]; omega
      rw [hfr, hto, hj]
      unfold tkG at hg ⊢
      clear hfr hto hj
      go_enter Try.func38, Try.ntmps38
      go_wp2_with (first | (go_at_call 62; refine (begins8_any _ _ _ _ _ _ _ _ _ _ _ K).mono ?_; rintro e w' ⟨rfl, rfl⟩) | (go_at_call 64; refine (where8_any _ _ _ _ _ _ _ _ _ _ _ Hr.out h1 h4 ⟨by omega, by omega⟩ K.set6).mono ?_; rintro e w2 ⟨rfl, hb2⟩; have K := K.set6.mono hb2; have K2 := K.set7 (u := .int .i64 (wP true R F stamp time t))) | (go_at_call 47; refine (day8_any _ Hr.out _).mono ?_; rintro e w' ⟨rfl, rfl⟩) | (go_at_call 59; refine (around8_any _ _ (by omega) (by omega) (by omega) (by omega) _).mono ?_; rintro e w' ⟨rfl, rfl⟩))
      refine bodyPost_ret (results_tmp4 rfl _ _ _) rfl ?_
      exact ⟨rfl, Mo.set (Mo.trans (Mo.set (Mo.of (Gr.refl _)) _) (Mo.of hb2)) _, K.set7⟩
    · have hfr : tkFrom true J (tkG R at1 (wP true R F stamp time t)) at1 (wP true R F stamp time t) = wP true R F stamp time t := if_neg (fun h => hg h.2)
      have hto : tkTo true J (tkG R at1 (wP true R F stamp time t)) at1 (wP true R F stamp time t) = wP true R F stamp time t := if_neg (fun h => hg h.2)
      have hj : tkJ true J (tkG R at1 (wP true R F stamp time t)) = true := by simp [tkJ]; omega
      rw [hfr, hto, hj]
      unfold tkG at hg
      clear hfr hto hj
      go_enter Try.func38, Try.ntmps38
      go_wp2_with (first | (go_at_call 62; refine (begins8_any _ _ _ _ _ _ _ _ _ _ _ K).mono ?_; rintro e w' ⟨rfl, rfl⟩) | (go_at_call 64; refine (where8_any _ _ _ _ _ _ _ _ _ _ _ Hr.out h1 h4 ⟨by omega, by omega⟩ K.set6).mono ?_; rintro e w2 ⟨rfl, hb2⟩; have K := K.set6.mono hb2; have K2 := K.set7 (u := .int .i64 (wP true R F stamp time t))) | (go_at_call 47; refine (day8_any _ Hr.out _).mono ?_; rintro e w' ⟨rfl, rfl⟩) | (go_at_call 59; refine (around8_any _ _ (by omega) (by omega) (by omega) (by omega) _).mono ?_; rintro e w' ⟨rfl, rfl⟩))
      refine bodyPost_ret (results_tmp4 rfl _ _ _) rfl ?_
      exact ⟨rfl, Mo.set (Mo.trans (Mo.set (Mo.of (Gr.refl _)) _) (Mo.of hb2)) _, K.set7⟩
end Go.Proofs.Ytgjclbkcnilkbaa
