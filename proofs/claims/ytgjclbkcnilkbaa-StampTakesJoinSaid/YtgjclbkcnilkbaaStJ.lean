/- The contracts of the followers' where, and of its reference. -/
import Derived.Test.YtgjclbkcnilkbaaStI
namespace Go.Proofs.Ytgjclbkcnilkbaa
open Go.RowKit
set_option linter.unusedVariables false
set_option linter.unusedSimpArgs false

/-- The place and the state at a time. -/
def wG (F : Int) : Int := if 1 ≤ F then F else 1
def wP (heard : Bool) (R F stamp time t : Int) : Int :=
  if heard = true then (stamp + (if framesI R (t - time) ≤ wG F then (if framesI R (t - time) ≤ 1 then framesI R (t - time) else framesI R (t - time)) else (if framesI R (t - time) ≤ 1 then framesI R (t - time) else wG F))) % dayI R else 0
def wS (heard : Bool) (R F stamp time t : Int) : Int := if heard = true then (if framesI R (t - time) ≤ 1 then 1 else if framesI R (t - time) ≤ wG F then 2 else 3) else 0
theorem framesI_bd {R n : Int} (h : rateB R = true) (h0 : 0 ≤ n) (h1 : n ≤ 36000000) : 0 ≤ framesI R n ∧ framesI R n ≤ 2000000 := by
  rcases rate_cases h with rfl | rfl | rfl | rfl <;> simp [framesI, spP, spQ] <;> omega
theorem w_cases (heard : Bool) (R F stamp time t : Int) : (heard = false ∧ wP heard R F stamp time t = 0 ∧ wS heard R F stamp time t = 0) ∨
    (heard = true ∧ framesI R (t - time) ≤ 1 ∧ wP heard R F stamp time t = (stamp + framesI R (t - time)) % dayI R ∧ wS heard R F stamp time t = 1) ∨
    (heard = true ∧ ¬ framesI R (t - time) ≤ 1 ∧ framesI R (t - time) ≤ wG F ∧ wP heard R F stamp time t = (stamp + framesI R (t - time)) % dayI R ∧ wS heard R F stamp time t = 2) ∨
    (heard = true ∧ ¬ framesI R (t - time) ≤ 1 ∧ ¬ framesI R (t - time) ≤ wG F ∧ wP heard R F stamp time t = (stamp + wG F) % dayI R ∧ wS heard R F stamp time t = 3) := by
  cases heard
  · left; simp [wP, wS]
  · right
    by_cases h1 : framesI R (t - time) ≤ 1
    · left; simp [wP, wS, h1]
    · right
      by_cases h2 : framesI R (t - time) ≤ wG F
      · left; simp [wP, wS, h1, h2]
      · right; simp [wP, wS, h1, h2]

set_option maxHeartbeats 1000000 in
theorem where9_any (b : Nat) (R F J last stamp time at0 t : Int) (heard kept : Bool) (w : World) (hr : rateB R = true) (hF : 0 ≤ F ∧ F ≤ 1000) (hs : 0 ≤ stamp ∧ stamp < dayI R) (ht : 0 ≤ t - time ∧ t - time ≤ 36000000) (K : Box9 w b (.int .i64 R) (.int .i64 F) (.int .i64 J) (.int .i64 last) (.bool heard) (.int .i64 stamp) (.int .i64 time) (.bool kept) (.int .i64 at0)) :
    Calls Try.prog 63 #[.pointer (some ⟨b, 0, none⟩), .int .i64 t] w fun e w' => e = .returned (.tuple #[.int .i64 (wP heard R F stamp time t), .int .i64 (wS heard R F stamp time t)]) ∧ Gr w w' := by
  have Hr := Lib.hid hr
  have hd := dayI_le hr
  have hfb := framesI_bd hr ht.1 ht.2
  have q0 : IntKind.i64.wrap (t - time) = t - time := wrap_in (by omega)
  have q1 : IntKind.i64.wrap (stamp + framesI R (t - time)) = stamp + framesI R (t - time) := wrap_in (by omega)
  have hne : ¬ dayI R = 0 := by omega
  clear hr
  rcases w_cases heard R F stamp time t with ⟨rfl, e1, e2⟩ | ⟨rfl, h1, e1, e2⟩ | ⟨rfl, h1, h2, e1, e2⟩ | ⟨rfl, h1, h2, e1, e2⟩
  · rw [e1, e2]; clear e1 e2
    go_enter Try.func63, Try.ntmps63
    go_wp2
    go_ret2
    exact ⟨rfl, (by repeat (first | exact Gr.refl _ | assumption | refine Gr.alloc ?_ _ | refine Gr.drew ?_ | refine Gr.drewN ?_ _ | (refine Gr.put ?_ ?_ _; first | exact Nat.le_refl _ | (simp; done) | omega) | (apply Gr.after; assumption)))⟩
  · rw [e1, e2]; clear e1 e2
    by_cases hF1 : 1 ≤ F
    · have hgF : wG F = F := if_pos hF1
      clear hgF
      have q2 : IntKind.i64.wrap (stamp + F) = stamp + F := wrap_in (by omega)
      go_enter Try.func63, Try.ntmps63
      go_wp2
      go_region_held3 (fun w' => Box9 w' b (.int .i64 R) (.int .i64 F) (.int .i64 J) (.int .i64 last) (.bool true) (.int .i64 stamp) (.int .i64 time) (.bool kept) (.int .i64 at0)) ((refine Box9.mono K ?_; (repeat (first | exact Gr.refl _ | assumption | refine Gr.alloc ?_ _ | refine Gr.drew ?_ | refine Gr.drewN ?_ _ | (refine Gr.put ?_ ?_ _; first | exact Nat.le_refl _ | (simp; done) | omega) | (apply Gr.after; assumption))); done)) (first | (go_at_call 49; refine (frames_any _ _ Hr.out (by omega) (by omega) _).mono ?_; rintro e w' ⟨rfl, rfl⟩))
      all_goals
        clear q0
        rename_i hh
        clear K
        have K := hh
        clear hh
        go_wp2
        go_region_held3 (fun w' => Box9 w' b (.int .i64 R) (.int .i64 F) (.int .i64 J) (.int .i64 last) (.bool true) (.int .i64 stamp) (.int .i64 time) (.bool kept) (.int .i64 at0)) ((refine Box9.mono K ?_; (repeat (first | exact Gr.refl _ | assumption | refine Gr.alloc ?_ _ | refine Gr.drew ?_ | refine Gr.drewN ?_ _ | (refine Gr.put ?_ ?_ _; first | exact Nat.le_refl _ | (simp; done) | omega) | (apply Gr.after; assumption))); done)) (first | (go_at_call 58; refine (around_any _ _ Hr.out (by omega) (by omega) _).mono ?_; rintro e w' ⟨rfl, rfl⟩))
        all_goals go_wp2
        all_goals go_ret2
        all_goals exact ⟨rfl, (by repeat (first | exact Gr.refl _ | assumption | refine Gr.alloc ?_ _ | refine Gr.drew ?_ | refine Gr.drewN ?_ _ | (refine Gr.put ?_ ?_ _; first | exact Nat.le_refl _ | (simp; done) | omega) | (apply Gr.after; assumption)))⟩
    · have hgF : wG F = 1 := if_neg hF1
      clear hgF
      have q2 : IntKind.i64.wrap (stamp + 1) = stamp + 1 := wrap_in (by omega)
      go_enter Try.func63, Try.ntmps63
      go_wp2
      go_region_held3 (fun w' => Box9 w' b (.int .i64 R) (.int .i64 F) (.int .i64 J) (.int .i64 last) (.bool true) (.int .i64 stamp) (.int .i64 time) (.bool kept) (.int .i64 at0)) ((refine Box9.mono K ?_; (repeat (first | exact Gr.refl _ | assumption | refine Gr.alloc ?_ _ | refine Gr.drew ?_ | refine Gr.drewN ?_ _ | (refine Gr.put ?_ ?_ _; first | exact Nat.le_refl _ | (simp; done) | omega) | (apply Gr.after; assumption))); done)) (first | (go_at_call 49; refine (frames_any _ _ Hr.out (by omega) (by omega) _).mono ?_; rintro e w' ⟨rfl, rfl⟩))
      all_goals
        clear q0
        rename_i hh
        clear K
        have K := hh
        clear hh
        go_wp2
        go_region_held3 (fun w' => Box9 w' b (.int .i64 R) (.int .i64 F) (.int .i64 J) (.int .i64 last) (.bool true) (.int .i64 stamp) (.int .i64 time) (.bool kept) (.int .i64 at0)) ((refine Box9.mono K ?_; (repeat (first | exact Gr.refl _ | assumption | refine Gr.alloc ?_ _ | refine Gr.drew ?_ | refine Gr.drewN ?_ _ | (refine Gr.put ?_ ?_ _; first | exact Nat.le_refl _ | (simp; done) | omega) | (apply Gr.after; assumption))); done)) (first | (go_at_call 58; refine (around_any _ _ Hr.out (by omega) (by omega) _).mono ?_; rintro e w' ⟨rfl, rfl⟩))
        all_goals go_wp2
        all_goals go_ret2
        all_goals exact ⟨rfl, (by repeat (first | exact Gr.refl _ | assumption | refine Gr.alloc ?_ _ | refine Gr.drew ?_ | refine Gr.drewN ?_ _ | (refine Gr.put ?_ ?_ _; first | exact Nat.le_refl _ | (simp; done) | omega) | (apply Gr.after; assumption)))⟩
  · rw [e1, e2]; clear e1 e2
    have hF1 : 1 ≤ F := by unfold wG at h2; split at h2 <;> omega
    have hgF : wG F = F := if_pos hF1
    rw [hgF] at h2; clear hgF
    have q2 : IntKind.i64.wrap (stamp + F) = stamp + F := wrap_in (by omega)
    go_enter Try.func63, Try.ntmps63
    go_wp2
    go_region_held3 (fun w' => Box9 w' b (.int .i64 R) (.int .i64 F) (.int .i64 J) (.int .i64 last) (.bool true) (.int .i64 stamp) (.int .i64 time) (.bool kept) (.int .i64 at0)) ((refine Box9.mono K ?_; (repeat (first | exact Gr.refl _ | assumption | refine Gr.alloc ?_ _ | refine Gr.drew ?_ | refine Gr.drewN ?_ _ | (refine Gr.put ?_ ?_ _; first | exact Nat.le_refl _ | (simp; done) | omega) | (apply Gr.after; assumption))); done)) (first | (go_at_call 49; refine (frames_any _ _ Hr.out (by omega) (by omega) _).mono ?_; rintro e w' ⟨rfl, rfl⟩))
    all_goals
      clear q0
      rename_i hh
      clear K
      have K := hh
      clear hh
      go_wp2
      go_region_held3 (fun w' => Box9 w' b (.int .i64 R) (.int .i64 F) (.int .i64 J) (.int .i64 last) (.bool true) (.int .i64 stamp) (.int .i64 time) (.bool kept) (.int .i64 at0)) ((refine Box9.mono K ?_; (repeat (first | exact Gr.refl _ | assumption | refine Gr.alloc ?_ _ | refine Gr.drew ?_ | refine Gr.drewN ?_ _ | (refine Gr.put ?_ ?_ _; first | exact Nat.le_refl _ | (simp; done) | omega) | (apply Gr.after; assumption))); done)) (first | (go_at_call 58; refine (around_any _ _ Hr.out (by omega) (by omega) _).mono ?_; rintro e w' ⟨rfl, rfl⟩))
      all_goals go_wp2
      all_goals go_ret2
      all_goals exact ⟨rfl, (by repeat (first | exact Gr.refl _ | assumption | refine Gr.alloc ?_ _ | refine Gr.drew ?_ | refine Gr.drewN ?_ _ | (refine Gr.put ?_ ?_ _; first | exact Nat.le_refl _ | (simp; done) | omega) | (apply Gr.after; assumption)))⟩
  · rw [e1, e2]; clear e1 e2
    by_cases hF1 : 1 ≤ F
    · have hgF : wG F = F := if_pos hF1
      rw [hgF] at h2 ⊢
      clear hgF
      have q2 : IntKind.i64.wrap (stamp + F) = stamp + F := wrap_in (by omega)
      go_enter Try.func63, Try.ntmps63
      go_wp2
      go_region_held3 (fun w' => Box9 w' b (.int .i64 R) (.int .i64 F) (.int .i64 J) (.int .i64 last) (.bool true) (.int .i64 stamp) (.int .i64 time) (.bool kept) (.int .i64 at0)) ((refine Box9.mono K ?_; (repeat (first | exact Gr.refl _ | assumption | refine Gr.alloc ?_ _ | refine Gr.drew ?_ | refine Gr.drewN ?_ _ | (refine Gr.put ?_ ?_ _; first | exact Nat.le_refl _ | (simp; done) | omega) | (apply Gr.after; assumption))); done)) (first | (go_at_call 49; refine (frames_any _ _ Hr.out (by omega) (by omega) _).mono ?_; rintro e w' ⟨rfl, rfl⟩))
      all_goals
        clear q0
        rename_i hh
        clear K
        have K := hh
        clear hh
        go_wp2
        go_region_held3 (fun w' => Box9 w' b (.int .i64 R) (.int .i64 F) (.int .i64 J) (.int .i64 last) (.bool true) (.int .i64 stamp) (.int .i64 time) (.bool kept) (.int .i64 at0)) ((refine Box9.mono K ?_; (repeat (first | exact Gr.refl _ | assumption | refine Gr.alloc ?_ _ | refine Gr.drew ?_ | refine Gr.drewN ?_ _ | (refine Gr.put ?_ ?_ _; first | exact Nat.le_refl _ | (simp; done) | omega) | (apply Gr.after; assumption))); done)) (first | (go_at_call 58; refine (around_any _ _ Hr.out (by omega) (by omega) _).mono ?_; rintro e w' ⟨rfl, rfl⟩))
        all_goals go_wp2
        all_goals go_ret2
        all_goals exact ⟨rfl, (by repeat (first | exact Gr.refl _ | assumption | refine Gr.alloc ?_ _ | refine Gr.drew ?_ | refine Gr.drewN ?_ _ | (refine Gr.put ?_ ?_ _; first | exact Nat.le_refl _ | (simp; done) | omega) | (apply Gr.after; assumption)))⟩
    · have hgF : wG F = 1 := if_neg hF1
      rw [hgF] at h2 ⊢
      clear hgF
      have q2 : IntKind.i64.wrap (stamp + 1) = stamp + 1 := wrap_in (by omega)
      go_enter Try.func63, Try.ntmps63
      go_wp2
      go_region_held3 (fun w' => Box9 w' b (.int .i64 R) (.int .i64 F) (.int .i64 J) (.int .i64 last) (.bool true) (.int .i64 stamp) (.int .i64 time) (.bool kept) (.int .i64 at0)) ((refine Box9.mono K ?_; (repeat (first | exact Gr.refl _ | assumption | refine Gr.alloc ?_ _ | refine Gr.drew ?_ | refine Gr.drewN ?_ _ | (refine Gr.put ?_ ?_ _; first | exact Nat.le_refl _ | (simp; done) | omega) | (apply Gr.after; assumption))); done)) (first | (go_at_call 49; refine (frames_any _ _ Hr.out (by omega) (by omega) _).mono ?_; rintro e w' ⟨rfl, rfl⟩))
      all_goals
        clear q0
        rename_i hh
        clear K
        have K := hh
        clear hh
        go_wp2
        go_region_held3 (fun w' => Box9 w' b (.int .i64 R) (.int .i64 F) (.int .i64 J) (.int .i64 last) (.bool true) (.int .i64 stamp) (.int .i64 time) (.bool kept) (.int .i64 at0)) ((refine Box9.mono K ?_; (repeat (first | exact Gr.refl _ | assumption | refine Gr.alloc ?_ _ | refine Gr.drew ?_ | refine Gr.drewN ?_ _ | (refine Gr.put ?_ ?_ _; first | exact Nat.le_refl _ | (simp; done) | omega) | (apply Gr.after; assumption))); done)) (first | (go_at_call 58; refine (around_any _ _ Hr.out (by omega) (by omega) _).mono ?_; rintro e w' ⟨rfl, rfl⟩))
        all_goals go_wp2
        all_goals go_ret2
        all_goals exact ⟨rfl, (by repeat (first | exact Gr.refl _ | assumption | refine Gr.alloc ?_ _ | refine Gr.drew ?_ | refine Gr.drewN ?_ _ | (refine Gr.put ?_ ?_ _; first | exact Nat.le_refl _ | (simp; done) | omega) | (apply Gr.after; assumption)))⟩

set_option maxHeartbeats 1000000 in
theorem where8_any (b : Nat) (R F J last stamp time at1 t : Int) (heard : Bool) (w : World) (hr : rateB R = true) (hF : 0 ≤ F ∧ F ≤ 1000) (hs : 0 ≤ stamp ∧ stamp < dayI R) (ht : 0 ≤ t - time ∧ t - time ≤ 36000000) (K : Box8 w b (.int .i64 R) (.int .i64 F) (.int .i64 J) (.bool heard) (.int .i64 stamp) (.int .i64 time) (.int .i64 last) (.int .i64 at1)) :
    Calls Try.prog 64 #[.pointer (some ⟨b, 0, none⟩), .int .i64 t] w fun e w' => e = .returned (.tuple #[.int .i64 (wP heard R F stamp time t), .int .i64 (wS heard R F stamp time t)]) ∧ Gr w w' := by
  have Hr := Lib.hid hr
  have hd := dayI_le hr
  have hfb := framesI_bd hr ht.1 ht.2
  have q0 : IntKind.i64.wrap (t - time) = t - time := wrap_in (by omega)
  have q1 : IntKind.i64.wrap (stamp + framesI R (t - time)) = stamp + framesI R (t - time) := wrap_in (by omega)
  have hne : ¬ dayI R = 0 := by omega
  clear hr
  rcases w_cases heard R F stamp time t with ⟨rfl, e1, e2⟩ | ⟨rfl, h1, e1, e2⟩ | ⟨rfl, h1, h2, e1, e2⟩ | ⟨rfl, h1, h2, e1, e2⟩
  · rw [e1, e2]; clear e1 e2
    go_enter Try.func64, Try.ntmps64
    go_wp2
    go_ret2
    exact ⟨rfl, (by repeat (first | exact Gr.refl _ | assumption | refine Gr.alloc ?_ _ | refine Gr.drew ?_ | refine Gr.drewN ?_ _ | (refine Gr.put ?_ ?_ _; first | exact Nat.le_refl _ | (simp; done) | omega) | (apply Gr.after; assumption)))⟩
  · rw [e1, e2]; clear e1 e2
    by_cases hF1 : 1 ≤ F
    · have hgF : wG F = F := if_pos hF1
      clear hgF
      have q2 : IntKind.i64.wrap (stamp + F) = stamp + F := wrap_in (by omega)
      have m1 : (stamp + F).tmod (dayI R) = (stamp + F) % dayI R := Int.tmod_eq_emod_of_nonneg (by omega)
      have m2 : (stamp + framesI R (t - time)).tmod (dayI R) = (stamp + framesI R (t - time)) % dayI R := Int.tmod_eq_emod_of_nonneg (by omega)
      go_enter Try.func64, Try.ntmps64
      go_wp2
      go_region_held3 (fun w' => Box8 w' b (.int .i64 R) (.int .i64 F) (.int .i64 J) (.bool true) (.int .i64 stamp) (.int .i64 time) (.int .i64 last) (.int .i64 at1)) ((refine Box8.mono K ?_; (repeat (first | exact Gr.refl _ | assumption | refine Gr.alloc ?_ _ | refine Gr.drew ?_ | refine Gr.drewN ?_ _ | (refine Gr.put ?_ ?_ _; first | exact Nat.le_refl _ | (simp; done) | omega) | (apply Gr.after; assumption))); done)) (first | (go_at_call 50; refine (frames8_any _ _ Hr.out (by omega) (by omega) _).mono ?_; rintro e w' ⟨rfl, rfl⟩))
      all_goals
        clear q0
        rename_i hh
        clear K
        have K := hh
        clear hh
        go_wp2
        go_region_held3 (fun w' => Box8 w' b (.int .i64 R) (.int .i64 F) (.int .i64 J) (.bool true) (.int .i64 stamp) (.int .i64 time) (.int .i64 last) (.int .i64 at1)) ((refine Box8.mono K ?_; (repeat (first | exact Gr.refl _ | assumption | refine Gr.alloc ?_ _ | refine Gr.drew ?_ | refine Gr.drewN ?_ _ | (refine Gr.put ?_ ?_ _; first | exact Nat.le_refl _ | (simp; done) | omega) | (apply Gr.after; assumption))); done)) (first | (go_at_call 47; refine (day8_any _ Hr.out _).mono ?_; rintro e w' ⟨rfl, rfl⟩))
        all_goals go_wp2
        all_goals go_ret2
        all_goals exact ⟨rfl, (by repeat (first | exact Gr.refl _ | assumption | refine Gr.alloc ?_ _ | refine Gr.drew ?_ | refine Gr.drewN ?_ _ | (refine Gr.put ?_ ?_ _; first | exact Nat.le_refl _ | (simp; done) | omega) | (apply Gr.after; assumption)))⟩
    · have hgF : wG F = 1 := if_neg hF1
      clear hgF
      have q2 : IntKind.i64.wrap (stamp + 1) = stamp + 1 := wrap_in (by omega)
      have m1 : (stamp + 1).tmod (dayI R) = (stamp + 1) % dayI R := Int.tmod_eq_emod_of_nonneg (by omega)
      have m2 : (stamp + framesI R (t - time)).tmod (dayI R) = (stamp + framesI R (t - time)) % dayI R := Int.tmod_eq_emod_of_nonneg (by omega)
      go_enter Try.func64, Try.ntmps64
      go_wp2
      go_region_held3 (fun w' => Box8 w' b (.int .i64 R) (.int .i64 F) (.int .i64 J) (.bool true) (.int .i64 stamp) (.int .i64 time) (.int .i64 last) (.int .i64 at1)) ((refine Box8.mono K ?_; (repeat (first | exact Gr.refl _ | assumption | refine Gr.alloc ?_ _ | refine Gr.drew ?_ | refine Gr.drewN ?_ _ | (refine Gr.put ?_ ?_ _; first | exact Nat.le_refl _ | (simp; done) | omega) | (apply Gr.after; assumption))); done)) (first | (go_at_call 50; refine (frames8_any _ _ Hr.out (by omega) (by omega) _).mono ?_; rintro e w' ⟨rfl, rfl⟩))
      all_goals
        clear q0
        rename_i hh
        clear K
        have K := hh
        clear hh
        go_wp2
        go_region_held3 (fun w' => Box8 w' b (.int .i64 R) (.int .i64 F) (.int .i64 J) (.bool true) (.int .i64 stamp) (.int .i64 time) (.int .i64 last) (.int .i64 at1)) ((refine Box8.mono K ?_; (repeat (first | exact Gr.refl _ | assumption | refine Gr.alloc ?_ _ | refine Gr.drew ?_ | refine Gr.drewN ?_ _ | (refine Gr.put ?_ ?_ _; first | exact Nat.le_refl _ | (simp; done) | omega) | (apply Gr.after; assumption))); done)) (first | (go_at_call 47; refine (day8_any _ Hr.out _).mono ?_; rintro e w' ⟨rfl, rfl⟩))
        all_goals go_wp2
        all_goals go_ret2
        all_goals exact ⟨rfl, (by repeat (first | exact Gr.refl _ | assumption | refine Gr.alloc ?_ _ | refine Gr.drew ?_ | refine Gr.drewN ?_ _ | (refine Gr.put ?_ ?_ _; first | exact Nat.le_refl _ | (simp; done) | omega) | (apply Gr.after; assumption)))⟩
  · rw [e1, e2]; clear e1 e2
    have hF1 : 1 ≤ F := by unfold wG at h2; split at h2 <;> omega
    have hgF : wG F = F := if_pos hF1
    rw [hgF] at h2; clear hgF
    have q2 : IntKind.i64.wrap (stamp + F) = stamp + F := wrap_in (by omega)
    have m1 : (stamp + F).tmod (dayI R) = (stamp + F) % dayI R := Int.tmod_eq_emod_of_nonneg (by omega)
    have m2 : (stamp + framesI R (t - time)).tmod (dayI R) = (stamp + framesI R (t - time)) % dayI R := Int.tmod_eq_emod_of_nonneg (by omega)
    go_enter Try.func64, Try.ntmps64
    go_wp2
    go_region_held3 (fun w' => Box8 w' b (.int .i64 R) (.int .i64 F) (.int .i64 J) (.bool true) (.int .i64 stamp) (.int .i64 time) (.int .i64 last) (.int .i64 at1)) ((refine Box8.mono K ?_; (repeat (first | exact Gr.refl _ | assumption | refine Gr.alloc ?_ _ | refine Gr.drew ?_ | refine Gr.drewN ?_ _ | (refine Gr.put ?_ ?_ _; first | exact Nat.le_refl _ | (simp; done) | omega) | (apply Gr.after; assumption))); done)) (first | (go_at_call 50; refine (frames8_any _ _ Hr.out (by omega) (by omega) _).mono ?_; rintro e w' ⟨rfl, rfl⟩))
    all_goals
      clear q0
      rename_i hh
      clear K
      have K := hh
      clear hh
      go_wp2
      go_region_held3 (fun w' => Box8 w' b (.int .i64 R) (.int .i64 F) (.int .i64 J) (.bool true) (.int .i64 stamp) (.int .i64 time) (.int .i64 last) (.int .i64 at1)) ((refine Box8.mono K ?_; (repeat (first | exact Gr.refl _ | assumption | refine Gr.alloc ?_ _ | refine Gr.drew ?_ | refine Gr.drewN ?_ _ | (refine Gr.put ?_ ?_ _; first | exact Nat.le_refl _ | (simp; done) | omega) | (apply Gr.after; assumption))); done)) (first | (go_at_call 47; refine (day8_any _ Hr.out _).mono ?_; rintro e w' ⟨rfl, rfl⟩))
      all_goals go_wp2
      all_goals go_ret2
      all_goals exact ⟨rfl, (by repeat (first | exact Gr.refl _ | assumption | refine Gr.alloc ?_ _ | refine Gr.drew ?_ | refine Gr.drewN ?_ _ | (refine Gr.put ?_ ?_ _; first | exact Nat.le_refl _ | (simp; done) | omega) | (apply Gr.after; assumption)))⟩
  · rw [e1, e2]; clear e1 e2
    by_cases hF1 : 1 ≤ F
    · have hgF : wG F = F := if_pos hF1
      rw [hgF] at h2 ⊢
      clear hgF
      have q2 : IntKind.i64.wrap (stamp + F) = stamp + F := wrap_in (by omega)
      have m1 : (stamp + F).tmod (dayI R) = (stamp + F) % dayI R := Int.tmod_eq_emod_of_nonneg (by omega)
      have m2 : (stamp + framesI R (t - time)).tmod (dayI R) = (stamp + framesI R (t - time)) % dayI R := Int.tmod_eq_emod_of_nonneg (by omega)
      go_enter Try.func64, Try.ntmps64
      go_wp2
      go_region_held3 (fun w' => Box8 w' b (.int .i64 R) (.int .i64 F) (.int .i64 J) (.bool true) (.int .i64 stamp) (.int .i64 time) (.int .i64 last) (.int .i64 at1)) ((refine Box8.mono K ?_; (repeat (first | exact Gr.refl _ | assumption | refine Gr.alloc ?_ _ | refine Gr.drew ?_ | refine Gr.drewN ?_ _ | (refine Gr.put ?_ ?_ _; first | exact Nat.le_refl _ | (simp; done) | omega) | (apply Gr.after; assumption))); done)) (first | (go_at_call 50; refine (frames8_any _ _ Hr.out (by omega) (by omega) _).mono ?_; rintro e w' ⟨rfl, rfl⟩))
      all_goals
        clear q0
        rename_i hh
        clear K
        have K := hh
        clear hh
        go_wp2
        go_region_held3 (fun w' => Box8 w' b (.int .i64 R) (.int .i64 F) (.int .i64 J) (.bool true) (.int .i64 stamp) (.int .i64 time) (.int .i64 last) (.int .i64 at1)) ((refine Box8.mono K ?_; (repeat (first | exact Gr.refl _ | assumption | refine Gr.alloc ?_ _ | refine Gr.drew ?_ | refine Gr.drewN ?_ _ | (refine Gr.put ?_ ?_ _; first | exact Nat.le_refl _ | (simp; done) | omega) | (apply Gr.after; assumption))); done)) (first | (go_at_call 47; refine (day8_any _ Hr.out _).mono ?_; rintro e w' ⟨rfl, rfl⟩))
        all_goals go_wp2
        all_goals go_ret2
        all_goals exact ⟨rfl, (by repeat (first | exact Gr.refl _ | assumption | refine Gr.alloc ?_ _ | refine Gr.drew ?_ | refine Gr.drewN ?_ _ | (refine Gr.put ?_ ?_ _; first | exact Nat.le_refl _ | (simp; done) | omega) | (apply Gr.after; assumption)))⟩
    · have hgF : wG F = 1 := if_neg hF1
      rw [hgF] at h2 ⊢
      clear hgF
      have q2 : IntKind.i64.wrap (stamp + 1) = stamp + 1 := wrap_in (by omega)
      have m1 : (stamp + 1).tmod (dayI R) = (stamp + 1) % dayI R := Int.tmod_eq_emod_of_nonneg (by omega)
      have m2 : (stamp + framesI R (t - time)).tmod (dayI R) = (stamp + framesI R (t - time)) % dayI R := Int.tmod_eq_emod_of_nonneg (by omega)
      go_enter Try.func64, Try.ntmps64
      go_wp2
      go_region_held3 (fun w' => Box8 w' b (.int .i64 R) (.int .i64 F) (.int .i64 J) (.bool true) (.int .i64 stamp) (.int .i64 time) (.int .i64 last) (.int .i64 at1)) ((refine Box8.mono K ?_; (repeat (first | exact Gr.refl _ | assumption | refine Gr.alloc ?_ _ | refine Gr.drew ?_ | refine Gr.drewN ?_ _ | (refine Gr.put ?_ ?_ _; first | exact Nat.le_refl _ | (simp; done) | omega) | (apply Gr.after; assumption))); done)) (first | (go_at_call 50; refine (frames8_any _ _ Hr.out (by omega) (by omega) _).mono ?_; rintro e w' ⟨rfl, rfl⟩))
      all_goals
        clear q0
        rename_i hh
        clear K
        have K := hh
        clear hh
        go_wp2
        go_region_held3 (fun w' => Box8 w' b (.int .i64 R) (.int .i64 F) (.int .i64 J) (.bool true) (.int .i64 stamp) (.int .i64 time) (.int .i64 last) (.int .i64 at1)) ((refine Box8.mono K ?_; (repeat (first | exact Gr.refl _ | assumption | refine Gr.alloc ?_ _ | refine Gr.drew ?_ | refine Gr.drewN ?_ _ | (refine Gr.put ?_ ?_ _; first | exact Nat.le_refl _ | (simp; done) | omega) | (apply Gr.after; assumption))); done)) (first | (go_at_call 47; refine (day8_any _ Hr.out _).mono ?_; rintro e w' ⟨rfl, rfl⟩))
        all_goals go_wp2
        all_goals go_ret2
        all_goals exact ⟨rfl, (by repeat (first | exact Gr.refl _ | assumption | refine Gr.alloc ?_ _ | refine Gr.drew ?_ | refine Gr.drewN ?_ _ | (refine Gr.put ?_ ?_ _; first | exact Nat.le_refl _ | (simp; done) | omega) | (apply Gr.after; assumption)))⟩
end Go.Proofs.Ytgjclbkcnilkbaa
