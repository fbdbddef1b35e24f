/- The contracts of Between and of its reference. -/
import Derived.Test.YtgjclbkcnilkbaaStG
namespace Go.Proofs.Ytgjclbkcnilkbaa
open Go.RowKit
set_option linter.unusedVariables false
set_option linter.unusedSimpArgs false

/-- Two boxes of four. -/
abbrev Box44 (w : World) (b c : Nat) (v0 v1 v2 v3 u0 u1 u2 u3 : Value) : Prop := Box4 w b v0 v1 v2 v3 ∧ Box4 w c u0 u1 u2 u3
theorem Box44.mono {w w1 : World} {b c : Nat} {v0 v1 v2 v3 u0 u1 u2 u3 : Value} (k : Box44 w b c v0 v1 v2 v3 u0 u1 u2 u3) (h : Gr w w1) : Box44 w1 b c v0 v1 v2 v3 u0 u1 u2 u3 := ⟨k.1.mono h, k.2.mono h⟩

/-- Between's fault and number. -/
def btwF (r h m s f h' m' s' f' : Int) : Int := if chkF r h m s f = 0 then chkF r h' m' s' f' else chkF r h m s f
def btwX (r h m s f h' m' s' f' : Int) : Int := (numI r h' m' s' f' - numI r h m s f) % dayI r
theorem btw_first (r h m s f h' m' s' f' : Int) : firstL [chkF r h m s f, chkF r h' m' s' f'] = btwF r h m s f h' m' s' f' := by rw [firstL2, btwF]

set_option maxHeartbeats 1000000 in
theorem Between_any (r h m s f h' m' s' f' : Int) (w : World) :
    Calls Try.prog 28 #[.int .i64 r, .agg #[.int .i64 h, .int .i64 m, .int .i64 s, .int .i64 f], .agg #[.int .i64 h', .int .i64 m', .int .i64 s', .int .i64 f']] w fun e w' => e = .returned (.tuple #[.int .i64 (resI (btwF r h m s f h' m' s' f') (btwX r h m s f h' m' s' f')), .int .i64 (btwF r h m s f h' m' s' f')]) ∧ Gr w w' := by
  have Hfi := Lib.hid (btw_first r h m s f h' m' s' f')
  by_cases hF : btwF r h m s f h' m' s' f' = 0
  · have hc1 : chkF r h m s f = 0 := by
      by_cases h0 : chkF r h m s f = 0
      · exact h0
      · rw [btwF, if_neg h0] at hF; exact hF
    have hc2 : chkF r h' m' s' f' = 0 := by rw [btwF, if_pos hc1] at hF; exact hF
    have ok := Lib.hid (okS_of hc1)
    have ok2 := Lib.hid (okS_of hc2)
    have Hr := Lib.hid ok.out.1
    have hd := dayI_le ok.out.1
    have hnb := numI_bd ok.out
    have hnb2 := numI_bd ok2.out
    rw [hF] at Hfi ⊢
    rw [resI0, btwX]
    clear hc1 hc2 hF
    go_enter Try.func28, Try.ntmps28
    go_wp2
    obtain ⟨W, hW⟩ : ∃ W, W = (w.alloc (.cells #[.int .i64 h, .int .i64 m, .int .i64 s, .int .i64 f] 29)).alloc (.cells #[.int .i64 h', .int .i64 m', .int .i64 s', .int .i64 f'] 29) := ⟨_, rfl⟩
    have K : Box44 W w.heap.size (w.heap.size + 1) (.int .i64 h) (.int .i64 m) (.int .i64 s) (.int .i64 f) (.int .i64 h') (.int .i64 m') (.int .i64 s') (.int .i64 f') := by
      subst hW; exact ⟨Box4.of (by repeat (first | exact heap_last _ _ | (refine heap_at _ _ _ ?_; (simp; done)) | (refine heap_old _ _ _ _ (by simp; try omega) ?_))), Box4.of (by repeat (first | exact heap_last _ _ | (refine heap_at _ _ _ ?_; (simp; done)) | (refine heap_old _ _ _ _ (by simp; try omega) ?_)))⟩
    have hG : Gr w W := by subst hW; exact (by repeat (first | exact Gr.refl _ | assumption | refine Gr.alloc ?_ _ | refine Gr.drew ?_ | refine Gr.drewN ?_ _ | (refine Gr.put ?_ ?_ _; first | exact Nat.le_refl _ | (simp; done) | omega) | (apply Gr.after; assumption)))
    rw [← hW]
    clear hW
    go_region_held3 (fun w' => Box44 w' w.heap.size (w.heap.size + 1) (.int .i64 h) (.int .i64 m) (.int .i64 s) (.int .i64 f) (.int .i64 h') (.int .i64 m') (.int .i64 s') (.int .i64 f')) ((refine Box44.mono K ?_; (repeat (first | exact Gr.refl _ | assumption | refine Gr.alloc ?_ _ | refine Gr.drew ?_ | refine Gr.drewN ?_ _ | (refine Gr.put ?_ ?_ _; first | exact Nat.le_refl _ | (simp; done) | omega) | (apply Gr.after; assumption))); done)) (first | (go_at_call 20; refine (Check_any _ _ _ _ _ _).mono ?_; rintro e w1 ⟨rfl, hb⟩) | ((go_at_call 39; refine (first2_any _ _ _ _ _ (by simp)).mono ?_; rintro e w' ⟨rfl, rfl⟩); rw [Hfi.out]))
    rename_i hh
    clear K
    have K := hh
    clear hh
    have q1 : IntKind.i64.wrap (numI r h' m' s' f' - numI r h m s f) = numI r h' m' s' f' - numI r h m s f := wrap_in (by omega)
    go_wp2
    go_region_held3 (fun w' => Box44 w' w.heap.size (w.heap.size + 1) (.int .i64 h) (.int .i64 m) (.int .i64 s) (.int .i64 f) (.int .i64 h') (.int .i64 m') (.int .i64 s') (.int .i64 f')) ((refine Box44.mono K ?_; (repeat (first | exact Gr.refl _ | assumption | refine Gr.alloc ?_ _ | refine Gr.drew ?_ | refine Gr.drewN ?_ _ | (refine Gr.put ?_ ?_ _; first | exact Nat.le_refl _ | (simp; done) | omega) | (apply Gr.after; assumption))); done)) (first | ((go_at_call 53; first | (with_reducible refine (number_any _ _ _ _ _ ok _).mono ?_) | (with_reducible refine (number_any _ _ _ _ _ ok2 _).mono ?_)); (rintro e w1 ⟨rfl, hb⟩)) | (go_at_call 58; refine (around_any _ _ Hr.out (by omega) (by omega) _).mono ?_; rintro e w' ⟨rfl, rfl⟩))
    go_wp2
    go_ret2
    exact ⟨rfl, (by repeat (first | exact Gr.refl _ | assumption | refine Gr.alloc ?_ _ | refine Gr.drew ?_ | refine Gr.drewN ?_ _ | (refine Gr.put ?_ ?_ _; first | exact Nat.le_refl _ | (simp; done) | omega) | (apply Gr.after; assumption)))⟩
  · have hb' : (btwF r h m s f h' m' s' f' != 0) = true := by simpa using hF
    have hres : resI (btwF r h m s f h' m' s' f') (btwX r h m s f h' m' s' f') = 0 := if_neg hF
    rw [hres]
    clear hres hF
    go_enter Try.func28, Try.ntmps28
    go_wp2
    obtain ⟨W, hW⟩ : ∃ W, W = (w.alloc (.cells #[.int .i64 h, .int .i64 m, .int .i64 s, .int .i64 f] 29)).alloc (.cells #[.int .i64 h', .int .i64 m', .int .i64 s', .int .i64 f'] 29) := ⟨_, rfl⟩
    have K : Box44 W w.heap.size (w.heap.size + 1) (.int .i64 h) (.int .i64 m) (.int .i64 s) (.int .i64 f) (.int .i64 h') (.int .i64 m') (.int .i64 s') (.int .i64 f') := by
      subst hW; exact ⟨Box4.of (by repeat (first | exact heap_last _ _ | (refine heap_at _ _ _ ?_; (simp; done)) | (refine heap_old _ _ _ _ (by simp; try omega) ?_))), Box4.of (by repeat (first | exact heap_last _ _ | (refine heap_at _ _ _ ?_; (simp; done)) | (refine heap_old _ _ _ _ (by simp; try omega) ?_)))⟩
    have hG : Gr w W := by subst hW; exact (by repeat (first | exact Gr.refl _ | assumption | refine Gr.alloc ?_ _ | refine Gr.drew ?_ | refine Gr.drewN ?_ _ | (refine Gr.put ?_ ?_ _; first | exact Nat.le_refl _ | (simp; done) | omega) | (apply Gr.after; assumption)))
    rw [← hW]
    clear hW
    go_region_held3 (fun w' => Box44 w' w.heap.size (w.heap.size + 1) (.int .i64 h) (.int .i64 m) (.int .i64 s) (.int .i64 f) (.int .i64 h') (.int .i64 m') (.int .i64 s') (.int .i64 f')) ((refine Box44.mono K ?_; (repeat (first | exact Gr.refl _ | assumption | refine Gr.alloc ?_ _ | refine Gr.drew ?_ | refine Gr.drewN ?_ _ | (refine Gr.put ?_ ?_ _; first | exact Nat.le_refl _ | (simp; done) | omega) | (apply Gr.after; assumption))); done)) (first | (go_at_call 20; refine (Check_any _ _ _ _ _ _).mono ?_; rintro e w1 ⟨rfl, hb⟩) | ((go_at_call 39; refine (first2_any _ _ _ _ _ (by simp)).mono ?_; rintro e w' ⟨rfl, rfl⟩); rw [Hfi.out]))
    go_wp2
    go_ret2
    exact ⟨rfl, (by repeat (first | exact Gr.refl _ | assumption | refine Gr.alloc ?_ _ | refine Gr.drew ?_ | refine Gr.drewN ?_ _ | (refine Gr.put ?_ ?_ _; first | exact Nat.le_refl _ | (simp; done) | omega) | (apply Gr.after; assumption)))⟩
set_option maxHeartbeats 1000000 in
theorem Between8_any (r h m s f h' m' s' f' : Int) (w : World) :
    Calls Try.prog 29 #[.int .i64 r, .agg #[.int .i64 h, .int .i64 m, .int .i64 s, .int .i64 f], .agg #[.int .i64 h', .int .i64 m', .int .i64 s', .int .i64 f']] w fun e w' => e = .returned (.tuple #[.int .i64 (resI (btwF r h m s f h' m' s' f') (btwX r h m s f h' m' s' f')), .int .i64 (btwF r h m s f h' m' s' f')]) ∧ Gr w w' := by
  by_cases hc1 : chkF r h m s f = 0
  · by_cases hc2 : chkF r h' m' s' f' = 0
    · have hF : btwF r h m s f h' m' s' f' = 0 := by rw [btwF, if_pos hc1, hc2]
      have ok := Lib.hid (okS_of hc1)
      have ok2 := Lib.hid (okS_of hc2)
      have Hr := Lib.hid ok.out.1
      have hd := dayI_le ok.out.1
      have hnb := numI_bd ok.out
      have hnb2 := numI_bd ok2.out
      rw [hF, resI0, btwX]
      clear hF
      go_enter Try.func29, Try.ntmps29
      go_wp2_with (first | ((go_at_call 21; refine (Check8_any _ _ _ _ _ _).mono ?_; rintro e w1 ⟨rfl, hb⟩); have K := Box4.at (b := w.heap.size) hb (by repeat (first | exact heap_last _ _ | (refine heap_at _ _ _ ?_; (simp; done)) | (refine heap_old _ _ _ _ (by simp; try omega) ?_))); have K2 := Box4.at (b := w.heap.size + 1) hb (by repeat (first | exact heap_last _ _ | (refine heap_at _ _ _ ?_; (simp; done)) | (refine heap_old _ _ _ _ (by simp; try omega) ?_)))) | ((go_at_call 21; refine (Check8_any _ _ _ _ _ _).mono ?_; rintro e w1 ⟨rfl, hb⟩); have K := K.mono hb; have K2 := K2.mono hb))
      have K := And.intro K K2
      have q1 : IntKind.i64.wrap (numI r h' m' s' f' - numI r h m s f) = numI r h' m' s' f' - numI r h m s f := wrap_in (by omega)
      go_region_held3 (fun w' => Box44 w' w.heap.size (w.heap.size + 1) (.int .i64 h) (.int .i64 m) (.int .i64 s) (.int .i64 f) (.int .i64 h') (.int .i64 m') (.int .i64 s') (.int .i64 f')) ((refine Box44.mono K ?_; (repeat (first | exact Gr.refl _ | assumption | refine Gr.alloc ?_ _ | refine Gr.drew ?_ | refine Gr.drewN ?_ _ | (refine Gr.put ?_ ?_ _; first | exact Nat.le_refl _ | (simp; done) | omega) | (apply Gr.after; assumption))); done)) (first | ((go_at_call 56; first | (with_reducible refine (number8_any _ _ _ _ _ ok _).mono ?_) | (with_reducible refine (number8_any _ _ _ _ _ ok2 _).mono ?_)); (rintro e w1 ⟨rfl, hb⟩)) | (go_at_call 59; refine (around8_any _ _ (by omega) (by omega) (by omega) (by omega) _).mono ?_; rintro e w' ⟨rfl, rfl⟩) | (go_at_call 47; refine (day8_any _ Hr.out _).mono ?_; rintro e w' ⟨rfl, rfl⟩))
      go_wp2
      go_ret2
      exact ⟨rfl, (by repeat (first | exact Gr.refl _ | assumption | refine Gr.alloc ?_ _ | refine Gr.drew ?_ | refine Gr.drewN ?_ _ | (refine Gr.put ?_ ?_ _; first | exact Nat.le_refl _ | (simp; done) | omega) | (apply Gr.after; assumption)))⟩
    · have hF : btwF r h m s f h' m' s' f' = chkF r h' m' s' f' := by rw [btwF, if_pos hc1]
      have hb' : (chkF r h' m' s' f' != 0) = true := by simpa using hc2
      have hres : resI (chkF r h' m' s' f') (btwX r h m s f h' m' s' f') = 0 := if_neg hc2
      rw [hF, hres]
      clear hF hres hc2
      go_enter Try.func29, Try.ntmps29
      go_wp2_with (first | ((go_at_call 21; refine (Check8_any _ _ _ _ _ _).mono ?_; rintro e w1 ⟨rfl, hb⟩); have K := Box4.at (b := w.heap.size) hb (by repeat (first | exact heap_last _ _ | (refine heap_at _ _ _ ?_; (simp; done)) | (refine heap_old _ _ _ _ (by simp; try omega) ?_))); have K2 := Box4.at (b := w.heap.size + 1) hb (by repeat (first | exact heap_last _ _ | (refine heap_at _ _ _ ?_; (simp; done)) | (refine heap_old _ _ _ _ (by simp; try omega) ?_)))) | ((go_at_call 21; refine (Check8_any _ _ _ _ _ _).mono ?_; rintro e w1 ⟨rfl, hb⟩); have K := K.mono hb; have K2 := K2.mono hb))
      go_ret2
      exact ⟨rfl, (by repeat (first | exact Gr.refl _ | assumption | refine Gr.alloc ?_ _ | refine Gr.drew ?_ | refine Gr.drewN ?_ _ | (refine Gr.put ?_ ?_ _; first | exact Nat.le_refl _ | (simp; done) | omega) | (apply Gr.after; assumption)))⟩
  · have hF : btwF r h m s f h' m' s' f' = chkF r h m s f := by rw [btwF, if_neg hc1]
    have hb' : (chkF r h m s f != 0) = true := by simpa using hc1
    have hres : resI (chkF r h m s f) (btwX r h m s f h' m' s' f') = 0 := if_neg hc1
    rw [hF, hres]
    clear hF hres hc1
    go_enter Try.func29, Try.ntmps29
    go_wp2_with (first | ((go_at_call 21; refine (Check8_any _ _ _ _ _ _).mono ?_; rintro e w1 ⟨rfl, hb⟩); have K := Box4.at (b := w.heap.size) hb (by repeat (first | exact heap_last _ _ | (refine heap_at _ _ _ ?_; (simp; done)) | (refine heap_old _ _ _ _ (by simp; try omega) ?_))); have K2 := Box4.at (b := w.heap.size + 1) hb (by repeat (first | exact heap_last _ _ | (refine heap_at _ _ _ ?_; (simp; done)) | (refine heap_old _ _ _ _ (by simp; try omega) ?_)))) | ((go_at_call 21; refine (Check8_any _ _ _ _ _ _).mono ?_; rintro e w1 ⟨rfl, hb⟩); have K := K.mono hb; have K2 := K2.mono hb))
    go_ret2
    exact ⟨rfl, (by repeat (first | exact Gr.refl _ | assumption | refine Gr.alloc ?_ _ | refine Gr.drew ?_ | refine Gr.drewN ?_ _ | (refine Gr.put ?_ ?_ _; first | exact Nat.le_refl _ | (simp; done) | omega) | (apply Gr.after; assumption)))⟩
end Go.Proofs.Ytgjclbkcnilkbaa
