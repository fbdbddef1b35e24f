/- The contracts of Convert and of its reference, and the walk of StampConvertsMatchSpec. -/
import Derived.Test.YtgjclbkcnilkbaaBs2
import Derived.Test.YtgjclbkcnilkbaaLGo
namespace Go.Proofs.Ytgjclbkcnilkbaa
open Go.RowKit
set_option linter.unusedVariables false
set_option linter.unusedSimpArgs false

/-- Convert's fault and number. -/
def cvtF (r t h m s f : Int) : Int := if rateB r = false ∨ rateB t = false then 16 else chkF r h m s f
def cvtQ (r t N : Int) : Int := N * spQ r * spP t / (spP r * spQ t)
def cvtX (r t h m s f : Int) : Int := cvtQ r t (numI r h m s f) % dayI t
theorem cvt_first (r t h m s f : Int) : firstL [modeI r, modeI t, chkF r h m s f] = cvtF r t h m s f := by
  unfold cvtF modeI
  cases hr : rateB r <;> cases ht : rateB t <;> simp [firstL, firstN]
  all_goals (by_cases h : chkF r h m s f = 0 <;> simp [h])
theorem cvt_bd {r t N : Int} (hr : rateB r = true) (ht : rateB t = true) (h0 : 0 ≤ N) (h1 : N ≤ 2592000) :
    (0 ≤ N * spQ r ∧ N * spQ r ≤ 3000000000) ∧ (0 ≤ N * spQ r * spP t ∧ N * spQ r * spP t ≤ 90000000000000) ∧ (1 ≤ spP r * spQ t ∧ spP r * spQ t ≤ 40000000) := by
  rcases rate_cases hr with rfl | rfl | rfl | rfl <;> rcases rate_cases ht with rfl | rfl | rfl | rfl <;> simp [spP, spQ] <;> omega
theorem cvt_same {r N : Int} (hr : rateB r = true) (h0 : 0 ≤ N) (h1 : N < dayI r) : cvtQ r r N % dayI r = N := by
  have : cvtQ r r N = N := by
    rcases rate_cases hr with rfl | rfl | rfl | rfl <;> simp [cvtQ, spP, spQ] <;> omega
  rw [this]; exact Int.emod_eq_of_lt h0 h1

set_option maxHeartbeats 1000000 in
theorem Convert_any (r t h m s f : Int) (w : World) :
    Calls Try.prog 17 #[.int .i64 r, .int .i64 t, .agg #[.int .i64 h, .int .i64 m, .int .i64 s, .int .i64 f]] w fun e w' => e = .returned (.tuple #[.agg #[.int .i64 (resI (cvtF r t h m s f) (stH t (undrop t (cvtX r t h m s f)))), .int .i64 (resI (cvtF r t h m s f) (stM t (undrop t (cvtX r t h m s f)))), .int .i64 (resI (cvtF r t h m s f) (stS t (undrop t (cvtX r t h m s f)))), .int .i64 (resI (cvtF r t h m s f) (stF t (undrop t (cvtX r t h m s f))))], .int .i64 (cvtF r t h m s f)]) ∧ Gr w w' := by
  have Hfi := Lib.hid (cvt_first r t h m s f)
  by_cases hF : cvtF r t h m s f = 0
  · have hr : rateB r = true := by
      cases h0 : rateB r
      · simp [cvtF, h0] at hF
      · rfl
    have ht : rateB t = true := by
      cases h0 : rateB t
      · simp [cvtF, h0] at hF
      · rfl
    have hc : chkF r h m s f = 0 := by simpa [cvtF, hr, ht] using hF
    have ok := Lib.hid (okS_of hc)
    have Hr := Lib.hid ht
    have Hr1 := Lib.hid hr
    have hd := dayI_le ht
    have hd1 := dayI_le hr
    have hnb := numI_bd ok.out
    obtain ⟨⟨a1, a2⟩, ⟨b1, b2⟩, c1, c2⟩ := cvt_bd (N := numI r h m s f) hr ht (by omega) (by omega)
    have hmb := mod_bd ht (cvtQ r t (numI r h m s f))
    simp only [hF, resI0]
    rw [hF] at Hfi
    have q1 : IntKind.i64.wrap (numI r h m s f * spQ r) = numI r h m s f * spQ r := wrap_in (by omega)
    have q2 : IntKind.i64.wrap (numI r h m s f * spQ r * spP t) = numI r h m s f * spQ r * spP t := wrap_in (by omega)
    have q3 : IntKind.i64.wrap (spP r * spQ t) = spP r * spQ t := wrap_in (by omega)
    have hne : ¬ spP r * spQ t = 0 := by omega
    have hne2 : ¬ dayI t = 0 := by omega
    have q4 : IntKind.i64.wrap ((numI r h m s f * spQ r * spP t).tdiv (spP r * spQ t)) = cvtQ r t (numI r h m s f) := by
      rw [Int.tdiv_eq_ediv_of_nonneg b1]
      have e1 := Int.ediv_nonneg b1 (show 0 ≤ spP r * spQ t by omega)
      have e2 := Int.ediv_le_self (spP r * spQ t) b1
      exact wrap_in (by omega)
    have q5 : (cvtQ r t (numI r h m s f)).tmod (dayI t) = cvtX r t h m s f := by
      have : 0 ≤ cvtQ r t (numI r h m s f) := Int.ediv_nonneg b1 (show 0 ≤ spP r * spQ t by omega)
      rw [Int.tmod_eq_emod_of_nonneg this]; rfl
    have hx0 : 0 ≤ cvtX r t h m s f := hmb.1
    have hx1 : cvtX r t h m s f < dayI t := hmb.2
    clear hr ht hc hF hmb
    go_enter Try.func17, Try.ntmps17
    go_wp2
    obtain ⟨W, hW⟩ : ∃ W, W = (w.alloc (.cells #[.int .i64 h, .int .i64 m, .int .i64 s, .int .i64 f] 29)).alloc (.cells #[.int .i64 0, .int .i64 0, .int .i64 0, .int .i64 0] 29) := ⟨_, rfl⟩
    have K : Box4 W w.heap.size (.int .i64 h) (.int .i64 m) (.int .i64 s) (.int .i64 f) := by subst hW; exact Box4.of (by repeat (first | exact heap_last _ _ | (refine heap_at _ _ _ ?_; (simp; done)) | (refine heap_old _ _ _ _ (by simp; try omega) ?_)))
    have K2 : Box4 W (w.heap.size + 1) (.int .i64 0) (.int .i64 0) (.int .i64 0) (.int .i64 0) := by subst hW; exact Box4.of (by repeat (first | exact heap_last _ _ | (refine heap_at _ _ _ ?_; (simp; done)) | (refine heap_old _ _ _ _ (by simp; try omega) ?_)))
    have hG : Gr w W := by subst hW; exact (by repeat (first | exact Gr.refl _ | assumption | refine Gr.alloc ?_ _ | refine Gr.drew ?_ | refine Gr.drewN ?_ _ | refine Gr.set ?_ (by first | exact Nat.le_refl _ | (simp; done) | omega) _ | refine Gr.trans ?_ (by assumption)))
    rw [← hW]
    clear hW
    go_region_held3 (fun w' => Box4 w' w.heap.size (.int .i64 h) (.int .i64 m) (.int .i64 s) (.int .i64 f)) ((first | (refine Box4.mono K ?_; (repeat (first | exact Gr.refl _ | assumption | refine Gr.alloc ?_ _ | refine Gr.drew ?_ | refine Gr.drewN ?_ _ | refine Gr.set ?_ (by first | exact Nat.le_refl _ | (simp; done) | omega) _ | refine Gr.trans ?_ (by assumption))); done))) (first | (go_at_call 40; refine (mode_any _ _).mono ?_; rintro e w' ⟨rfl, rfl⟩) | ((go_at_call 20; refine (Check_any _ _ _ _ _ _).mono ?_; rintro e w1 ⟨rfl, hb⟩); (first | have K2 := K2.mono hb | have K2 := (K2.mono ((Gr.refl _).drew)).mono hb | have K2 := (K2.mono ((Gr.refl _).alloc _)).mono hb)) | ((go_at_call 39; refine (first3_any _ _ _ _ _ _ (by simp)).mono ?_; rintro e w' ⟨rfl, rfl⟩); rw [Hfi.out]))
    rename_i hh
    obtain ⟨W2, hW2⟩ : ∃ W2, W2 = w1.alloc (.cells #[.int .i64 (modeI r), .int .i64 (modeI t), .int .i64 (chkF r h m s f)] 22) := ⟨_, rfl⟩
    rw [← hW2] at hh ⊢
    have hG2 : Gr w1 W2 := by subst hW2; exact (by repeat (first | exact Gr.refl _ | assumption | refine Gr.alloc ?_ _ | refine Gr.drew ?_ | refine Gr.drewN ?_ _ | refine Gr.set ?_ (by first | exact Nat.le_refl _ | (simp; done) | omega) _ | refine Gr.trans ?_ (by assumption)))
    clear K
    have K := hh
    have K2 := K2.mono hG2
    have hG3 : Gr w W2 := Gr.trans (Gr.trans hG (Gr.trans ((Gr.refl _).drew) hb)) hG2
    clear hh hW2 hG hG2 hb
    go_wp2_with ((go_at_call 51; first | (with_reducible refine (speed_yes r Hr1.out _).mono ?_) | (with_reducible refine (speed_yes t Hr.out _).mono ?_)); (rintro e w' ⟨rfl, rfl⟩))
    go_region_held3 (fun w' => Box4 w' w.heap.size (.int .i64 h) (.int .i64 m) (.int .i64 s) (.int .i64 f)) ((first | (refine Box4.mono K ?_; (repeat (first | exact Gr.refl _ | assumption | refine Gr.alloc ?_ _ | refine Gr.drew ?_ | refine Gr.drewN ?_ _ | refine Gr.set ?_ (by first | exact Nat.le_refl _ | (simp; done) | omega) _ | refine Gr.trans ?_ (by assumption))); done) | (refine Box4.other (Box4.other (Box4.other (Box4.other ?_ (by omega)) (by omega)) (by omega)) (by omega); refine Box4.mono K ?_; (repeat (first | exact Gr.refl _ | assumption | refine Gr.alloc ?_ _ | refine Gr.drew ?_ | refine Gr.drewN ?_ _ | refine Gr.set ?_ (by first | exact Nat.le_refl _ | (simp; done) | omega) _ | refine Gr.trans ?_ (by assumption))); done))) (first | ((go_at_call 53; refine (number_any _ _ _ _ _ ok _).mono ?_; rintro e w1 ⟨rfl, hb⟩); (first | have K2 := K2.mono hb | have K2 := (K2.mono ((Gr.refl _).drew)).mono hb | have K2 := (K2.mono ((Gr.refl _).alloc _)).mono hb)) | (go_at_call 43; refine (day_any _ _).mono ?_; rintro e w' ⟨rfl, rfl⟩) | ((go_at_call 52; refine (stampOf_any _ _ Hr.out (by omega) (by omega) _).mono ?_; rintro e w1 ⟨rfl, hb⟩); (first | have K2 := K2.mono hb | have K2 := (K2.mono ((Gr.refl _).drew)).mono hb | have K2 := (K2.mono ((Gr.refl _).alloc _)).mono hb)))
    go_wp2
    exact bodyPost_ret (v := .tuple #[.agg #[.int .i64 (stH t (undrop t (cvtX r t h m s f))), .int .i64 (stM t (undrop t (cvtX r t h m s f))), .int .i64 (stS t (undrop t (cvtX r t h m s f))), .int .i64 (stF t (undrop t (cvtX r t h m s f)))], .int .i64 0]) (by simp [results, Try.results17, go_sem, K2]) rfl ⟨rfl, (by repeat (first | exact Gr.refl _ | assumption | refine Gr.alloc ?_ _ | refine Gr.drew ?_ | refine Gr.drewN ?_ _ | refine Gr.set ?_ (by first | exact Nat.le_refl _ | (simp; done) | omega) _ | refine Gr.trans ?_ (by assumption)))⟩
  · have hb' : (cvtF r t h m s f != 0) = true := by simpa using hF
    have hres : ∀ x, resI (cvtF r t h m s f) x = 0 := fun x => if_neg hF
    simp only [hres]
    clear hres hF
    go_enter Try.func17, Try.ntmps17
    go_wp2
    obtain ⟨W, hW⟩ : ∃ W, W = (w.alloc (.cells #[.int .i64 h, .int .i64 m, .int .i64 s, .int .i64 f] 29)).alloc (.cells #[.int .i64 0, .int .i64 0, .int .i64 0, .int .i64 0] 29) := ⟨_, rfl⟩
    have K : Box4 W w.heap.size (.int .i64 h) (.int .i64 m) (.int .i64 s) (.int .i64 f) := by subst hW; exact Box4.of (by repeat (first | exact heap_last _ _ | (refine heap_at _ _ _ ?_; (simp; done)) | (refine heap_old _ _ _ _ (by simp; try omega) ?_)))
    have K2 : Box4 W (w.heap.size + 1) (.int .i64 0) (.int .i64 0) (.int .i64 0) (.int .i64 0) := by subst hW; exact Box4.of (by repeat (first | exact heap_last _ _ | (refine heap_at _ _ _ ?_; (simp; done)) | (refine heap_old _ _ _ _ (by simp; try omega) ?_)))
    have hG : Gr w W := by subst hW; exact (by repeat (first | exact Gr.refl _ | assumption | refine Gr.alloc ?_ _ | refine Gr.drew ?_ | refine Gr.drewN ?_ _ | refine Gr.set ?_ (by first | exact Nat.le_refl _ | (simp; done) | omega) _ | refine Gr.trans ?_ (by assumption)))
    rw [← hW]
    clear hW
    go_region_held3 (fun w' => Box4 w' w.heap.size (.int .i64 h) (.int .i64 m) (.int .i64 s) (.int .i64 f)) ((first | (refine Box4.mono K ?_; (repeat (first | exact Gr.refl _ | assumption | refine Gr.alloc ?_ _ | refine Gr.drew ?_ | refine Gr.drewN ?_ _ | refine Gr.set ?_ (by first | exact Nat.le_refl _ | (simp; done) | omega) _ | refine Gr.trans ?_ (by assumption))); done) | (refine Box4.other (Box4.other (Box4.other (Box4.other ?_ (by omega)) (by omega)) (by omega)) (by omega); refine Box4.mono K ?_; (repeat (first | exact Gr.refl _ | assumption | refine Gr.alloc ?_ _ | refine Gr.drew ?_ | refine Gr.drewN ?_ _ | refine Gr.set ?_ (by first | exact Nat.le_refl _ | (simp; done) | omega) _ | refine Gr.trans ?_ (by assumption))); done))) (first | (go_at_call 40; refine (mode_any _ _).mono ?_; rintro e w' ⟨rfl, rfl⟩) | ((go_at_call 20; refine (Check_any _ _ _ _ _ _).mono ?_; rintro e w1 ⟨rfl, hb⟩); (first | have K2 := K2.mono hb | have K2 := (K2.mono ((Gr.refl _).drew)).mono hb | have K2 := (K2.mono ((Gr.refl _).alloc _)).mono hb)) | ((go_at_call 39; refine (first3_any _ _ _ _ _ _ (by simp)).mono ?_; rintro e w' ⟨rfl, rfl⟩); rw [Hfi.out]))
    have K3 := K2.mono ((Gr.refl _).alloc (.cells #[.int .i64 (modeI r), .int .i64 (modeI t), .int .i64 (chkF r h m s f)] 22))
    go_wp2
    exact bodyPost_ret (v := .tuple #[.agg #[.int .i64 0, .int .i64 0, .int .i64 0, .int .i64 0], .int .i64 (cvtF r t h m s f)]) (by simp [results, Try.results17, go_sem, K2, K3]) rfl ⟨rfl, (by repeat (first | exact Gr.refl _ | assumption | refine Gr.alloc ?_ _ | refine Gr.drew ?_ | refine Gr.drewN ?_ _ | refine Gr.set ?_ (by first | exact Nat.le_refl _ | (simp; done) | omega) _ | refine Gr.trans ?_ (by assumption)))⟩

set_option maxHeartbeats 1000000 in
theorem Convert8_any (r t h m s f : Int) (w : World) :
    Calls Try.prog 18 #[.int .i64 r, .int .i64 t, .agg #[.int .i64 h, .int .i64 m, .int .i64 s, .int .i64 f]] w fun e w' => e = .returned (.tuple #[.agg #[.int .i64 (resI (cvtF r t h m s f) (stH t (undrop t (cvtX r t h m s f)))), .int .i64 (resI (cvtF r t h m s f) (stM t (undrop t (cvtX r t h m s f)))), .int .i64 (resI (cvtF r t h m s f) (stS t (undrop t (cvtX r t h m s f)))), .int .i64 (resI (cvtF r t h m s f) (stF t (undrop t (cvtX r t h m s f))))], .int .i64 (cvtF r t h m s f)]) ∧ Gr w w' := by
  cases hr : rateB r
  · have hF : cvtF r t h m s f = 16 := by simp [cvtF, hr]
    have hc := cnt8_no hr
    simp only [hF, resI16]
    clear hr hF
    go_enter Try.func18, Try.ntmps18
    go_wp2_with (go_at_call 45; refine (counted8_any _ _).mono ?_; rintro e w' ⟨rfl, rfl⟩)
    exact bodyPost_ret (v := .tuple #[.agg #[.int .i64 0, .int .i64 0, .int .i64 0, .int .i64 0], .int .i64 16]) (by simp [results, Try.results18, go_sem]) rfl ⟨rfl, (by repeat (first | exact Gr.refl _ | assumption | refine Gr.alloc ?_ _ | refine Gr.drew ?_ | refine Gr.drewN ?_ _ | refine Gr.set ?_ (by first | exact Nat.le_refl _ | (simp; done) | omega) _ | refine Gr.trans ?_ (by assumption)))⟩
  cases ht : rateB t
  · have hF : cvtF r t h m s f = 16 := by simp [cvtF, ht]
    have hc := cnt8_no ht
    have hc1 := cnt8_yes hr
    have hcb : (cnt8 r == 0) = false := beq_eq_false_iff_ne.2 (by omega)
    simp only [hF, resI16]
    clear hr hF hc1 ht
    go_enter Try.func18, Try.ntmps18
    go_wp2_with (go_at_call 45; refine (counted8_any _ _).mono ?_; rintro e w' ⟨rfl, rfl⟩)
    exact bodyPost_ret (v := .tuple #[.agg #[.int .i64 0, .int .i64 0, .int .i64 0, .int .i64 0], .int .i64 16]) (by simp [results, Try.results18, go_sem]) rfl ⟨rfl, (by repeat (first | exact Gr.refl _ | assumption | refine Gr.alloc ?_ _ | refine Gr.drew ?_ | refine Gr.drewN ?_ _ | refine Gr.set ?_ (by first | exact Nat.le_refl _ | (simp; done) | omega) _ | refine Gr.trans ?_ (by assumption)))⟩
  have hc1 := cnt8_yes hr
  have hc2 := cnt8_yes ht
  have hcb : (cnt8 r == 0) = false := beq_eq_false_iff_ne.2 (by omega)
  have hcb2 : (cnt8 t == 0) = false := beq_eq_false_iff_ne.2 (by omega)
  clear hc1 hc2
  by_cases hc : chkF r h m s f = 0
  · have hF : cvtF r t h m s f = 0 := by simp [cvtF, hr, ht, hc]
    have ok := Lib.hid (okS_of hc)
    have Hr := Lib.hid ht
    have hd := dayI_le ht
    have hd1 := dayI_le hr
    have hnb := numI_bd ok.out
    obtain ⟨⟨a1, a2⟩, ⟨b1, b2⟩, c1, c2⟩ := cvt_bd (N := numI r h m s f) hr ht (by omega) (by omega)
    have hmb := mod_bd ht (cvtQ r t (numI r h m s f))
    simp only [hF, resI0]
    have q1 : IntKind.i64.wrap (numI r h m s f * spQ r) = numI r h m s f * spQ r := wrap_in (by omega)
    have q2 : IntKind.i64.wrap (numI r h m s f * spQ r * spP t) = numI r h m s f * spQ r * spP t := wrap_in (by omega)
    have q3 : IntKind.i64.wrap (spP r * spQ t) = spP r * spQ t := wrap_in (by omega)
    have hne : ¬ spP r * spQ t = 0 := by omega
    have hne2 : ¬ dayI t = 0 := by omega
    have q4 : IntKind.i64.wrap ((numI r h m s f * spQ r * spP t).tdiv (spP r * spQ t)) = cvtQ r t (numI r h m s f) := by
      rw [Int.tdiv_eq_ediv_of_nonneg b1]
      have e1 := Int.ediv_nonneg b1 (show 0 ≤ spP r * spQ t by omega)
      have e2 := Int.ediv_le_self (spP r * spQ t) b1
      exact wrap_in (by omega)
    have q5 : (cvtQ r t (numI r h m s f)).tmod (dayI t) = cvtX r t h m s f := by
      have : 0 ≤ cvtQ r t (numI r h m s f) := Int.ediv_nonneg b1 (show 0 ≤ spP r * spQ t by omega)
      rw [Int.tmod_eq_emod_of_nonneg this]; rfl
    have hx0 : 0 ≤ cvtX r t h m s f := hmb.1
    have hx1 : cvtX r t h m s f < dayI t := hmb.2
    clear hr ht hF hmb
    go_enter Try.func18, Try.ntmps18
    go_wp2_with (first | (go_at_call 45; refine (counted8_any _ _).mono ?_; rintro e w' ⟨rfl, rfl⟩) | ((go_at_call 21; refine (Check8_any _ _ _ _ _ _).mono ?_; rintro e w1 ⟨rfl, hb⟩); have K := Box4.at (b := w.heap.size) hb (by repeat (first | exact heap_last _ _ | (refine heap_at _ _ _ ?_; (simp; done)) | (refine heap_old _ _ _ _ (by simp; try omega) ?_))); have K2 := Box4.at (b := w.heap.size + 1) hb (by repeat (first | exact heap_last _ _ | (refine heap_at _ _ _ ?_; (simp; done)) | (refine heap_old _ _ _ _ (by simp; try omega) ?_)))) | (go_at_call 54; refine (exact8_any _ _).mono ?_; rintro e w' ⟨rfl, rfl⟩))
    have hG3 : Gr w w1 := (by repeat (first | exact Gr.refl _ | assumption | refine Gr.alloc ?_ _ | refine Gr.drew ?_ | refine Gr.drewN ?_ _ | refine Gr.set ?_ (by first | exact Nat.le_refl _ | (simp; done) | omega) _ | refine Gr.trans ?_ (by assumption)))
    clear hb
    go_region_held3 (fun w' => Box4 w' w.heap.size (.int .i64 h) (.int .i64 m) (.int .i64 s) (.int .i64 f)) ((first | (refine Box4.mono K ?_; (repeat (first | exact Gr.refl _ | assumption | refine Gr.alloc ?_ _ | refine Gr.drew ?_ | refine Gr.drewN ?_ _ | refine Gr.set ?_ (by first | exact Nat.le_refl _ | (simp; done) | omega) _ | refine Gr.trans ?_ (by assumption))); done) | (refine Box4.other (Box4.other (Box4.other (Box4.other ?_ (by omega)) (by omega)) (by omega)) (by omega); refine Box4.mono K ?_; (repeat (first | exact Gr.refl _ | assumption | refine Gr.alloc ?_ _ | refine Gr.drew ?_ | refine Gr.drewN ?_ _ | refine Gr.set ?_ (by first | exact Nat.le_refl _ | (simp; done) | omega) _ | refine Gr.trans ?_ (by assumption))); done))) (first | ((go_at_call 56; refine (number8_any _ _ _ _ _ ok _).mono ?_; rintro e w1 ⟨rfl, hb⟩); (first | have K2 := K2.mono hb | have K2 := (K2.mono ((Gr.refl _).drew)).mono hb | have K2 := (K2.mono ((Gr.refl _).alloc _)).mono hb)) | (go_at_call 47; refine (day8_any _ Hr.out _).mono ?_; rintro e w' ⟨rfl, rfl⟩) | ((go_at_call 55; refine (stampOf8_any _ _ Hr.out (by omega) (by omega) _).mono ?_; rintro e w1 ⟨rfl, hb⟩); (first | have K2 := K2.mono hb | have K2 := (K2.mono ((Gr.refl _).drew)).mono hb | have K2 := (K2.mono ((Gr.refl _).alloc _)).mono hb)))
    go_wp2
    exact bodyPost_ret (v := .tuple #[.agg #[.int .i64 (stH t (undrop t (cvtX r t h m s f))), .int .i64 (stM t (undrop t (cvtX r t h m s f))), .int .i64 (stS t (undrop t (cvtX r t h m s f))), .int .i64 (stF t (undrop t (cvtX r t h m s f)))], .int .i64 0]) (by simp [results, Try.results18, go_sem, K2]) rfl ⟨rfl, (by repeat (first | exact Gr.refl _ | assumption | refine Gr.alloc ?_ _ | refine Gr.drew ?_ | refine Gr.drewN ?_ _ | refine Gr.set ?_ (by first | exact Nat.le_refl _ | (simp; done) | omega) _ | refine Gr.trans ?_ (by assumption)))⟩
  · have hF : cvtF r t h m s f = chkF r h m s f := by simp [cvtF, hr, ht]
    have hb' : (chkF r h m s f != 0) = true := by simpa using hc
    have hres : ∀ x, resI (chkF r h m s f) x = 0 := fun x => if_neg hc
    simp only [hF, hres]
    clear hres hF hc hr ht
    go_enter Try.func18, Try.ntmps18
    go_wp2_with (first | (go_at_call 45; refine (counted8_any _ _).mono ?_; rintro e w' ⟨rfl, rfl⟩) | ((go_at_call 21; refine (Check8_any _ _ _ _ _ _).mono ?_; rintro e w1 ⟨rfl, hb⟩); have K := Box4.at (b := w.heap.size) hb (by repeat (first | exact heap_last _ _ | (refine heap_at _ _ _ ?_; (simp; done)) | (refine heap_old _ _ _ _ (by simp; try omega) ?_))); have K2 := Box4.at (b := w.heap.size + 1) hb (by repeat (first | exact heap_last _ _ | (refine heap_at _ _ _ ?_; (simp; done)) | (refine heap_old _ _ _ _ (by simp; try omega) ?_)))))
    exact bodyPost_ret (v := .tuple #[.agg #[.int .i64 0, .int .i64 0, .int .i64 0, .int .i64 0], .int .i64 (chkF r h m s f)]) (by simp [results, Try.results18, go_sem, K2]) rfl ⟨rfl, (by repeat (first | exact Gr.refl _ | assumption | refine Gr.alloc ?_ _ | refine Gr.drew ?_ | refine Gr.drewN ?_ _ | refine Gr.set ?_ (by first | exact Nat.le_refl _ | (simp; done) | omega) _ | refine Gr.trans ?_ (by assumption)))⟩

set_option maxHeartbeats 1000000 in
theorem stampConvertsMatchSpec_walk (r t h m s f : Int) (w : World) :
    Calls Try.prog 5 #[.int .i64 r, .int .i64 t, .agg #[.int .i64 h, .int .i64 m, .int .i64 s, .int .i64 f]] w fun e w' => e = .returned (.bool true) ∧ Gr w w' := by
  have z0 := resI0
  have fin : (cvtF r r h m s f != 0) = true ∨ cvtF r r h m s f = 0 ∧ stH r (undrop r (cvtX r r h m s f)) = h ∧ stM r (undrop r (cvtX r r h m s f)) = m ∧ stS r (undrop r (cvtX r r h m s f)) = s ∧ stF r (undrop r (cvtX r r h m s f)) = f := by
    by_cases hF : cvtF r r h m s f = 0
    · right
      have hr : rateB r = true := by
        cases h0 : rateB r
        · simp [cvtF, h0] at hF
        · rfl
      have hc : chkF r h m s f = 0 := by simpa [cvtF, hr] using hF
      have ok := okS_of hc
      have hb := numI_bd ok
      rw [cvtX, cvt_same hr hb.1 hb.2]
      exact ⟨hF, st_of_num ok⟩
    · left; simpa using hF
  have arms : True := trivial
  rcases fin with h0 | ⟨h0, h1, h2, h3, h4⟩
  all_goals
    go_enter Try.func5, Try.ntmps5
    go_wp2_with (first
      | (go_at_call 17; with_reducible refine (Convert_any r t h m s f _).mono ?_; rintro e w1 ⟨rfl, hb⟩; have K := Box4.at (b := w.heap.size) hb (by repeat (first | exact heap_last _ _ | (refine heap_at _ _ _ ?_; (simp; done)) | (refine heap_old _ _ _ _ (by simp; try omega) ?_))))
      | (go_at_call 18; refine (Convert8_any _ _ _ _ _ _ _).mono ?_; rintro e w1 ⟨rfl, hb⟩; have K2 := Box4.at hb (heap_last _ _); have K := (K.mono ((Gr.refl _).alloc _)).mono hb)
      | (go_at_call 17; with_reducible refine (Convert_any r r h m s f _).mono ?_; rintro e w1 ⟨rfl, hb⟩; have K := (K.mono ((Gr.refl _).alloc _)).mono hb))
    go_ret
    exact ⟨rfl, (by repeat (first | exact Gr.refl _ | assumption | refine Gr.alloc ?_ _ | refine Gr.drew ?_ | refine Gr.drewN ?_ _ | refine Gr.set ?_ (by first | exact Nat.le_refl _ | (simp; done) | omega) _ | refine Gr.trans ?_ (by assumption)))⟩
end Go.Proofs.Ytgjclbkcnilkbaa
