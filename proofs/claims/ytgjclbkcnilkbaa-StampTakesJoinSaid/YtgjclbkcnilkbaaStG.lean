/- The contracts of around, Add, Between, and of their references. -/
import Derived.Test.YtgjclbkcnilkbaaStF
namespace Go.Proofs.Ytgjclbkcnilkbaa
open Go.RowKit
set_option linter.unusedVariables false
set_option linter.unusedSimpArgs false

theorem around_any (r n : Int) (hr : rateB r = true) (h0 : -1000000000000 ≤ n) (h1 : n ≤ 1000000000000) (w : World) :
    Calls Try.prog 58 #[.int .i64 r, .int .i64 n] w fun e w' => e = .returned (.int .i64 (n % dayI r)) ∧ w = w' := by
  have hd := dayI_le hr
  have e := Int.emod_add_mul_ediv n (dayI r)
  have b1 := Int.emod_nonneg n (show dayI r ≠ 0 by omega)
  have b2 := Int.emod_lt_of_pos n (show 0 < dayI r by omega)
  generalize n % dayI r = md at *
  have hp : -1000002592001 ≤ dayI r * (n / dayI r) ∧ dayI r * (n / dayI r) ≤ 1000002592001 := by omega
  have E := Lib.hid e
  clear hr e
  go_enter Try.func58, Try.ntmps58
  go_wp2_with (first | (go_at_call 43; refine (day_any _ _).mono ?_; rintro e w' ⟨rfl, rfl⟩) | (go_at_call 67; refine (floor_any _ _ (by omega) (by omega) (by omega) (by omega) _).mono ?_; rintro e w' ⟨rfl, rfl⟩))
  go_ret
  exact ⟨ret_int (by have := E.out; omega), rfl⟩
theorem around8_any (n d : Int) (hd0 : 1 ≤ d) (hd : d ≤ 10000000000) (h0 : -1000000000000 ≤ n) (h1 : n ≤ 1000000000000) (w : World) :
    Calls Try.prog 59 #[.int .i64 n, .int .i64 d] w fun e w' => e = .returned (.int .i64 (n % d)) ∧ w = w' := by
  have t1 := Int.tmod_lt_of_pos n (show 0 < d by omega)
  have t2 : -d < n.tmod d := by
    have := Int.lt_tmod_of_pos n (show 0 < d by omega)
    omega
  have t3 : (n.tmod d + d) % d = n % d := by
    rw [Int.add_emod_right]
    have h := Int.emod_add_mul_ediv n d
    have h' := Int.tmod_add_mul_tdiv n d
    have : n.tmod d = n + d * (-(n.tdiv d)) := by rw [Int.mul_neg]; omega
    rw [this, Int.add_mul_emod_self_left]
  have T3 := Lib.hid t3; clear t3
  go_enter Try.func59, Try.ntmps59
  go_wp2
  go_ret
  exact ⟨ret_int (by rw [T3.out]), rfl⟩

/-- Add's fault and number. -/
def addF (r h m s f n : Int) : Int := if chkF r h m s f = 0 then (if withinB n (-dayI r) (dayI r) then 0 else 1) else chkF r h m s f
def addX (r h m s f n : Int) : Int := (numI r h m s f + n) % dayI r
theorem numI_bd {r h m s f : Int} (k : okS r h m s f) : 0 ≤ numI r h m s f ∧ numI r h m s f < dayI r := by
  obtain ⟨hr, h1, h2, h3, h4, h5⟩ := k
  have hd := preI_day hr
  rcases rate_cases hr with rfl | rfl | rfl | rfl
  · rw [numI_plain (by omega) (by omega), show dayI 24 = 2073600 from by decide +kernel]; simp [cnt] at h4; omega
  · rw [numI_plain (by omega) (by omega), show dayI 25 = 2160000 from by decide +kernel]; simp [cnt] at h4; omega
  · rw [numI_plain (by omega) (by omega), show dayI 30 = 2592000 from by decide +kernel]; simp [cnt] at h4; omega
  · rw [numI_drop (by omega), show dayI 29 = 2589408 from by decide +kernel]; simp [cnt] at h4; omega
theorem mod_bd {r : Int} (hr : rateB r = true) (x : Int) : 0 ≤ x % dayI r ∧ x % dayI r < dayI r := by
  have hd := dayI_le hr
  exact ⟨Int.emod_nonneg x (by omega), Int.emod_lt_of_pos x (by omega)⟩

set_option maxHeartbeats 1000000 in
theorem Add_any (r h m s f n : Int) (w : World) :
    Calls Try.prog 26 #[.int .i64 r, .agg #[.int .i64 h, .int .i64 m, .int .i64 s, .int .i64 f], .int .i64 n] w fun e w' => e = .returned (.tuple #[.agg #[.int .i64 (resI (addF r h m s f n) (stH r (undrop r (addX r h m s f n)))), .int .i64 (resI (addF r h m s f n) (stM r (undrop r (addX r h m s f n)))), .int .i64 (resI (addF r h m s f n) (stS r (undrop r (addX r h m s f n)))), .int .i64 (resI (addF r h m s f n) (stF r (undrop r (addX r h m s f n))))], .int .i64 (addF r h m s f n)]) ∧ Gr w w' := by
  by_cases hc : chkF r h m s f = 0
  · obtain ok := Lib.hid (okS_of hc)
    have hr := ok.out.1
    have hd := dayI_le hr
    have hnb := numI_bd ok.out
    cases hw : withinB n (-dayI r) (dayI r)
    · have hF : addF r h m s f n = 1 := by simp [addF, hc, hw]
      simp only [hF, resI1]
      have Hfi : Hid (firstL [0, whenI true 1] = 1) := Lib.hid (by decide)
      clear hr
      go_enter Try.func26, Try.ntmps26
      go_wp2_with (first | ((go_at_call 20; refine (Check_any _ _ _ _ _ _).mono ?_; rintro e w1 ⟨rfl, hb⟩); have K := Box4.at (b := w.heap.size) hb (by repeat (first | exact heap_last _ _ | (refine heap_at _ _ _ ?_; (simp; done)) | (refine heap_old _ _ _ _ (by simp; try omega) ?_))); have K2 := Box4.at (b := w.heap.size + 1) hb (by repeat (first | exact heap_last _ _ | (refine heap_at _ _ _ ?_; (simp; done)) | (refine heap_old _ _ _ _ (by simp; try omega) ?_)))) | (go_at_call 43; refine (day_any _ _).mono ?_; rintro e w' ⟨rfl, rfl⟩) | (go_at_call 42; refine (within_any _ _ _ _).mono ?_; rintro e w' ⟨rfl, rfl⟩) | (go_at_call 41; refine (when_any _ _ _).mono ?_; rintro e w' ⟨rfl, rfl⟩) | ((go_at_call 39; refine (first2_any _ _ _ _ _ (by simp)).mono ?_; rintro e w' ⟨rfl, rfl⟩); rw [Hfi.out]))
      exact bodyPost_ret (v := .tuple #[.agg #[.int .i64 0, .int .i64 0, .int .i64 0, .int .i64 0], .int .i64 1]) (by simp [results, Try.results26, go_sem, K, K2]) rfl ⟨rfl, (by repeat (first | exact Gr.refl _ | assumption | refine Gr.alloc ?_ _ | refine Gr.drew ?_ | refine Gr.drewN ?_ _ | (refine Gr.put ?_ ?_ _; first | exact Nat.le_refl _ | (simp; done) | omega) | (apply Gr.after; assumption)))⟩
    · have hF : addF r h m s f n = 0 := by simp [addF, hc, hw]
      obtain ⟨hn0, hn1⟩ := withinB_true hw
      have Hr := Lib.hid hr
      have hmb := mod_bd hr (numI r h m s f + n)
      simp only [hF, resI0, addX]
      have Hfi : Hid (firstL [0, whenI false 1] = 0) := Lib.hid (by decide)
      clear hr
      go_enter Try.func26, Try.ntmps26
      go_wp2_with (first | ((go_at_call 20; refine (Check_any _ _ _ _ _ _).mono ?_; rintro e w1 ⟨rfl, hb⟩); have K := Box4.at (b := w.heap.size) hb (by repeat (first | exact heap_last _ _ | (refine heap_at _ _ _ ?_; (simp; done)) | (refine heap_old _ _ _ _ (by simp; try omega) ?_))); have K2 := Box4.at (b := w.heap.size + 1) hb (by repeat (first | exact heap_last _ _ | (refine heap_at _ _ _ ?_; (simp; done)) | (refine heap_old _ _ _ _ (by simp; try omega) ?_)))) | (go_at_call 43; refine (day_any _ _).mono ?_; rintro e w' ⟨rfl, rfl⟩) | (go_at_call 42; refine (within_any _ _ _ _).mono ?_; rintro e w' ⟨rfl, rfl⟩) | (go_at_call 41; refine (when_any _ _ _).mono ?_; rintro e w' ⟨rfl, rfl⟩) | ((go_at_call 39; refine (first2_any _ _ _ _ _ (by simp)).mono ?_; rintro e w' ⟨rfl, rfl⟩); rw [Hfi.out]) | ((go_at_call 53; refine (number_any _ _ _ _ _ ok _).mono ?_; rintro e w1 ⟨rfl, hb⟩); have K := K.mono (Gr.trans ((Gr.refl _).alloc _) hb); have K2 := K2.mono (Gr.trans ((Gr.refl _).alloc _) hb)) | (go_at_call 58; refine (around_any _ _ Hr.out (by omega) (by omega) _).mono ?_; rintro e w' ⟨rfl, rfl⟩) | ((go_at_call 52; refine (stampOf_any _ _ Hr.out (by omega) (by omega) _).mono ?_; rintro e w1 ⟨rfl, hb⟩); have K := K.mono hb; have K2 := K2.mono hb))
      exact bodyPost_ret (v := .tuple #[.agg #[.int .i64 (stH r (undrop r ((numI r h m s f + n) % dayI r))), .int .i64 (stM r (undrop r ((numI r h m s f + n) % dayI r))), .int .i64 (stS r (undrop r ((numI r h m s f + n) % dayI r))), .int .i64 (stF r (undrop r ((numI r h m s f + n) % dayI r)))], .int .i64 0]) (by simp [results, Try.results26, go_sem, K, K2]) rfl ⟨rfl, (by repeat (first | exact Gr.refl _ | assumption | refine Gr.alloc ?_ _ | refine Gr.drew ?_ | refine Gr.drewN ?_ _ | (refine Gr.put ?_ ?_ _; first | exact Nat.le_refl _ | (simp; done) | omega) | (apply Gr.after; assumption)))⟩
  · have hF : addF r h m s f n = chkF r h m s f := by simp [addF, hc]
    have hres : ∀ x, resI (chkF r h m s f) x = 0 := fun x => if_neg hc
    have hcb : (chkF r h m s f != 0) = true := by simpa using hc
    have Hfi : Hid (∀ x, firstL [chkF r h m s f, x] = chkF r h m s f) := Lib.hid fun x => by rw [firstL2, if_neg hc]
    simp only [hF, hres]
    clear hres hF hc
    go_enter Try.func26, Try.ntmps26
    go_wp2_with (first | ((go_at_call 20; refine (Check_any _ _ _ _ _ _).mono ?_; rintro e w1 ⟨rfl, hb⟩); have K := Box4.at (b := w.heap.size) hb (by repeat (first | exact heap_last _ _ | (refine heap_at _ _ _ ?_; (simp; done)) | (refine heap_old _ _ _ _ (by simp; try omega) ?_))); have K2 := Box4.at (b := w.heap.size + 1) hb (by repeat (first | exact heap_last _ _ | (refine heap_at _ _ _ ?_; (simp; done)) | (refine heap_old _ _ _ _ (by simp; try omega) ?_)))) | (go_at_call 43; refine (day_any _ _).mono ?_; rintro e w' ⟨rfl, rfl⟩) | (go_at_call 42; refine (within_any _ _ _ _).mono ?_; rintro e w' ⟨rfl, rfl⟩) | (go_at_call 41; refine (when_any _ _ _).mono ?_; rintro e w' ⟨rfl, rfl⟩) | ((go_at_call 39; refine (first2_any _ _ _ _ _ (by simp)).mono ?_; rintro e w' ⟨rfl, rfl⟩); rw [Hfi.out]))
    exact bodyPost_ret (v := .tuple #[.agg #[.int .i64 0, .int .i64 0, .int .i64 0, .int .i64 0], .int .i64 (chkF r h m s f)]) (by simp [results, Try.results26, go_sem, K, K2]) rfl ⟨rfl, (by repeat (first | exact Gr.refl _ | assumption | refine Gr.alloc ?_ _ | refine Gr.drew ?_ | refine Gr.drewN ?_ _ | (refine Gr.put ?_ ?_ _; first | exact Nat.le_refl _ | (simp; done) | omega) | (apply Gr.after; assumption)))⟩
set_option maxHeartbeats 1000000 in
theorem Add8_any (r h m s f n : Int) (w : World) :
    Calls Try.prog 27 #[.int .i64 r, .agg #[.int .i64 h, .int .i64 m, .int .i64 s, .int .i64 f], .int .i64 n] w fun e w' => e = .returned (.tuple #[.agg #[.int .i64 (resI (addF r h m s f n) (stH r (undrop r (addX r h m s f n)))), .int .i64 (resI (addF r h m s f n) (stM r (undrop r (addX r h m s f n)))), .int .i64 (resI (addF r h m s f n) (stS r (undrop r (addX r h m s f n)))), .int .i64 (resI (addF r h m s f n) (stF r (undrop r (addX r h m s f n))))], .int .i64 (addF r h m s f n)]) ∧ Gr w w' := by
  by_cases hc : chkF r h m s f = 0
  · obtain ok := Lib.hid (okS_of hc)
    have hr := ok.out.1
    have hd := dayI_le hr
    have hnb := numI_bd ok.out
    have Hr := Lib.hid hr
    cases hw : withinB n (-dayI r) (dayI r)
    · have hF : addF r h m s f n = 1 := by simp [addF, hc, hw]
      simp only [hF, resI1]
      clear hr
      go_enter Try.func27, Try.ntmps27
      go_wp2_with (first | ((go_at_call 21; refine (Check8_any _ _ _ _ _ _).mono ?_; rintro e w1 ⟨rfl, hb⟩); have K := Box4.at (b := w.heap.size) hb (by repeat (first | exact heap_last _ _ | (refine heap_at _ _ _ ?_; (simp; done)) | (refine heap_old _ _ _ _ (by simp; try omega) ?_))); have K2 := Box4.at (b := w.heap.size + 1) hb (by repeat (first | exact heap_last _ _ | (refine heap_at _ _ _ ?_; (simp; done)) | (refine heap_old _ _ _ _ (by simp; try omega) ?_)))) | (go_at_call 47; refine (day8_any _ Hr.out _).mono ?_; rintro e w' ⟨rfl, rfl⟩) | (go_at_call 46; refine (within1_any _ _ _ _).mono ?_; rintro e w' ⟨rfl, rfl⟩))
      exact bodyPost_ret (v := .tuple #[.agg #[.int .i64 0, .int .i64 0, .int .i64 0, .int .i64 0], .int .i64 1]) (by simp [results, Try.results27, go_sem, K, K2]) rfl ⟨rfl, (by repeat (first | exact Gr.refl _ | assumption | refine Gr.alloc ?_ _ | refine Gr.drew ?_ | refine Gr.drewN ?_ _ | (refine Gr.put ?_ ?_ _; first | exact Nat.le_refl _ | (simp; done) | omega) | (apply Gr.after; assumption)))⟩
    · have hF : addF r h m s f n = 0 := by simp [addF, hc, hw]
      obtain ⟨hn0, hn1⟩ := withinB_true hw
      have hmb := mod_bd hr (numI r h m s f + n)
      simp only [hF, resI0, addX]
      clear hr
      go_enter Try.func27, Try.ntmps27
      go_wp2_with (first | ((go_at_call 21; refine (Check8_any _ _ _ _ _ _).mono ?_; rintro e w1 ⟨rfl, hb⟩); have K := Box4.at (b := w.heap.size) hb (by repeat (first | exact heap_last _ _ | (refine heap_at _ _ _ ?_; (simp; done)) | (refine heap_old _ _ _ _ (by simp; try omega) ?_))); have K2 := Box4.at (b := w.heap.size + 1) hb (by repeat (first | exact heap_last _ _ | (refine heap_at _ _ _ ?_; (simp; done)) | (refine heap_old _ _ _ _ (by simp; try omega) ?_)))) | (go_at_call 47; refine (day8_any _ Hr.out _).mono ?_; rintro e w' ⟨rfl, rfl⟩) | (go_at_call 46; refine (within1_any _ _ _ _).mono ?_; rintro e w' ⟨rfl, rfl⟩) | ((go_at_call 56; refine (number8_any _ _ _ _ _ ok _).mono ?_; rintro e w1 ⟨rfl, hb⟩); have K := K.mono hb; have K2 := K2.mono hb) | (go_at_call 59; refine (around8_any _ _ (by omega) (by omega) (by omega) (by omega) _).mono ?_; rintro e w' ⟨rfl, rfl⟩) | ((go_at_call 55; refine (stampOf8_any _ _ Hr.out (by omega) (by omega) _).mono ?_; rintro e w1 ⟨rfl, hb⟩); have K := K.mono hb; have K2 := K2.mono hb))
      exact bodyPost_ret (v := .tuple #[.agg #[.int .i64 (stH r (undrop r ((numI r h m s f + n) % dayI r))), .int .i64 (stM r (undrop r ((numI r h m s f + n) % dayI r))), .int .i64 (stS r (undrop r ((numI r h m s f + n) % dayI r))), .int .i64 (stF r (undrop r ((numI r h m s f + n) % dayI r)))], .int .i64 0]) (by simp [results, Try.results27, go_sem, K, K2]) rfl ⟨rfl, (by repeat (first | exact Gr.refl _ | assumption | refine Gr.alloc ?_ _ | refine Gr.drew ?_ | refine Gr.drewN ?_ _ | (refine Gr.put ?_ ?_ _; first | exact Nat.le_refl _ | (simp; done) | omega) | (apply Gr.after; assumption)))⟩
  · have hF : addF r h m s f n = chkF r h m s f := by simp [addF, hc]
    have hres : ∀ x, resI (chkF r h m s f) x = 0 := fun x => if_neg hc
    have hcb : (chkF r h m s f != 0) = true := by simpa using hc
    simp only [hF, hres]
    clear hres hF hc
    go_enter Try.func27, Try.ntmps27
    go_wp2_with (first | ((go_at_call 21; refine (Check8_any _ _ _ _ _ _).mono ?_; rintro e w1 ⟨rfl, hb⟩); have K := Box4.at (b := w.heap.size) hb (by repeat (first | exact heap_last _ _ | (refine heap_at _ _ _ ?_; (simp; done)) | (refine heap_old _ _ _ _ (by simp; try omega) ?_))); have K2 := Box4.at (b := w.heap.size + 1) hb (by repeat (first | exact heap_last _ _ | (refine heap_at _ _ _ ?_; (simp; done)) | (refine heap_old _ _ _ _ (by simp; try omega) ?_)))))
    exact bodyPost_ret (v := .tuple #[.agg #[.int .i64 0, .int .i64 0, .int .i64 0, .int .i64 0], .int .i64 (chkF r h m s f)]) (by simp [results, Try.results27, go_sem, K, K2]) rfl ⟨rfl, (by repeat (first | exact Gr.refl _ | assumption | refine Gr.alloc ?_ _ | refine Gr.drew ?_ | refine Gr.drewN ?_ _ | (refine Gr.put ?_ ?_ _; first | exact Nat.le_refl _ | (simp; done) | omega) | (apply Gr.after; assumption)))⟩

end Go.Proofs.Ytgjclbkcnilkbaa
