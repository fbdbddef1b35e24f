/- The contracts of Number, StampOf, Day and of their references. -/
import Derived.Test.YtgjclbkcnilkbaaStE
namespace Go.Proofs.Ytgjclbkcnilkbaa
open Go.RowKit
set_option linter.unusedVariables false
set_option linter.unusedSimpArgs false

theorem Gr.cells4 {w w1 : World} {a b c d : Value} {t : TypeId} (h : Gr (w.alloc (.cells #[a, b, c, d] t)) w1) :
    w1.cell? ⟨w.heap.size, 0, none⟩ = some a ∧ w1.cell? ⟨w.heap.size, 1, none⟩ = some b ∧ w1.cell? ⟨w.heap.size, 2, none⟩ = some c ∧ w1.cell? ⟨w.heap.size, 3, none⟩ = some d :=
  ⟨h.cell (by simp [go_sem]), h.cell (by simp [go_sem]), h.cell (by simp [go_sem]), h.cell (by simp [go_sem])⟩

theorem Number_any (r h m s f : Int) (w : World) :
    Calls Try.prog 22 #[.int .i64 r, .agg #[.int .i64 h, .int .i64 m, .int .i64 s, .int .i64 f]] w fun e w' => e = .returned (.tuple #[.int .i64 (resI (chkF r h m s f) (numI r h m s f)), .int .i64 (chkF r h m s f)]) ∧ Gr w w' := by
  by_cases hz : chkF r h m s f = 0
  · have ok := Lib.hid (okS_of hz)
    rw [hz, resI0]
    go_enter Try.func22, Try.ntmps22
    go_wp2_with (first | (go_at_call 20; refine (Check_any _ _ _ _ _ _).mono ?_; rintro e w1 ⟨rfl, hb⟩; obtain ⟨k0, k1, k2, k3⟩ := Gr.cells4 hb) | (go_at_call 53; refine (number_any _ _ _ _ _ ok _).mono ?_; rintro e w2 ⟨rfl, hb2⟩))
    go_ret2
    exact ⟨rfl, (by repeat (first | exact Gr.refl _ | assumption | refine Gr.alloc ?_ _ | refine Gr.drew ?_ | refine Gr.drewN ?_ _ | (refine Gr.put ?_ ?_ _; first | exact Nat.le_refl _ | (simp; done) | omega) | (apply Gr.after; assumption)))⟩
  · have hb : (chkF r h m s f != 0) = true := by simpa using hz
    have hres : resI (chkF r h m s f) (numI r h m s f) = 0 := if_neg hz
    rw [hres]; clear hres hz
    generalize hc : chkF r h m s f = c at *
    have HC := Lib.hid hc; clear hc
    go_enter Try.func22, Try.ntmps22
    go_wp2_with ((go_at_call 20; refine (Check_any _ _ _ _ _ _).mono ?_; rintro e w1 ⟨rfl, hb⟩; obtain ⟨k0, k1, k2, k3⟩ := Gr.cells4 hb); rw [HC.out])
    go_ret2
    exact ⟨rfl, (by repeat (first | exact Gr.refl _ | assumption | refine Gr.alloc ?_ _ | refine Gr.drew ?_ | refine Gr.drewN ?_ _ | (refine Gr.put ?_ ?_ _; first | exact Nat.le_refl _ | (simp; done) | omega) | (apply Gr.after; assumption)))⟩
theorem Number8_any (r h m s f : Int) (w : World) :
    Calls Try.prog 23 #[.int .i64 r, .agg #[.int .i64 h, .int .i64 m, .int .i64 s, .int .i64 f]] w fun e w' => e = .returned (.tuple #[.int .i64 (resI (chkF r h m s f) (numI r h m s f)), .int .i64 (chkF r h m s f)]) ∧ Gr w w' := by
  by_cases hz : chkF r h m s f = 0
  · have ok := Lib.hid (okS_of hz)
    rw [hz, resI0]
    go_enter Try.func23, Try.ntmps23
    go_wp2_with (first | (go_at_call 21; refine (Check8_any _ _ _ _ _ _).mono ?_; rintro e w1 ⟨rfl, hb⟩; obtain ⟨k0, k1, k2, k3⟩ := Gr.cells4 hb) | (go_at_call 56; refine (number8_any _ _ _ _ _ ok _).mono ?_; rintro e w2 ⟨rfl, hb2⟩))
    go_ret2
    exact ⟨rfl, (by repeat (first | exact Gr.refl _ | assumption | refine Gr.alloc ?_ _ | refine Gr.drew ?_ | refine Gr.drewN ?_ _ | (refine Gr.put ?_ ?_ _; first | exact Nat.le_refl _ | (simp; done) | omega) | (apply Gr.after; assumption)))⟩
  · have hb : (chkF r h m s f != 0) = true := by simpa using hz
    have hres : resI (chkF r h m s f) (numI r h m s f) = 0 := if_neg hz
    rw [hres]; clear hres hz
    generalize hc : chkF r h m s f = c at *
    have HC := Lib.hid hc; clear hc
    go_enter Try.func23, Try.ntmps23
    go_wp2_with ((go_at_call 21; refine (Check8_any _ _ _ _ _ _).mono ?_; rintro e w1 ⟨rfl, hb⟩; obtain ⟨k0, k1, k2, k3⟩ := Gr.cells4 hb); rw [HC.out])
    go_ret2
    exact ⟨rfl, (by repeat (first | exact Gr.refl _ | assumption | refine Gr.alloc ?_ _ | refine Gr.drew ?_ | refine Gr.drewN ?_ _ | (refine Gr.put ?_ ?_ _; first | exact Nat.le_refl _ | (simp; done) | omega) | (apply Gr.after; assumption)))⟩
theorem Day8_any (r : Int) (w : World) :
    Calls Try.prog 19 #[.int .i64 r] w fun e w' => e = .returned (.tuple #[.int .i64 (resI (modeI r) (dayI r)), .int .i64 (modeI r)]) ∧ w = w' := by
  cases h : rateB r
  · have hm : modeI r = 16 := by simp [modeI, h]
    have hc := cnt8_no h
    rw [hm, resI16]
    go_enter Try.func19, Try.ntmps19
    go_wp2_with (go_at_call 45; refine (counted8_any _ _).mono ?_; rintro e w' ⟨rfl, rfl⟩)
    go_ret2
    exact ⟨rfl, rfl⟩
  · have hm : modeI r = 0 := by simp [modeI, h]
    obtain ⟨hc, hc1, hc2⟩ := cnt8_yes h
    have hcb : (cnt8 r == 0) = false := beq_eq_false_iff_ne.2 (by omega)
    have Hr := Lib.hid h
    clear h hc
    rw [hm, resI0]
    go_enter Try.func19, Try.ntmps19
    go_wp2_with (first | (go_at_call 45; refine (counted8_any _ _).mono ?_; rintro e w' ⟨rfl, rfl⟩) | (go_at_call 47; refine (day8_any _ Hr.out _).mono ?_; rintro e w' ⟨rfl, rfl⟩))
    go_ret2
    exact ⟨rfl, rfl⟩

theorem Gr.block4 {W w2 : World} {b : Nat} {a0 a1 a2 a3 : Value} {t : TypeId} (h : Gr W w2) (hb : W.heap[b]? = some (.cells #[a0, a1, a2, a3] t (0, 0))) :
    (w2.cell? ⟨b, 0, none⟩ = some a0 ∧ w2.cell? ⟨b, 1, none⟩ = some a1 ∧ w2.cell? ⟨b, 2, none⟩ = some a2 ∧ w2.cell? ⟨b, 3, none⟩ = some a3) ∧
    (w2.frozen? ⟨b, 0, none⟩ = false ∧ w2.frozen? ⟨b, 1, none⟩ = false ∧ w2.frozen? ⟨b, 2, none⟩ = false ∧ w2.frozen? ⟨b, 3, none⟩ = false) := by
  have hlt : b < W.heap.size := (Array.getElem?_eq_some_iff.1 hb).1
  have h2 : w2.heap[b]? = some (.cells #[a0, a1, a2, a3] t (0, 0)) := by rw [h.block b hlt]; exact hb
  refine ⟨⟨?_, ?_, ?_, ?_⟩, ?_, ?_, ?_, ?_⟩ <;> simp [World.cell?, World.frozen?, h2]
set_option maxHeartbeats 1000000 in
theorem StampOf_any (r n : Int) (w : World) :
    Calls Try.prog 24 #[.int .i64 r, .int .i64 n] w fun e w' => e = .returned (.tuple #[.agg #[.int .i64 (resI (numF r n (dayI r - 1)) (stH r (undrop r n))), .int .i64 (resI (numF r n (dayI r - 1)) (stM r (undrop r n))), .int .i64 (resI (numF r n (dayI r - 1)) (stS r (undrop r n))), .int .i64 (resI (numF r n (dayI r - 1)) (stF r (undrop r n)))], .int .i64 (numF r n (dayI r - 1))]) ∧ Gr w w' := by
  have Hfi := Lib.hid (numF_first r n (dayI r - 1))
  rcases numF_cases r n (dayI r - 1) with ⟨hr, hz⟩ | ⟨hr, hw, hz⟩ | ⟨hr, hw, hn0, hn1, hz⟩
  case inr.inr =>
    have hd := dayI_le hr
    have Hr := Lib.hid hr
    rw [hz] at Hfi ⊢
    simp only [resI0]
    clear hz hr hw
    go_enter Try.func24, Try.ntmps24
    go_wp2_with (first | (go_at_call 40; refine (mode_any _ _).mono ?_; rintro e w' ⟨rfl, rfl⟩) | (go_at_call 43; refine (day_any _ _).mono ?_; rintro e w' ⟨rfl, rfl⟩) | (go_at_call 42; refine (within_any _ _ _ _).mono ?_; rintro e w' ⟨rfl, rfl⟩) | (go_at_call 41; refine (when_any _ _ _).mono ?_; rintro e w' ⟨rfl, rfl⟩) | ((go_at_call 39; refine (first2_any _ _ _ _ _ (by simp)).mono ?_; rintro e w' ⟨rfl, rfl⟩); rw [Hfi.out]) | ((go_at_call 52; refine (stampOf_any _ _ Hr.out (by omega) (by omega) _).mono ?_; rintro e w2 ⟨rfl, hb2⟩); obtain ⟨⟨c0, c1, c2, c3⟩, f0, f1, f2, f3⟩ := Gr.block4 (b := w.heap.size) hb2 (by repeat (first | exact heap_last _ _ | (refine heap_at _ _ _ ?_; (simp; done)) | (refine heap_old _ _ _ _ (by simp; try omega) ?_)))))
    exact bodyPost_ret (v := .tuple #[.agg #[.int .i64 (stH r (undrop r n)), .int .i64 (stM r (undrop r n)), .int .i64 (stS r (undrop r n)), .int .i64 (stF r (undrop r n))], .int .i64 0]) (by simp [results, Try.results24, go_sem, c0, c1, c2, c3]) rfl ⟨rfl, (by repeat (first | exact Gr.refl _ | assumption | refine Gr.alloc ?_ _ | refine Gr.drew ?_ | refine Gr.drewN ?_ _ | (refine Gr.put ?_ ?_ _; first | exact Nat.le_refl _ | (simp; done) | omega) | (apply Gr.after; assumption)))⟩
  · have Hf1 : Hid (∀ x, firstL [modeI r, x] = 16) := Lib.hid fun x => by simp [firstL2, modeI, hr]
    rw [hz]
    simp only [resI16, resI1]
    clear hz hr Hfi
    go_enter Try.func24, Try.ntmps24
    go_wp2_with (first | (go_at_call 40; refine (mode_any _ _).mono ?_; rintro e w' ⟨rfl, rfl⟩) | (go_at_call 43; refine (day_any _ _).mono ?_; rintro e w' ⟨rfl, rfl⟩) | (go_at_call 42; refine (within_any _ _ _ _).mono ?_; rintro e w' ⟨rfl, rfl⟩) | (go_at_call 41; refine (when_any _ _ _).mono ?_; rintro e w' ⟨rfl, rfl⟩) | ((go_at_call 39; refine (first2_any _ _ _ _ _ (by simp)).mono ?_; rintro e w' ⟨rfl, rfl⟩); rw [Hf1.out]))
    exact bodyPost_ret (v := .tuple #[.agg #[.int .i64 0, .int .i64 0, .int .i64 0, .int .i64 0], .int .i64 16]) (by simp [results, Try.results24, go_sem]) rfl ⟨rfl, (by repeat (first | exact Gr.refl _ | assumption | refine Gr.alloc ?_ _ | refine Gr.drew ?_ | refine Gr.drewN ?_ _ | (refine Gr.put ?_ ?_ _; first | exact Nat.le_refl _ | (simp; done) | omega) | (apply Gr.after; assumption)))⟩
  · have hd := dayI_le hr
    rw [hz] at Hfi ⊢
    simp only [resI16, resI1]
    clear hz hr hw
    go_enter Try.func24, Try.ntmps24
    go_wp2_with (first | (go_at_call 40; refine (mode_any _ _).mono ?_; rintro e w' ⟨rfl, rfl⟩) | (go_at_call 43; refine (day_any _ _).mono ?_; rintro e w' ⟨rfl, rfl⟩) | (go_at_call 42; refine (within_any _ _ _ _).mono ?_; rintro e w' ⟨rfl, rfl⟩) | (go_at_call 41; refine (when_any _ _ _).mono ?_; rintro e w' ⟨rfl, rfl⟩) | ((go_at_call 39; refine (first2_any _ _ _ _ _ (by simp)).mono ?_; rintro e w' ⟨rfl, rfl⟩); rw [Hfi.out]))
    exact bodyPost_ret (v := .tuple #[.agg #[.int .i64 0, .int .i64 0, .int .i64 0, .int .i64 0], .int .i64 1]) (by simp [results, Try.results24, go_sem]) rfl ⟨rfl, (by repeat (first | exact Gr.refl _ | assumption | refine Gr.alloc ?_ _ | refine Gr.drew ?_ | refine Gr.drewN ?_ _ | (refine Gr.put ?_ ?_ _; first | exact Nat.le_refl _ | (simp; done) | omega) | (apply Gr.after; assumption)))⟩

set_option maxHeartbeats 1000000 in
theorem StampOf8_any (r n : Int) (w : World) :
    Calls Try.prog 25 #[.int .i64 r, .int .i64 n] w fun e w' => e = .returned (.tuple #[.agg #[.int .i64 (resI (numF r n (dayI r - 1)) (stH r (undrop r n))), .int .i64 (resI (numF r n (dayI r - 1)) (stM r (undrop r n))), .int .i64 (resI (numF r n (dayI r - 1)) (stS r (undrop r n))), .int .i64 (resI (numF r n (dayI r - 1)) (stF r (undrop r n)))], .int .i64 (numF r n (dayI r - 1))]) ∧ Gr w w' := by
  rcases numF_cases r n (dayI r - 1) with ⟨hr, hz⟩ | ⟨hr, hw, hz⟩ | ⟨hr, hw, hn0, hn1, hz⟩
  · have hc := cnt8_no hr
    rw [hz]
    simp only [resI16, resI1]
    clear hz hr
    go_enter Try.func25, Try.ntmps25
    go_wp2_with (go_at_call 45; refine (counted8_any _ _).mono ?_; rintro e w' ⟨rfl, rfl⟩)
    exact bodyPost_ret (v := .tuple #[.agg #[.int .i64 0, .int .i64 0, .int .i64 0, .int .i64 0], .int .i64 16]) (by simp [results, Try.results25, go_sem]) rfl ⟨rfl, (by repeat (first | exact Gr.refl _ | assumption | refine Gr.alloc ?_ _ | refine Gr.drew ?_ | refine Gr.drewN ?_ _ | (refine Gr.put ?_ ?_ _; first | exact Nat.le_refl _ | (simp; done) | omega) | (apply Gr.after; assumption)))⟩
  · have hd := dayI_le hr
    obtain ⟨hc, hc1, hc2⟩ := cnt8_yes hr
    have hcb : (cnt8 r == 0) = false := beq_eq_false_iff_ne.2 (by omega)
    have Hr := Lib.hid hr
    rw [hz]
    simp only [resI16, resI1]
    clear hz hr hc
    go_enter Try.func25, Try.ntmps25
    go_wp2_with (first | (go_at_call 45; refine (counted8_any _ _).mono ?_; rintro e w' ⟨rfl, rfl⟩) | (go_at_call 47; refine (day8_any _ Hr.out _).mono ?_; rintro e w' ⟨rfl, rfl⟩) | (go_at_call 46; refine (within1_any _ _ _ _).mono ?_; rintro e w' ⟨rfl, rfl⟩))
    exact bodyPost_ret (v := .tuple #[.agg #[.int .i64 0, .int .i64 0, .int .i64 0, .int .i64 0], .int .i64 1]) (by simp [results, Try.results25, go_sem]) rfl ⟨rfl, (by repeat (first | exact Gr.refl _ | assumption | refine Gr.alloc ?_ _ | refine Gr.drew ?_ | refine Gr.drewN ?_ _ | (refine Gr.put ?_ ?_ _; first | exact Nat.le_refl _ | (simp; done) | omega) | (apply Gr.after; assumption)))⟩
  · have hd := dayI_le hr
    obtain ⟨hc, hc1, hc2⟩ := cnt8_yes hr
    have hcb : (cnt8 r == 0) = false := beq_eq_false_iff_ne.2 (by omega)
    have Hr := Lib.hid hr
    rw [hz]
    simp only [resI0]
    clear hz hr hc
    go_enter Try.func25, Try.ntmps25
    go_wp2_with (first | (go_at_call 45; refine (counted8_any _ _).mono ?_; rintro e w' ⟨rfl, rfl⟩) | (go_at_call 47; refine (day8_any _ Hr.out _).mono ?_; rintro e w' ⟨rfl, rfl⟩) | (go_at_call 46; refine (within1_any _ _ _ _).mono ?_; rintro e w' ⟨rfl, rfl⟩) | ((go_at_call 55; refine (stampOf8_any _ _ Hr.out (by omega) (by omega) _).mono ?_; rintro e w2 ⟨rfl, hb2⟩); obtain ⟨⟨c0, c1, c2, c3⟩, f0, f1, f2, f3⟩ := Gr.block4 (b := w.heap.size) hb2 (by repeat (first | exact heap_last _ _ | (refine heap_at _ _ _ ?_; (simp; done)) | (refine heap_old _ _ _ _ (by simp; try omega) ?_)))))
    exact bodyPost_ret (v := .tuple #[.agg #[.int .i64 (stH r (undrop r n)), .int .i64 (stM r (undrop r n)), .int .i64 (stS r (undrop r n)), .int .i64 (stF r (undrop r n))], .int .i64 0]) (by simp [results, Try.results25, go_sem, c0, c1, c2, c3]) rfl ⟨rfl, (by repeat (first | exact Gr.refl _ | assumption | refine Gr.alloc ?_ _ | refine Gr.drew ?_ | refine Gr.drewN ?_ _ | (refine Gr.put ?_ ?_ _; first | exact Nat.le_refl _ | (simp; done) | omega) | (apply Gr.after; assumption)))⟩
end Go.Proofs.Ytgjclbkcnilkbaa
