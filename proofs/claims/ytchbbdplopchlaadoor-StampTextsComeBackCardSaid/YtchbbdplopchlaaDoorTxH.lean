/- stamp.Read. (gentxh.py) -/
import Derived.Test.YtchbbdplopchlaaDoorTxG
import Derived.BigRegion
namespace Go.Proofs.YtchbbdplopchlaaDoor
open Go.RowKit Go.Sort
set_option linter.unusedVariables false
set_option linter.unusedSimpArgs false
theorem Read_mode (r : Int) (t : ByteArray) (w : World) (h : rateB r = false) :
    Calls Tryd.prog 7 #[.int .i64 r, .string t] w fun e w' => e = .returned (.tuple #[.agg #[.int .i64 0, .int .i64 0, .int .i64 0, .int .i64 0], .int .i64 16]) ∧ Gr w w' := by
  have hm : modeI r = 16 := by simp [modeI, h]
  clear h
  go_enter Tryd.func7, Tryd.ntmps7
  go_wp2_with (go_at_call 13; refine (mode_any _ _).mono ?_; rintro e w' ⟨rfl, rfl⟩)
  exact bodyPost_ret (v := .tuple #[.agg #[.int .i64 0, .int .i64 0, .int .i64 0, .int .i64 0], .int .i64 16]) (by simp [results, Tryd.results7, go_sem]) rfl ⟨rfl, (by repeat (first | exact Gr.refl _ | assumption | refine Gr.alloc ?_ _ | refine Gr.drew ?_ | refine Gr.drewN ?_ _ | (refine Gr.put ?_ ?_ _; first | exact Nat.le_refl _ | (simp; done) | omega) | (apply Gr.after; assumption)))⟩
set_option maxHeartbeats 4000000 in
theorem Read_size (r : Int) (t : ByteArray) (w : World) (h : rateB r = true) (ht : t.size ≠ 11) :
    Calls Tryd.prog 7 #[.int .i64 r, .string t] w fun e w' => e = .returned (.tuple #[.agg #[.int .i64 0, .int .i64 0, .int .i64 0, .int .i64 0], .int .i64 9]) ∧ Gr w w' := by
  have hm : modeI r = 0 := by simp [modeI, h]
  have h2 : ((t.size : Int) != 11) = true := by simp; omega
  clear h ht
  go_enter Tryd.func7, Tryd.ntmps7
  go_wp2_with (go_at_call 13; refine (mode_any _ _).mono ?_; rintro e w' ⟨rfl, rfl⟩)
  go_quiet (first | (go_at_call 14; exact quiet_left (mark_any _ _)))
  go_wp2
  exact bodyPost_ret (v := .tuple #[.agg #[.int .i64 0, .int .i64 0, .int .i64 0, .int .i64 0], .int .i64 9]) (by simp [results, Tryd.results7, go_sem]) rfl ⟨rfl, (by repeat (first | exact Gr.refl _ | assumption | refine Gr.alloc ?_ _ | refine Gr.drew ?_ | refine Gr.drewN ?_ _ | (refine Gr.put ?_ ?_ _; first | exact Nat.le_refl _ | (simp; done) | omega) | (apply Gr.after; assumption)))⟩
theorem u8_ne {c d : UInt8} (h : ¬ c = d) : ((c.toNat : Int) != d.toNat) = true := by
  simp only [bne_iff_ne]
  intro e
  exact h (UInt8.toNat_inj.1 (by omega))
/-- The signs between the numbers. -/
def sepB (r : Int) (b0 b1 b2 b3 b4 b5 b6 b7 b8 b9 b10 : UInt8) : Bool := decide (b2 = 58 ∧ b5 = 58 ∧ b8 = mkC r)
def rdP (r : Int) (b0 b1 b2 b3 b4 b5 b6 b7 b8 b9 b10 : UInt8) : Int := if sepB r b0 b1 b2 b3 b4 b5 b6 b7 b8 b9 b10 = false then 9 else if digB b0 b1 b2 b3 b4 b5 b6 b7 b8 b9 b10 = false then 9 else chkF r (numS b0 b1) (numS b3 b4) (numS b6 b7) (numS b9 b10)
def rpV (r : Int) (b0 b1 b2 b3 b4 b5 b6 b7 b8 b9 b10 : UInt8) : Value := outV (rdP r b0 b1 b2 b3 b4 b5 b6 b7 b8 b9 b10) (numS b0 b1) (numS b3 b4) (numS b6 b7) (numS b9 b10)
theorem rpV_sep {r : Int} {b0 b1 b2 b3 b4 b5 b6 b7 b8 b9 b10 : UInt8} (h : sepB r b0 b1 b2 b3 b4 b5 b6 b7 b8 b9 b10 = false) : rpV r b0 b1 b2 b3 b4 b5 b6 b7 b8 b9 b10 = .tuple #[.agg #[.int .i64 0, .int .i64 0, .int .i64 0, .int .i64 0], .int .i64 9] := by rw [rpV, rdP, if_pos h]; rfl
theorem rpV_dig {r : Int} {b0 b1 b2 b3 b4 b5 b6 b7 b8 b9 b10 : UInt8} (h : digB b0 b1 b2 b3 b4 b5 b6 b7 b8 b9 b10 = false) : rpV r b0 b1 b2 b3 b4 b5 b6 b7 b8 b9 b10 = .tuple #[.agg #[.int .i64 0, .int .i64 0, .int .i64 0, .int .i64 0], .int .i64 9] := by rw [rpV, rdP, if_pos h, ite_self]; rfl
theorem Gr.drewZ {a b : World} (n : Nat) (h : Gr a b) : Gr a (b.drewN n) := h.drewN n
set_option maxRecDepth 20000 in
set_option maxHeartbeats 8000000 in
theorem Read_sep (r : Int) (b0 b1 b2 b3 b4 b5 b6 b7 b8 b9 b10 : UInt8) (w : World) (h : rateB r = true) (hs : sepB r b0 b1 b2 b3 b4 b5 b6 b7 b8 b9 b10 = false) :
    Calls Tryd.prog 7 #[.int .i64 r, .string ⟨#[b0, b1, b2, b3, b4, b5, b6, b7, b8, b9, b10]⟩] w fun e w' => e = .returned (.tuple #[.agg #[.int .i64 0, .int .i64 0, .int .i64 0, .int .i64 0], .int .i64 9]) ∧ Gr w w' := by
  obtain ⟨t, HT⟩ : ∃ t, Hid (t = (⟨#[b0, b1, b2, b3, b4, b5, b6, b7, b8, b9, b10]⟩ : ByteArray)) := ⟨_, Lib.hid rfl⟩
  have hts : t.size = 11 := by rw [HT.out]; rfl
  have h2 : ((t.size : Int) != 11) = false := by rw [hts]; rfl
  have hm : modeI r = 0 := by simp [modeI, h]
  have hI2 : 2 < t.size := by omega
  have hI5 : 5 < t.size := by omega
  have hI8 : 8 ≤ t.size := by omega
  have hI9 : 9 ≤ t.size := by omega
  have e2 : t[2] = b2 := by simp only [HT.out]; rfl
  have e5 : t[5] = b5 := by simp only [HT.out]; rfl
  have x8 : t.extract 8 9 = ⟨#[b8]⟩ := by rw [HT.out]; rfl
  have hs := of_decide_eq_false hs
  rw [← HT.out]
  by_cases k2 : b2 = 58
  · have g2 : ((b2.toNat : Int) != 58) = false := by rw [k2]; rfl
    by_cases k5 : b5 = 58
    · have g5 : ((b5.toNat : Int) != 58) = false := by rw [k5]; rfl
      have g8 : ([b8] == [mkC r]) = false := by rw [beq_eq_false_iff_ne]; intro e; injection e with e _; exact hs ⟨k2, k5, e⟩
      clear hs k2 k5 h
      go_enter Tryd.func7, Tryd.ntmps7
      go_wp2_with (go_at_call 13; refine (mode_any _ _).mono ?_; rintro e w' ⟨rfl, rfl⟩)
      go_quiet (first | (go_at_call 14; exact quiet_left (mark_any _ _)))
      go_wp2
      exact bodyPost_ret (v := .tuple #[.agg #[.int .i64 0, .int .i64 0, .int .i64 0, .int .i64 0], .int .i64 9]) (by simp [results, Tryd.results7, go_sem]) rfl ⟨rfl, (by repeat (first | exact Gr.refl _ | assumption | refine Gr.alloc ?_ _ | refine Gr.drew ?_ | refine Gr.drewN ?_ _ | (refine Gr.put ?_ ?_ _; first | exact Nat.le_refl _ | (simp; done) | omega) | (apply Gr.after; assumption)))⟩
    · have g5 : ((b5.toNat : Int) != 58) = true := u8_ne k5
      clear hs k2 k5 h
      go_enter Tryd.func7, Tryd.ntmps7
      go_wp2_with (go_at_call 13; refine (mode_any _ _).mono ?_; rintro e w' ⟨rfl, rfl⟩)
      go_quiet (first | (go_at_call 14; exact quiet_left (mark_any _ _)))
      go_wp2
      exact bodyPost_ret (v := .tuple #[.agg #[.int .i64 0, .int .i64 0, .int .i64 0, .int .i64 0], .int .i64 9]) (by simp [results, Tryd.results7, go_sem]) rfl ⟨rfl, (by repeat (first | exact Gr.refl _ | assumption | refine Gr.alloc ?_ _ | refine Gr.drew ?_ | refine Gr.drewN ?_ _ | (refine Gr.put ?_ ?_ _; first | exact Nat.le_refl _ | (simp; done) | omega) | (apply Gr.after; assumption)))⟩
  · have g2 : ((b2.toNat : Int) != 58) = true := u8_ne k2
    clear hs k2 h
    go_enter Tryd.func7, Tryd.ntmps7
    go_wp2_with (go_at_call 13; refine (mode_any _ _).mono ?_; rintro e w' ⟨rfl, rfl⟩)
    go_quiet (first | (go_at_call 14; exact quiet_left (mark_any _ _)))
    go_wp2
    exact bodyPost_ret (v := .tuple #[.agg #[.int .i64 0, .int .i64 0, .int .i64 0, .int .i64 0], .int .i64 9]) (by simp [results, Tryd.results7, go_sem]) rfl ⟨rfl, (by repeat (first | exact Gr.refl _ | assumption | refine Gr.alloc ?_ _ | refine Gr.drew ?_ | refine Gr.drewN ?_ _ | (refine Gr.put ?_ ?_ _; first | exact Nat.le_refl _ | (simp; done) | omega) | (apply Gr.after; assumption)))⟩
def relP (w : World) (b0 b1 b2 b3 b4 b5 b6 b7 b8 b9 b10 : UInt8) (i : Value) (wr : World) : Prop := ((i = .int .i64 0 ∧ Hid (True) ∧ Box4 wr (w.heap.size + 1) (.int .i64 0) (.int .i64 0) (.int .i64 0) (.int .i64 0)) ∨ (i = .int .i64 1 ∧ Hid ((isD b0 = true ∧ isD b1 = true)) ∧ Box4 wr (w.heap.size + 1) (.int .i64 (numS b0 b1)) (.int .i64 0) (.int .i64 0) (.int .i64 0)) ∨ (i = .int .i64 2 ∧ Hid ((isD b0 = true ∧ isD b1 = true) ∧ (isD b3 = true ∧ isD b4 = true)) ∧ Box4 wr (w.heap.size + 1) (.int .i64 (numS b0 b1)) (.int .i64 (numS b3 b4)) (.int .i64 0) (.int .i64 0)) ∨ (i = .int .i64 3 ∧ Hid ((isD b0 = true ∧ isD b1 = true) ∧ (isD b3 = true ∧ isD b4 = true) ∧ (isD b6 = true ∧ isD b7 = true)) ∧ Box4 wr (w.heap.size + 1) (.int .i64 (numS b0 b1)) (.int .i64 (numS b3 b4)) (.int .i64 (numS b6 b7)) (.int .i64 0)) ∨ (i = .int .i64 4 ∧ Hid ((isD b0 = true ∧ isD b1 = true) ∧ (isD b3 = true ∧ isD b4 = true) ∧ (isD b6 = true ∧ isD b7 = true) ∧ (isD b9 = true ∧ isD b10 = true)) ∧ Box4 wr (w.heap.size + 1) (.int .i64 (numS b0 b1)) (.int .i64 (numS b3 b4)) (.int .i64 (numS b6 b7)) (.int .i64 (numS b9 b10)))) ∧ Box4 wr w.heap.size (.int .i64 0) (.int .i64 0) (.int .i64 0) (.int .i64 0) ∧ Gr w wr
end Go.Proofs.YtchbbdplopchlaaDoor
