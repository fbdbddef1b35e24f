/- The reference's Read. -/
import Derived.Test.YtchbbdplopchlaaDoorTxE
namespace Go.Proofs.YtchbbdplopchlaaDoor
open Go.RowKit Go.Sort
set_option linter.unusedVariables false
set_option linter.unusedSimpArgs false
theorem Read8_mode (r : Int) (t : ByteArray) (w : World) (h : rateB r = false) :
    Calls Tryd.prog 8 #[.int .i64 r, .string t] w fun e w' => e = .returned (.tuple #[.agg #[.int .i64 0, .int .i64 0, .int .i64 0, .int .i64 0], .int .i64 16]) ∧ Gr w w' := by
  have H0 := Lib.hid (cnt8_no h)
  clear h
  go_enter Tryd.func8, Tryd.ntmps8
  go_wp2_with (go_at_call 16; refine (counted8_any _ _).mono ?_; rintro e w1 ⟨rfl, rfl⟩; rw [H0.out])
  exact bodyPost_ret (v := .tuple #[.agg #[.int .i64 0, .int .i64 0, .int .i64 0, .int .i64 0], .int .i64 16]) (by simp [results, Tryd.results8, go_sem]) rfl ⟨rfl, (by repeat (first | exact Gr.refl _ | assumption | refine Gr.alloc ?_ _ | refine Gr.drew ?_ | refine Gr.drewN ?_ _ | (refine Gr.put ?_ ?_ _; first | exact Nat.le_refl _ | (simp; done) | omega) | (apply Gr.after; assumption)))⟩
theorem Read8_size (r : Int) (t : ByteArray) (w : World) (h : rateB r = true) (ht : t.size ≠ 11) :
    Calls Tryd.prog 8 #[.int .i64 r, .string t] w fun e w' => e = .returned (.tuple #[.agg #[.int .i64 0, .int .i64 0, .int .i64 0, .int .i64 0], .int .i64 9]) ∧ Gr w w' := by
  have H0 := Lib.hid (cnt8_yes h)
  clear h
  have h1 : (cnt8 r == 0) = false := by have := H0.out; simp; omega
  have h2 : ((t.size : Int) != 11) = true := by simp; omega
  generalize hc : cnt8 r = c at *
  have HC := Lib.hid hc; clear hc
  clear ht
  go_enter Tryd.func8, Tryd.ntmps8
  go_wp2_with (go_at_call 16; refine (counted8_any _ _).mono ?_; rintro e w1 ⟨rfl, rfl⟩; rw [HC.out])
  exact bodyPost_ret (v := .tuple #[.agg #[.int .i64 0, .int .i64 0, .int .i64 0, .int .i64 0], .int .i64 9]) (by simp [results, Tryd.results8, go_sem]) rfl ⟨rfl, (by repeat (first | exact Gr.refl _ | assumption | refine Gr.alloc ?_ _ | refine Gr.drew ?_ | refine Gr.drewN ?_ _ | (refine Gr.put ?_ ?_ _; first | exact Nat.le_refl _ | (simp; done) | omega) | (apply Gr.after; assumption)))⟩
/-- A digit's number. -/
def dv (b : UInt8) : Int := (b.toNat : Int) - 48
/-- What is read of two bytes ahead of place k. -/
def vk (k j : Nat) (a b : UInt8) : Int := if k ≤ 3 * j then 0 else if k = 3 * j + 1 then dv a else 10 * dv a + dv b
theorem isD_dv {b : UInt8} (h : isD b = true) : 0 ≤ dv b ∧ dv b ≤ 9 := by
  have := of_decide_eq_true h
  unfold dv; omega
theorem dv_within (b : UInt8) : withinB (dv b) 0 9 = isD b := by
  unfold withinB isD dv
  rw [Bool.eq_iff_iff, decide_eq_true_iff, decide_eq_true_iff]
  omega
end Go.Proofs.YtchbbdplopchlaaDoor
