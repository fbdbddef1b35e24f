/- The reference's fractions, small ones. -/
import Derived.Test.YtjhdogdaldlkhaaNtD
import Derived.Test.YtjhdogdaldlkhaaBs3
namespace Go.Proofs.Ytjhdogdaldlkhaa
open Go.RowKit
set_option linter.unusedVariables false
set_option linter.unusedSimpArgs false

theorem dig_len6 {n : Nat} (h : n < 1000000000000000000000000000) : (dig n).length ≤ 1000000 := Nat.le_trans (dig_len3 h) (by omega)
theorem dig_len0 (n : Nat) (h : n < 1000000000000000000000000000) : ∃ k, Hid (k = (dig n).length) ∧ k ≤ 3 := ⟨_, Lib.hid rfl, dig_len3 h⟩
/-- The call returns this fraction, in memory of its own. -/
def RetF (s : Bool) (n d : Nat) (w : World) (e : Ending) (w' : World) : Prop := ∃ v u, e = .returned (.agg #[.bool s, v, u]) ∧ NatIs w' v n ∧ NatIs w' u d ∧ Fresh w.heap.size v ∧ Fresh w.heap.size u ∧ Gr w w'
theorem Fresh.le {B C : Nat} {v : Value} (h : Fresh B v) (hc : C ≤ B) : Fresh C v := by
  cases v with
  | slice a n c => cases a with
    | none => trivial
    | some a => exact Nat.le_trans hc h
  | _ => trivial
theorem NatIs.shape {w : World} {v : Value} {n : Nat} (h : NatIs w v n) (hn : n < 1000000000000000000000000000) : ∃ (a : Option Addr) (k cap : Nat), v = .slice a k cap ∧ k ≤ 3 ∧ cap ≤ 9223372036854775807 := by
  obtain ⟨a, k, cap, h1, h2, _, h4⟩ := sliceC_open h
  exact ⟨a, k, cap, h1, by rw [h2.out]; exact dig_len3 hn, h4⟩
set_option maxHeartbeats 1000000 in
theorem part_any (a b : Nat) (w : World) (ha : a ≤ 9223372036854775807) (hb : b ≤ 9223372036854775807) :
    Calls Try.prog 124 #[.int .i64 a, .int .i64 b] w (RetF false a b w) := by
  have K : Box3 (w.alloc (.cells #[.bool false, .slice none 0 0, .slice none 0 0] 172)) w.heap.size (.bool false) (.slice none 0 0) (.slice none 0 0) := Box3.of (by repeat (first | exact heap_last _ _ | (refine heap_at _ _ _ ?_; (simp; done)) | (refine heap_old _ _ _ _ (by simp; try omega) ?_)))
  have g0 : Gr w (w.alloc (.cells #[.bool false, .slice none 0 0, .slice none 0 0] 172)) := (by repeat (first | exact Gr.refl _ | assumption | refine Gr.alloc ?_ _ | refine Gr.drew ?_ | refine Gr.drewN ?_ _ | (refine Gr.put ?_ ?_ _; first | exact Nat.le_refl _ | (simp; done) | omega) | (apply Gr.after; assumption)))
  have hs0 : w.heap.size < (w.alloc (.cells #[.bool false, .slice none 0 0, .slice none 0 0] 172)).heap.size := by simp
  go_enter Try.func124, Try.ntmps124
  go_wp2_with (first
    | (go_at_call 141; (with_reducible refine (small_any a _ ha).mono ?_); rintro e w1 ⟨v1, rfl, h1, f1, hb1⟩; replace K := K.mono hb1; have hs1 := hb1.size; obtain ⟨a1, k1, c1, rfl, -, -⟩ := h1.shape (by omega); have H1 := Lib.hid h1; have F1 := Lib.hid f1; clear h1 f1)
    | (go_at_call 141; (with_reducible refine (small_any b _ hb).mono ?_); rintro e w2 ⟨v2, rfl, h2, f2, hb2⟩; replace K := K.mono hb2; have hs2 := hb2.size; obtain ⟨a2, k2, c2, rfl, -, -⟩ := h2.shape (by omega); have H2 := Lib.hid h2; have F2 := Lib.hid f2; clear h2 f2))
  have K' : Box3 (((w2.setCell ⟨w.heap.size, 0, none⟩ (.bool false)).setCell ⟨w.heap.size, 1, none⟩ (.slice a1 k1 c1)).setCell ⟨w.heap.size, 2, none⟩ (.slice a2 k2 c2)) w.heap.size (.bool false) (.slice a1 k1 c1) (.slice a2 k2 c2) := K.st0.st1.st2
  refine bodyPost_ret (v := .agg #[.bool false, .slice a1 k1 c1, .slice a2 k2 c2]) (by simp [results, Try.results124, go_sem, K']) rfl ?_
  have q1 := H1.out.mono hb2
  exact ⟨_, _, rfl, ((q1.off F1.out hs0).off F1.out hs0).off F1.out hs0, ((H2.out.off F2.out (by omega)).off F2.out (by omega)).off F2.out (by omega), F1.out.le (by omega), F2.out.le (by omega), ((((g0.trans hb1).trans hb2).put (by omega) _).put (by omega) _).put (by omega) _⟩
theorem small_one (w : World) : Calls Try.prog 141 #[.int .i64 1] w (RetN 1 w) := small_any 1 w (by omega)
set_option maxHeartbeats 1000000 in
theorem whole_pos (a : Nat) (w : World) (ha : a ≤ 9223372036854775807) :
    Calls Try.prog 137 #[.int .i64 a] w (RetF false a 1 w) := by
  have hneg : decide ((a : Int) < 0) = false := decide_eq_false (by omega)
  have K : Box3 (w.alloc (.cells #[.bool false, .slice none 0 0, .slice none 0 0] 172)) w.heap.size (.bool false) (.slice none 0 0) (.slice none 0 0) := Box3.of (by repeat (first | exact heap_last _ _ | (refine heap_at _ _ _ ?_; (simp; done)) | (refine heap_old _ _ _ _ (by simp; try omega) ?_)))
  have g0 : Gr w (w.alloc (.cells #[.bool false, .slice none 0 0, .slice none 0 0] 172)) := (by repeat (first | exact Gr.refl _ | assumption | refine Gr.alloc ?_ _ | refine Gr.drew ?_ | refine Gr.drewN ?_ _ | (refine Gr.put ?_ ?_ _; first | exact Nat.le_refl _ | (simp; done) | omega) | (apply Gr.after; assumption)))
  have hs0 : w.heap.size < (w.alloc (.cells #[.bool false, .slice none 0 0, .slice none 0 0] 172)).heap.size := by simp
  go_enter Try.func137, Try.ntmps137
  go_wp2_with (first
    | (go_at_call 141; (with_reducible refine (small_any a _ ha).mono ?_); rintro e w1 ⟨v1, rfl, h1, f1, hb1⟩; replace K := K.mono hb1; have hs1 := hb1.size; obtain ⟨a1, k1, c1, rfl, -, -⟩ := h1.shape (by omega); have H1 := Lib.hid h1; have F1 := Lib.hid f1; clear h1 f1)
    | (go_at_call 141; (with_reducible refine (small_one _).mono ?_); rintro e w2 ⟨v2, rfl, h2, f2, hb2⟩; replace K := K.mono hb2; have hs2 := hb2.size; obtain ⟨a2, k2, c2, rfl, -, -⟩ := h2.shape (by omega); have H2 := Lib.hid h2; have F2 := Lib.hid f2; clear h2 f2))
  have K' : Box3 (((w2.setCell ⟨w.heap.size, 0, none⟩ (.bool false)).setCell ⟨w.heap.size, 1, none⟩ (.slice a1 k1 c1)).setCell ⟨w.heap.size, 2, none⟩ (.slice a2 k2 c2)) w.heap.size (.bool false) (.slice a1 k1 c1) (.slice a2 k2 c2) := K.st0.st1.st2
  refine bodyPost_ret (v := .agg #[.bool false, .slice a1 k1 c1, .slice a2 k2 c2]) (by simp [results, Try.results137, go_sem, K']) rfl ?_
  have q1 := H1.out.mono hb2
  exact ⟨_, _, rfl, ((q1.off F1.out hs0).off F1.out hs0).off F1.out hs0, ((H2.out.off F2.out (by omega)).off F2.out (by omega)).off F2.out (by omega), F1.out.le (by omega), F2.out.le (by omega), ((((g0.trans hb1).trans hb2).put (by omega) _).put (by omega) _).put (by omega) _⟩
set_option maxHeartbeats 1000000 in
theorem whole_neg (a : Nat) (w : World) (ha : a ≤ 9223372036854775807) (h0 : 0 < a) :
    Calls Try.prog 137 #[.int .i64 (-(a : Int))] w (RetF true a 1 w) := by
  have hneg : -(a : Int) < 0 := by omega
  have K : Box3 (w.alloc (.cells #[.bool false, .slice none 0 0, .slice none 0 0] 172)) w.heap.size (.bool false) (.slice none 0 0) (.slice none 0 0) := Box3.of (by repeat (first | exact heap_last _ _ | (refine heap_at _ _ _ ?_; (simp; done)) | (refine heap_old _ _ _ _ (by simp; try omega) ?_)))
  have g0 : Gr w (w.alloc (.cells #[.bool false, .slice none 0 0, .slice none 0 0] 172)) := (by repeat (first | exact Gr.refl _ | assumption | refine Gr.alloc ?_ _ | refine Gr.drew ?_ | refine Gr.drewN ?_ _ | (refine Gr.put ?_ ?_ _; first | exact Nat.le_refl _ | (simp; done) | omega) | (apply Gr.after; assumption)))
  have hs0 : w.heap.size < (w.alloc (.cells #[.bool false, .slice none 0 0, .slice none 0 0] 172)).heap.size := by simp
  go_enter Try.func137, Try.ntmps137
  go_wp2_with (first
    | (go_at_call 141; (with_reducible refine (small_any a _ ha).mono ?_); rintro e w1 ⟨v1, rfl, h1, f1, hb1⟩; replace K := K.mono hb1; have hs1 := hb1.size; obtain ⟨a1, k1, c1, rfl, -, -⟩ := h1.shape (by omega); have H1 := Lib.hid h1; have F1 := Lib.hid f1; clear h1 f1)
    | (go_at_call 141; (with_reducible refine (small_one _).mono ?_); rintro e w2 ⟨v2, rfl, h2, f2, hb2⟩; replace K := K.mono hb2; have hs2 := hb2.size; obtain ⟨a2, k2, c2, rfl, -, -⟩ := h2.shape (by omega); have H2 := Lib.hid h2; have F2 := Lib.hid f2; clear h2 f2))
  have K' : Box3 (((w2.setCell ⟨w.heap.size, 0, none⟩ (.bool true)).setCell ⟨w.heap.size, 1, none⟩ (.slice a1 k1 c1)).setCell ⟨w.heap.size, 2, none⟩ (.slice a2 k2 c2)) w.heap.size (.bool true) (.slice a1 k1 c1) (.slice a2 k2 c2) := K.st0.st1.st2
  refine bodyPost_ret (v := .agg #[.bool true, .slice a1 k1 c1, .slice a2 k2 c2]) (by simp [results, Try.results137, go_sem, K']) rfl ?_
  have q1 := H1.out.mono hb2
  exact ⟨_, _, rfl, ((q1.off F1.out hs0).off F1.out hs0).off F1.out hs0, ((H2.out.off F2.out (by omega)).off F2.out (by omega)).off F2.out (by omega), F1.out.le (by omega), F2.out.le (by omega), ((((g0.trans hb1).trans hb2).put (by omega) _).put (by omega) _).put (by omega) _⟩
set_option maxHeartbeats 1000000 in
theorem reduced_any (s : Bool) (a1 : Option Addr) (k1 c1 : Nat) (a2 : Option Addr) (k2 c2 : Nat) (w : World) (h1 : k1 ≤ 5) (h2 : k2 ≤ 5) :
    Calls Try.prog 154 #[.agg #[.bool s, .slice a1 k1 c1, .slice a2 k2 c2]] w fun e w' => e = .returned (.agg #[.bool s, .slice a1 k1 c1, .slice a2 k2 c2]) ∧ Gr w w' := by
  go_enter Try.func154, Try.ntmps154
  go_wp2
  refine bodyPost_ret (v := .agg #[.bool s, .slice a1 k1 c1, .slice a2 k2 c2]) (by simp [results, Try.results154, go_sem]) rfl ⟨rfl, (by repeat (first | exact Gr.refl _ | assumption | refine Gr.alloc ?_ _ | refine Gr.drew ?_ | refine Gr.drewN ?_ _ | (refine Gr.put ?_ ?_ _; first | exact Nat.le_refl _ | (simp; done) | omega) | (apply Gr.after; assumption)))⟩
end Go.Proofs.Ytjhdogdaldlkhaa
