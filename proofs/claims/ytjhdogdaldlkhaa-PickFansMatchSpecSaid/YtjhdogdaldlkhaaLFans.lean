/- The walk of PickFansMatchSpec. -/
import Derived.Test.YtjhdogdaldlkhaaFnD
namespace Go.Proofs.Ytjhdogdaldlkhaa
open Go.RowKit
set_option linter.unusedVariables false
set_option linter.unusedSimpArgs false

set_option maxHeartbeats 2000000 in
theorem pickFansMatchSpec_walk (cs : Array Value) (f : FanD) (n : Int) (w : World) (hf : fanC.is w cs.toList f) :
    Calls Try.prog 4 #[.agg cs, .int .i64 n] w fun e w' => e = .returned (.bool true) ∧ Gr w w' := by
  obtain ⟨c, b, g⟩ := f
  obtain ⟨v, hcs, hl, -, -⟩ := hf
  obtain rfl : cs = #[v, .int .i64 b, .int .i64 g] := by cases cs; simpa using hcs
  clear hcs
  simp only at hl
  obtain ⟨a, cn, cap, rfl, HCN, hcn, hcap⟩ := sliceC_open hl
  have HL := Lib.hid hl; clear hl
  have g0 : Gr w (w.alloc (.cells #[.slice a cn cap, .int .i64 b, .int .i64 g] 33)) := (by repeat (first | exact Gr.refl _ | assumption | refine Gr.alloc ?_ _ | refine Gr.drew ?_ | refine Gr.drewN ?_ _ | (refine Gr.put ?_ ?_ _; first | exact Nat.le_refl _ | (simp; done) | omega) | (apply Gr.after; assumption)))
  have K : Box3 (w.alloc (.cells #[.slice a cn cap, .int .i64 b, .int .i64 g] 33)) w.heap.size (.slice a cn cap) (.int .i64 b) (.int .i64 g) := Box3.of (by repeat (first | exact heap_last _ _ | (refine heap_at _ _ _ ?_; (simp; done)) | (refine heap_old _ _ _ _ (by simp; try omega) ?_)))
  by_cases hE : lvE c b g n = 0
  · have hfn : fanF c b g = 0 ∧ withinB n 0 400 = true := by
      unfold lvE at hE
      split at hE
      · rename_i h; refine ⟨h, ?_⟩; split at hE
        · assumption
        · cases hE
      · rename_i h; exact absurd hE h
    have HF := Lib.hid hfn.1; have HN := Lib.hid hfn.2
    clear hE hfn
    go_enter Try.func4, Try.ntmps4
    go_wp2_with (first
      | (go_at_call 13; (with_reducible refine (Levels_ok c b g n _ _ ((sliceC intC).mono HL.out g0) HF.out HN.out).mono ?_); rintro e w1 ⟨v1, rfl, h1, hb1⟩; have H1 := Lib.hid h1; clear h1; replace K := K.mono hb1)
      | (go_at_call 14; (with_reducible refine (Levels4_ok c b g n _ _ ((sliceC intC).mono HL.out (g0.trans hb1)) HF.out HN.out).mono ?_); rintro e w2 ⟨v2, rfl, h2, hb2⟩; have H2 := Lib.hid h2; clear h2; replace K := K.mono hb2))
    replace H1 := Lib.hid ((sliceC intC).mono H1.out hb2)
    have gW := (g0.trans hb1).trans hb2
    go_region_held3 (fun w' => Box3 w' w.heap.size (.slice a cn cap) (.int .i64 b) (.int .i64 g)) ((refine Box3.mono K ?_; (repeat (first | exact Gr.refl _ | assumption | refine Gr.alloc ?_ _ | refine Gr.drew ?_ | refine Gr.drewN ?_ _ | (refine Gr.put ?_ ?_ _; first | exact Nat.le_refl _ | (simp; done) | omega) | (apply Gr.after; assumption))); done)) (first
      | (go_at_call 15; (with_reducible refine (CheckFan_any c _ _ _ _ (by exact (sliceC intC).mono HL.out (by repeat (first | exact Gr.refl _ | assumption | refine Gr.alloc ?_ _ | refine Gr.drew ?_ | refine Gr.drewN ?_ _ | (refine Gr.put ?_ ?_ _; first | exact Nat.le_refl _ | (simp; done) | omega) | (apply Gr.after; assumption))))).mono ?_); rintro e w3 ⟨rfl, hb3⟩)
      | (go_at_call 16; (with_reducible refine (CheckFan4_any c _ _ _ _ (by exact (sliceC intC).mono HL.out (by repeat (first | exact Gr.refl _ | assumption | refine Gr.alloc ?_ _ | refine Gr.drew ?_ | refine Gr.drewN ?_ _ | (refine Gr.put ?_ ?_ _; first | exact Nat.le_refl _ | (simp; done) | omega) | (apply Gr.after; assumption))))).mono ?_); rintro e w4 ⟨rfl, hb4⟩)
      | (go_at_call 17; (with_reducible refine (equalI_any _ _ _ _ _ (by exact (sliceC intC).mono H1.out (by repeat (first | exact Gr.refl _ | assumption | refine Gr.alloc ?_ _ | refine Gr.drew ?_ | refine Gr.drewN ?_ _ | (refine Gr.put ?_ ?_ _; first | exact Nat.le_refl _ | (simp; done) | omega) | (apply Gr.after; assumption)))) (by exact (sliceC intC).mono H2.out (by repeat (first | exact Gr.refl _ | assumption | refine Gr.alloc ?_ _ | refine Gr.drew ?_ | refine Gr.drewN ?_ _ | (refine Gr.put ?_ ?_ _; first | exact Nat.le_refl _ | (simp; done) | omega) | (apply Gr.after; assumption))))).mono ?_); rintro e w5 ⟨rfl, q, rfl⟩; rw [decide_eq_true (Eq.refl (fanL c b.toNat g.toNat n.toNat))]))
    all_goals
      go_wp2
      go_ret
      exact ⟨rfl, (by repeat (first | exact Gr.refl _ | assumption | refine Gr.alloc ?_ _ | refine Gr.drew ?_ | refine Gr.drewN ?_ _ | (refine Gr.put ?_ ?_ _; first | exact Nat.le_refl _ | (simp; done) | omega) | (apply Gr.after; assumption)))⟩
  · have HE := Lib.hid hE; clear hE
    have nil1 : ∀ W : World, (sliceC intC).is W [.slice none 0 0] [] := fun W => .inl ⟨rfl, rfl⟩
    have HNIL := Lib.hid nil1; clear nil1
    go_enter Try.func4, Try.ntmps4
    go_wp2_with (first
      | (go_at_call 13; (with_reducible refine (Levels_no c b g n _ _ ((sliceC intC).mono HL.out g0) HE.out).mono ?_); rintro e w1 ⟨rfl, hb1⟩; replace K := K.mono hb1)
      | (go_at_call 14; (with_reducible refine (Levels4_no c b g n _ _ ((sliceC intC).mono HL.out (g0.trans hb1)) HE.out).mono ?_); rintro e w2 ⟨rfl, hb2⟩; replace K := K.mono hb2))
    have gW := (g0.trans hb1).trans hb2
    go_region_held3 (fun w' => Box3 w' w.heap.size (.slice a cn cap) (.int .i64 b) (.int .i64 g)) ((refine Box3.mono K ?_; (repeat (first | exact Gr.refl _ | assumption | refine Gr.alloc ?_ _ | refine Gr.drew ?_ | refine Gr.drewN ?_ _ | (refine Gr.put ?_ ?_ _; first | exact Nat.le_refl _ | (simp; done) | omega) | (apply Gr.after; assumption))); done)) (first
      | (go_at_call 15; (with_reducible refine (CheckFan_any c _ _ _ _ (by exact (sliceC intC).mono HL.out (by repeat (first | exact Gr.refl _ | assumption | refine Gr.alloc ?_ _ | refine Gr.drew ?_ | refine Gr.drewN ?_ _ | (refine Gr.put ?_ ?_ _; first | exact Nat.le_refl _ | (simp; done) | omega) | (apply Gr.after; assumption))))).mono ?_); rintro e w3 ⟨rfl, hb3⟩)
      | (go_at_call 16; (with_reducible refine (CheckFan4_any c _ _ _ _ (by exact (sliceC intC).mono HL.out (by repeat (first | exact Gr.refl _ | assumption | refine Gr.alloc ?_ _ | refine Gr.drew ?_ | refine Gr.drewN ?_ _ | (refine Gr.put ?_ ?_ _; first | exact Nat.le_refl _ | (simp; done) | omega) | (apply Gr.after; assumption))))).mono ?_); rintro e w4 ⟨rfl, hb4⟩)
      | (go_at_call 17; (with_reducible refine (equalI_any [] [] _ _ _ (HNIL.out _) (HNIL.out _)).mono ?_); rintro e w5 ⟨rfl, q, rfl⟩; rw [decide_eq_true (Eq.refl ([] : List Int))]))
    all_goals
      go_wp2
      go_ret
      exact ⟨rfl, (by repeat (first | exact Gr.refl _ | assumption | refine Gr.alloc ?_ _ | refine Gr.drew ?_ | refine Gr.drewN ?_ _ | (refine Gr.put ?_ ?_ _; first | exact Nat.le_refl _ | (simp; done) | omega) | (apply Gr.after; assumption)))⟩
end Go.Proofs.Ytjhdogdaldlkhaa
