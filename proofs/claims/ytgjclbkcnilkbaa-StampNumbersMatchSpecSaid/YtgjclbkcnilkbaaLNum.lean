/- The walk of StampNumbersMatchSpec. -/
import Derived.Test.YtgjclbkcnilkbaaStF
import Derived.Deep.RegionHeld3
namespace Go.Proofs.Ytgjclbkcnilkbaa
open Go.RowKit
set_option linter.unusedVariables false
set_option linter.unusedSimpArgs false

theorem stampNumbersMatchSpec_walk (r h m s f n : Int) (w : World) :
    Calls Try.prog 6 #[.int .i64 r, .agg #[.int .i64 h, .int .i64 m, .int .i64 s, .int .i64 f], .int .i64 n] w fun e w' => e = .returned (.bool true) ∧ Gr w w' := by
  go_enter Try.func6, Try.ntmps6
  go_wp2_with (first | (go_at_call 16; refine (Day_any _ _).mono ?_; rintro e w2 ⟨rfl, rfl⟩) | (go_at_call 19; refine (Day8_any _ _).mono ?_; rintro e w2 ⟨rfl, rfl⟩))
  go_region_held3 (fun w' => w'.cell? ⟨w.heap.size, 0, none⟩ = some (.int .i64 h) ∧ w'.cell? ⟨w.heap.size, 1, none⟩ = some (.int .i64 m) ∧ w'.cell? ⟨w.heap.size, 2, none⟩ = some (.int .i64 s) ∧ w'.cell? ⟨w.heap.size, 3, none⟩ = some (.int .i64 f)) (first | (simp [go_sem]; done) | (refine ⟨?_, ?_, ?_, ?_⟩ <;> refine hb.cell ?_ <;> first | assumption | (simp [go_sem]; done) | (simp [*]; done))) (first | (go_at_call 20; refine (Check_any _ _ _ _ _ _).mono ?_; rintro e w1 ⟨rfl, hb⟩) | (go_at_call 21; refine (Check8_any _ _ _ _ _ _).mono ?_; rintro e w1 ⟨rfl, hb⟩))
  rename_i hh
  obtain ⟨k0, k1, k2, k3⟩ := hh
  go_wp2_with (first | ((go_at_call 22; refine (Number_any _ _ _ _ _ _).mono ?_; rintro e w1 ⟨rfl, hb⟩); have k0 := hb.cell k0; have k1 := hb.cell k1; have k2 := hb.cell k2; have k3 := hb.cell k3) | ((go_at_call 23; refine (Number8_any _ _ _ _ _ _).mono ?_; rintro e w1 ⟨rfl, hb⟩); have k0 := hb.cell k0; have k1 := hb.cell k1; have k2 := hb.cell k2; have k3 := hb.cell k3) | ((go_at_call 24; refine (StampOf_any _ _ _).mono ?_; rintro e w1 ⟨rfl, hb⟩); have k0 := hb.cell k0; have k1 := hb.cell k1; have k2 := hb.cell k2; have k3 := hb.cell k3) | ((go_at_call 25; refine (StampOf8_any _ _ _).mono ?_; rintro e w1 ⟨rfl, hb⟩); obtain ⟨j0, j1, j2, j3⟩ := Gr.cells4 hb; have hz := Gr.lt hb))
  go_ret
  exact ⟨rfl, (by repeat (first | exact Gr.refl _ | assumption | refine Gr.alloc ?_ _ | refine Gr.drew ?_ | refine Gr.drewN ?_ _ | refine Gr.set ?_ (by first | exact Nat.le_refl _ | (simp; done) | omega) _ | refine Gr.trans ?_ (by assumption)))⟩
end Go.Proofs.Ytgjclbkcnilkbaa
