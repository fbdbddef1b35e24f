/- Proved: StampTimesMatchSpec returns true for every input. -/
import Derived.Test.YtgjclbkcnilkbaaStB
namespace Go.Proofs.Ytgjclbkcnilkbaa
open Go.ChangeShapes Go.WideShapes Go.ChangeAt Go.RowKit
set_option linter.unusedVariables false
set_option linter.unusedSimpArgs false

theorem stampTimesMatchSpec_walk (a0 : Int) (a1 : Int) (a2 : Int) (w : World) :
    Calls Try.prog 3 #[.int .i64 a0, .int .i64 a1, .int .i64 a2] w fun e w' => e = .returned (.bool true) ∧ Below w.heap.size w w' := by
  go_enter Try.func3, Try.ntmps3
  go_wp2_with (first | (go_at_call 12; refine (Millis_any _ _ _).mono ?_; rintro e w1 ⟨rfl, hb⟩) | (go_at_call 13; refine (Millis8_any _ _ _).mono ?_; rintro e w2 ⟨rfl, rfl⟩) | (go_at_call 14; refine (Frames_any _ _ _).mono ?_; rintro e w3 ⟨rfl, rfl⟩) | (go_at_call 15; refine (Frames8_any _ _ _).mono ?_; rintro e w4 ⟨rfl, rfl⟩))
  go_ret
  exact ⟨rfl, hb⟩
end Go.Proofs.Ytgjclbkcnilkbaa
