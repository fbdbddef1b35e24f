/- A world in which the library's tables are laid; the table of strconv out of a row's list. -/
import Derived.Test.YtchbbdplopchlaaDoorLTx
import Derived.Test.YtchbbdplopchlaaDoorFr
import Derived.Test.YtchbbdplopchlaaDoorCards
import Derived.Test.YtchbbdplopchlaaDoorTie
import Derived.Deep.DeepHandedRow
import Derived.Lib.LaidTab
namespace Go.Proofs.YtchbbdplopchlaaDoor
open Go.ChangeShapes Go.WideShapes Go.ChangeAt Go.RowKit
set_option linter.unusedVariables false
mutual
/-- The cells of a datum of plain integers. -/
def flatD : DataW Unit → List Value
  | .lit (.int k z) => [.int k z]
  | .agg l => flatDs l
  | _ => []
def flatDs : List (DataW Unit) → List Value
  | [] => []
  | d :: l => flatD d ++ flatDs l
end
def layD (d : DataW Unit) : Obj → Obj
  | .cells _ t fr => .cells (flatD d).toArray t fr
  | o => o
noncomputable def laidWorld (os : Os) : World :=
  { World.holding Tryd.prog os ⟨#[], #[], []⟩ with heap := (((((World.holding Tryd.prog os ⟨#[], #[], []⟩).heap.modify 4 (layD Rows.laid_math_bits_deBruijn32tab)).modify 5 (layD Rows.laid_math_bits_deBruijn64tab)).modify 2 (layD Rows.laid_internal_strconv_uint64pow10)).modify 1 (layD Rows.laid_unicode_utf8_acceptRanges)).modify 0 (layD Rows.laid_unicode_utf8_first) }
abbrev theList : List (String × DataW Unit) := [("math/bits.deBruijn32tab", Rows.laid_math_bits_deBruijn32tab), ("math/bits.deBruijn64tab", Rows.laid_math_bits_deBruijn64tab), ("internal/strconv.uint64pow10", Rows.laid_internal_strconv_uint64pow10), ("unicode/utf8.acceptRanges", Rows.laid_unicode_utf8_acceptRanges), ("unicode/utf8.first", Rows.laid_unicode_utf8_first)]
abbrev wArgs : Array Value := #[.int .i64 0, .agg #[.int .i64 0, .int .i64 0, .int .i64 0, .int .i64 0], .string ByteArray.empty]
theorem laid_met (os : Os) : laidMet Tryd.prog theList ((laidWorld os).forCall (fun _ _ => 0) ⟨#[], wArgs, []⟩).memory :=
  laidMet_of_run' 8 (by kernel_rfl) (by kernel_rfl)
theorem typePow : (Tryd.prog.globals[2]?).map (·.type) = some 71 := by kernel_rfl
theorem table {W : World} (h : laidMetH Tryd.prog theList W) : TabP W := by
  obtain ⟨ps, ⟨_, _, _, _, _, _, _, _, _, _, ⟨_, _, _, _, _, _, _, _, _, _, ⟨g', t', cs, fuel, p, q, hg', ht', hvar, hd, _, _⟩, _⟩, _⟩, _⟩ : laidMet Tryd.prog theList W := h
  obtain rfl := Option.some.inj (gPow.symm.trans hg')
  obtain rfl := Option.some.inj (typePow.symm.trans ht')
  unfold TabP Lib.TabIs
  rw [hvar, ← Lib.cells_of_tab (zs := Lib.pow10Tab) (k := .u64) Tryd.underlying71 Tryd.underlying56 (by kernel_rfl) (by kernel_rfl) hd]
end Go.Proofs.YtchbbdplopchlaaDoor
