/-
  No cell of these rows narrows 'for every input' (looked for: loops, veiled, ifaces, maps, wideKeys, modest, calm, conditions, laid).
  DERIVED. THE GIVEN ROWS OF THIS SEAT. 9 by the template 'for every input the law returns true; each argument reads behind the call as it read before'; 0 by the template 'total and deterministic' (their statements: YtgjclbkcnilkbaaTotals.lean).
  GIVEN WITH THE SEED: the statements are not yours to turn. If you find one false, say at which input.
  Laid BY PROGRAM, IN A SANDBOX (cutbox-rows.mjs): the forced cells as the released guide's own fill.sh prints them over the translation 81c3474adb18285f… (all of the seat's roots in one cut). By AI agents, Wed Nov 11 2026. No macro, syntax, notation, axiom, sorry.
-/
import Derived.Test.YtgjclbkcnilkbaaChecked
import GoSem.Claim
import GoSem.ClaimJoined
import GoSem.ClaimMapViews
import Derived.JoinedTies
import Derived.KernelRfl
namespace Go.Proofs.Ytgjclbkcnilkbaa
/- THE CELL 'sum', in the pinned program and in every row, IS THE sha256 OF THE DUMP (.gsa) THAT YtgjclbkcnilkbaaProg.lean LOADS. Nothing in Lean hashes anything: it is a label: what it is worth is what the hold of that sum in a sandbox is worth. -/
noncomputable def Try.pinned : Pinned := { name := "ytgjclbkcnilkbaa", sum := "81c3474adb18285fc92da29396c3a9cbf3726fc33b817d700041a60864c2ebfd", checked := Try.checked }
namespace Rows
def none {H : Type} : Left H := { results := [], args := [] }

/-- 'cycloramalaw8.StampTimesMatchSpec': WHATEVER THE INPUT: true; the input reads as it did. -/
def stampTimesMatchSpecSpec : ChangeSpec := { name := "stampTimesMatchSpec", fn := fun _ => fun
  | [d1, d2, d3] => { results := [.lit (.bool true)], args := [d1, d2, d3] }
  | _ => none }
def stampTimesMatchSpecRow : OpenClaim := { program := "ytgjclbkcnilkbaa", sum := "81c3474adb18285fc92da29396c3a9cbf3726fc33b817d700041a60864c2ebfd", func := "cyclorama/cycloramalaw8.StampTimesMatchSpec", spec := "stampTimesMatchSpec", apart := false }
def StampTimesMatchSpecSaid : Prop := stampTimesMatchSpecRow.holds Try.pinned (OpenSpec.ofChange stampTimesMatchSpecSpec)

/-- ITS FALSE NEIGHBOUR: 'it returns false'. Refute it at one input. -/
def stampTimesMatchSpecWrong : ChangeSpec := { name := "stampTimesMatchSpec", fn := fun _ => fun
  | [d1, d2, d3] => { results := [.lit (.bool false)], args := [d1, d2, d3] }
  | _ => none }
def StampTimesMatchSpecWrongFalsely : Prop := stampTimesMatchSpecRow.holds Try.pinned (OpenSpec.ofChange stampTimesMatchSpecWrong)

/-- 'cycloramalaw8.StampTimesAreInverse': WHATEVER THE INPUT: true; the input reads as it did. -/
def stampTimesAreInverseSpec : ChangeSpec := { name := "stampTimesAreInverse", fn := fun _ => fun
  | [d1, d2] => { results := [.lit (.bool true)], args := [d1, d2] }
  | _ => none }
def stampTimesAreInverseRow : OpenClaim := { program := "ytgjclbkcnilkbaa", sum := "81c3474adb18285fc92da29396c3a9cbf3726fc33b817d700041a60864c2ebfd", func := "cyclorama/cycloramalaw8.StampTimesAreInverse", spec := "stampTimesAreInverse", apart := false }
def StampTimesAreInverseSaid : Prop := stampTimesAreInverseRow.holds Try.pinned (OpenSpec.ofChange stampTimesAreInverseSpec)

/-- ITS FALSE NEIGHBOUR: 'it returns false'. Refute it at one input. -/
def stampTimesAreInverseWrong : ChangeSpec := { name := "stampTimesAreInverse", fn := fun _ => fun
  | [d1, d2] => { results := [.lit (.bool false)], args := [d1, d2] }
  | _ => none }
def StampTimesAreInverseWrongFalsely : Prop := stampTimesAreInverseRow.holds Try.pinned (OpenSpec.ofChange stampTimesAreInverseWrong)

/-- 'cycloramalaw8.StampConvertsMatchSpec': WHATEVER THE INPUT: true; the input reads as it did. -/
def stampConvertsMatchSpecSpec : ChangeSpec := { name := "stampConvertsMatchSpec", fn := fun _ => fun
  | [d1, d2, d3] => { results := [.lit (.bool true)], args := [d1, d2, d3] }
  | _ => none }
def stampConvertsMatchSpecRow : OpenClaim := { program := "ytgjclbkcnilkbaa", sum := "81c3474adb18285fc92da29396c3a9cbf3726fc33b817d700041a60864c2ebfd", func := "cyclorama/cycloramalaw8.StampConvertsMatchSpec", spec := "stampConvertsMatchSpec", apart := false }
def StampConvertsMatchSpecSaid : Prop := stampConvertsMatchSpecRow.holds Try.pinned (OpenSpec.ofChange stampConvertsMatchSpecSpec)

/-- ITS FALSE NEIGHBOUR: 'it returns false'. Refute it at one input. -/
def stampConvertsMatchSpecWrong : ChangeSpec := { name := "stampConvertsMatchSpec", fn := fun _ => fun
  | [d1, d2, d3] => { results := [.lit (.bool false)], args := [d1, d2, d3] }
  | _ => none }
def StampConvertsMatchSpecWrongFalsely : Prop := stampConvertsMatchSpecRow.holds Try.pinned (OpenSpec.ofChange stampConvertsMatchSpecWrong)

/-- 'cycloramalaw8.StampNumbersMatchSpec': WHATEVER THE INPUT: true; the input reads as it did. -/
def stampNumbersMatchSpecSpec : ChangeSpec := { name := "stampNumbersMatchSpec", fn := fun _ => fun
  | [d1, d2, d3] => { results := [.lit (.bool true)], args := [d1, d2, d3] }
  | _ => none }
def stampNumbersMatchSpecRow : OpenClaim := { program := "ytgjclbkcnilkbaa", sum := "81c3474adb18285fc92da29396c3a9cbf3726fc33b817d700041a60864c2ebfd", func := "cyclorama/cycloramalaw8.StampNumbersMatchSpec", spec := "stampNumbersMatchSpec", apart := false }
def StampNumbersMatchSpecSaid : Prop := stampNumbersMatchSpecRow.holds Try.pinned (OpenSpec.ofChange stampNumbersMatchSpecSpec)

/-- ITS FALSE NEIGHBOUR: 'it returns false'. Refute it at one input. -/
def stampNumbersMatchSpecWrong : ChangeSpec := { name := "stampNumbersMatchSpec", fn := fun _ => fun
  | [d1, d2, d3] => { results := [.lit (.bool false)], args := [d1, d2, d3] }
  | _ => none }
def StampNumbersMatchSpecWrongFalsely : Prop := stampNumbersMatchSpecRow.holds Try.pinned (OpenSpec.ofChange stampNumbersMatchSpecWrong)

/-- 'cycloramalaw8.StampAddsMatchSpec': WHATEVER THE INPUT: true; the input reads as it did. -/
def stampAddsMatchSpecSpec : ChangeSpec := { name := "stampAddsMatchSpec", fn := fun _ => fun
  | [d1, d2, d3, d4] => { results := [.lit (.bool true)], args := [d1, d2, d3, d4] }
  | _ => none }
def stampAddsMatchSpecRow : OpenClaim := { program := "ytgjclbkcnilkbaa", sum := "81c3474adb18285fc92da29396c3a9cbf3726fc33b817d700041a60864c2ebfd", func := "cyclorama/cycloramalaw8.StampAddsMatchSpec", spec := "stampAddsMatchSpec", apart := false }
def StampAddsMatchSpecSaid : Prop := stampAddsMatchSpecRow.holds Try.pinned (OpenSpec.ofChange stampAddsMatchSpecSpec)

/-- ITS FALSE NEIGHBOUR: 'it returns false'. Refute it at one input. -/
def stampAddsMatchSpecWrong : ChangeSpec := { name := "stampAddsMatchSpec", fn := fun _ => fun
  | [d1, d2, d3, d4] => { results := [.lit (.bool false)], args := [d1, d2, d3, d4] }
  | _ => none }
def StampAddsMatchSpecWrongFalsely : Prop := stampAddsMatchSpecRow.holds Try.pinned (OpenSpec.ofChange stampAddsMatchSpecWrong)

/-- 'cycloramalaw8.StampAddsGoAround': WHATEVER THE INPUT: true; the input reads as it did. -/
def stampAddsGoAroundSpec : ChangeSpec := { name := "stampAddsGoAround", fn := fun _ => fun
  | [d1, d2, d3, d4] => { results := [.lit (.bool true)], args := [d1, d2, d3, d4] }
  | _ => none }
def stampAddsGoAroundRow : OpenClaim := { program := "ytgjclbkcnilkbaa", sum := "81c3474adb18285fc92da29396c3a9cbf3726fc33b817d700041a60864c2ebfd", func := "cyclorama/cycloramalaw8.StampAddsGoAround", spec := "stampAddsGoAround", apart := false }
def StampAddsGoAroundSaid : Prop := stampAddsGoAroundRow.holds Try.pinned (OpenSpec.ofChange stampAddsGoAroundSpec)

/-- ITS FALSE NEIGHBOUR: 'it returns false'. Refute it at one input. -/
def stampAddsGoAroundWrong : ChangeSpec := { name := "stampAddsGoAround", fn := fun _ => fun
  | [d1, d2, d3, d4] => { results := [.lit (.bool false)], args := [d1, d2, d3, d4] }
  | _ => none }
def StampAddsGoAroundWrongFalsely : Prop := stampAddsGoAroundRow.holds Try.pinned (OpenSpec.ofChange stampAddsGoAroundWrong)

/-- 'cycloramalaw8.StampNumbersComeBack': WHATEVER THE INPUT: true; the input reads as it did. -/
def stampNumbersComeBackSpec : ChangeSpec := { name := "stampNumbersComeBack", fn := fun _ => fun
  | [d1, d2] => { results := [.lit (.bool true)], args := [d1, d2] }
  | _ => none }
def stampNumbersComeBackRow : OpenClaim := { program := "ytgjclbkcnilkbaa", sum := "81c3474adb18285fc92da29396c3a9cbf3726fc33b817d700041a60864c2ebfd", func := "cyclorama/cycloramalaw8.StampNumbersComeBack", spec := "stampNumbersComeBack", apart := false }
def StampNumbersComeBackSaid : Prop := stampNumbersComeBackRow.holds Try.pinned (OpenSpec.ofChange stampNumbersComeBackSpec)

/-- ITS FALSE NEIGHBOUR: 'it returns false'. Refute it at one input. -/
def stampNumbersComeBackWrong : ChangeSpec := { name := "stampNumbersComeBack", fn := fun _ => fun
  | [d1, d2] => { results := [.lit (.bool false)], args := [d1, d2] }
  | _ => none }
def StampNumbersComeBackWrongFalsely : Prop := stampNumbersComeBackRow.holds Try.pinned (OpenSpec.ofChange stampNumbersComeBackWrong)

/-- 'cycloramalaw8.StampFollowersMatchSpec': WHATEVER THE INPUT: true; the input reads as it did. -/
def stampFollowersMatchSpecSpec : ChangeSpec := { name := "stampFollowersMatchSpec", fn := fun _ => fun
  | [d1, d2, d3, d4] => { results := [.lit (.bool true)], args := [d1, d2, d3, d4] }
  | _ => none }
def stampFollowersMatchSpecRow : OpenClaim := { program := "ytgjclbkcnilkbaa", sum := "81c3474adb18285fc92da29396c3a9cbf3726fc33b817d700041a60864c2ebfd", func := "cyclorama/cycloramalaw8.StampFollowersMatchSpec", spec := "stampFollowersMatchSpec", apart := false }
def StampFollowersMatchSpecSaid : Prop := stampFollowersMatchSpecRow.holds Try.pinned (OpenSpec.ofChange stampFollowersMatchSpecSpec)

/-- ITS FALSE NEIGHBOUR: 'it returns false'. Refute it at one input. -/
def stampFollowersMatchSpecWrong : ChangeSpec := { name := "stampFollowersMatchSpec", fn := fun _ => fun
  | [d1, d2, d3, d4] => { results := [.lit (.bool false)], args := [d1, d2, d3, d4] }
  | _ => none }
def StampFollowersMatchSpecWrongFalsely : Prop := stampFollowersMatchSpecRow.holds Try.pinned (OpenSpec.ofChange stampFollowersMatchSpecWrong)

/-- 'cycloramalaw8.StampTakesJoin': WHATEVER THE INPUT: true; the input reads as it did. -/
def stampTakesJoinSpec : ChangeSpec := { name := "stampTakesJoin", fn := fun _ => fun
  | [d1, d2, d3, d4] => { results := [.lit (.bool true)], args := [d1, d2, d3, d4] }
  | _ => none }
def stampTakesJoinRow : OpenClaim := { program := "ytgjclbkcnilkbaa", sum := "81c3474adb18285fc92da29396c3a9cbf3726fc33b817d700041a60864c2ebfd", func := "cyclorama/cycloramalaw8.StampTakesJoin", spec := "stampTakesJoin", apart := false }
def StampTakesJoinSaid : Prop := stampTakesJoinRow.holds Try.pinned (OpenSpec.ofChange stampTakesJoinSpec)

/-- ITS FALSE NEIGHBOUR: 'it returns false'. Refute it at one input. -/
def stampTakesJoinWrong : ChangeSpec := { name := "stampTakesJoin", fn := fun _ => fun
  | [d1, d2, d3, d4] => { results := [.lit (.bool false)], args := [d1, d2, d3, d4] }
  | _ => none }
def StampTakesJoinWrongFalsely : Prop := stampTakesJoinRow.holds Try.pinned (OpenSpec.ofChange stampTakesJoinWrong)

/- THE SECOND FORM. 'bulk': how many values and letters a reading holds, each counted each time it is reached (what is shared counts as often as it is met; a slice's spare places count too). A statement '..UptoSaid' is the law's where the arguments, and the package variables that the reading takes, are together of bulk at most 1048576: NARROWER than '..Said'. Prove '..Said' where nothing that the law and all that it calls make is longer than what came in: it says more and counts as full. Else prove '..UptoSaid'. A law counts once. -/
mutual
def uptoBulk {H : Type} : DataW H → Nat
  | .lit (.string bytes) => bytes.length + 1
  | .lit _ => 1
  | .nil => 1
  | .ptr d => uptoBulk d + 1
  | .slice elems spare => uptoBulkAll elems + uptoBulkAll spare + 1
  | .agg parts => uptoBulkAll parts + 1
  | .iface _ d => uptoBulk d + 1
  | .map entries => uptoBulkEntries entries + 1
  | .held _ => 1
def uptoBulkAll {H : Type} : List (DataW H) → Nat
  | [] => 0
  | d :: r => uptoBulk d + uptoBulkAll r
def uptoBulkEntries {H : Type} : List (Lit × DataW H) → Nat
  | [] => 0
  | x :: r => uptoBulkEntry x + uptoBulkEntries r
def uptoBulkEntry {H : Type} : Lit × DataW H → Nat
  | (.string bytes, d) => bytes.length + uptoBulk d + 1
  | (_, d) => uptoBulk d + 1
 end
def uptoSmall : (H : Type) → List (DataW H) → Bool := fun _ ds => decide (uptoBulkAll ds ≤ 1048576)
def OpenSpec.upto (s : _root_.Go.ChangeSpec) : _root_.Go.OpenSpec := { _root_.Go.OpenSpec.ofChange s with cond := some uptoSmall }

/-- 'cycloramalaw8.StampTimesMatchSpec', WHERE WHAT IT READS IS OF BULK AT MOST 1048576: true; the input reads as it did. -/
def stampTimesMatchSpecUptoRow : OpenClaim := { program := "ytgjclbkcnilkbaa", sum := "81c3474adb18285fc92da29396c3a9cbf3726fc33b817d700041a60864c2ebfd", func := "cyclorama/cycloramalaw8.StampTimesMatchSpec", spec := "stampTimesMatchSpec", apart := false, narrowed := true }
def StampTimesMatchSpecUptoSaid : Prop := stampTimesMatchSpecUptoRow.holds Try.pinned (OpenSpec.upto stampTimesMatchSpecSpec)

/-- 'cycloramalaw8.StampTimesAreInverse', WHERE WHAT IT READS IS OF BULK AT MOST 1048576: true; the input reads as it did. -/
def stampTimesAreInverseUptoRow : OpenClaim := { program := "ytgjclbkcnilkbaa", sum := "81c3474adb18285fc92da29396c3a9cbf3726fc33b817d700041a60864c2ebfd", func := "cyclorama/cycloramalaw8.StampTimesAreInverse", spec := "stampTimesAreInverse", apart := false, narrowed := true }
def StampTimesAreInverseUptoSaid : Prop := stampTimesAreInverseUptoRow.holds Try.pinned (OpenSpec.upto stampTimesAreInverseSpec)

/-- 'cycloramalaw8.StampConvertsMatchSpec', WHERE WHAT IT READS IS OF BULK AT MOST 1048576: true; the input reads as it did. -/
def stampConvertsMatchSpecUptoRow : OpenClaim := { program := "ytgjclbkcnilkbaa", sum := "81c3474adb18285fc92da29396c3a9cbf3726fc33b817d700041a60864c2ebfd", func := "cyclorama/cycloramalaw8.StampConvertsMatchSpec", spec := "stampConvertsMatchSpec", apart := false, narrowed := true }
def StampConvertsMatchSpecUptoSaid : Prop := stampConvertsMatchSpecUptoRow.holds Try.pinned (OpenSpec.upto stampConvertsMatchSpecSpec)

/-- 'cycloramalaw8.StampNumbersMatchSpec', WHERE WHAT IT READS IS OF BULK AT MOST 1048576: true; the input reads as it did. -/
def stampNumbersMatchSpecUptoRow : OpenClaim := { program := "ytgjclbkcnilkbaa", sum := "81c3474adb18285fc92da29396c3a9cbf3726fc33b817d700041a60864c2ebfd", func := "cyclorama/cycloramalaw8.StampNumbersMatchSpec", spec := "stampNumbersMatchSpec", apart := false, narrowed := true }
def StampNumbersMatchSpecUptoSaid : Prop := stampNumbersMatchSpecUptoRow.holds Try.pinned (OpenSpec.upto stampNumbersMatchSpecSpec)

/-- 'cycloramalaw8.StampAddsMatchSpec', WHERE WHAT IT READS IS OF BULK AT MOST 1048576: true; the input reads as it did. -/
def stampAddsMatchSpecUptoRow : OpenClaim := { program := "ytgjclbkcnilkbaa", sum := "81c3474adb18285fc92da29396c3a9cbf3726fc33b817d700041a60864c2ebfd", func := "cyclorama/cycloramalaw8.StampAddsMatchSpec", spec := "stampAddsMatchSpec", apart := false, narrowed := true }
def StampAddsMatchSpecUptoSaid : Prop := stampAddsMatchSpecUptoRow.holds Try.pinned (OpenSpec.upto stampAddsMatchSpecSpec)

/-- 'cycloramalaw8.StampAddsGoAround', WHERE WHAT IT READS IS OF BULK AT MOST 1048576: true; the input reads as it did. -/
def stampAddsGoAroundUptoRow : OpenClaim := { program := "ytgjclbkcnilkbaa", sum := "81c3474adb18285fc92da29396c3a9cbf3726fc33b817d700041a60864c2ebfd", func := "cyclorama/cycloramalaw8.StampAddsGoAround", spec := "stampAddsGoAround", apart := false, narrowed := true }
def StampAddsGoAroundUptoSaid : Prop := stampAddsGoAroundUptoRow.holds Try.pinned (OpenSpec.upto stampAddsGoAroundSpec)

/-- 'cycloramalaw8.StampNumbersComeBack', WHERE WHAT IT READS IS OF BULK AT MOST 1048576: true; the input reads as it did. -/
def stampNumbersComeBackUptoRow : OpenClaim := { program := "ytgjclbkcnilkbaa", sum := "81c3474adb18285fc92da29396c3a9cbf3726fc33b817d700041a60864c2ebfd", func := "cyclorama/cycloramalaw8.StampNumbersComeBack", spec := "stampNumbersComeBack", apart := false, narrowed := true }
def StampNumbersComeBackUptoSaid : Prop := stampNumbersComeBackUptoRow.holds Try.pinned (OpenSpec.upto stampNumbersComeBackSpec)

/-- 'cycloramalaw8.StampFollowersMatchSpec', WHERE WHAT IT READS IS OF BULK AT MOST 1048576: true; the input reads as it did. -/
def stampFollowersMatchSpecUptoRow : OpenClaim := { program := "ytgjclbkcnilkbaa", sum := "81c3474adb18285fc92da29396c3a9cbf3726fc33b817d700041a60864c2ebfd", func := "cyclorama/cycloramalaw8.StampFollowersMatchSpec", spec := "stampFollowersMatchSpec", apart := false, narrowed := true }
def StampFollowersMatchSpecUptoSaid : Prop := stampFollowersMatchSpecUptoRow.holds Try.pinned (OpenSpec.upto stampFollowersMatchSpecSpec)

/-- 'cycloramalaw8.StampTakesJoin', WHERE WHAT IT READS IS OF BULK AT MOST 1048576: true; the input reads as it did. -/
def stampTakesJoinUptoRow : OpenClaim := { program := "ytgjclbkcnilkbaa", sum := "81c3474adb18285fc92da29396c3a9cbf3726fc33b817d700041a60864c2ebfd", func := "cyclorama/cycloramalaw8.StampTakesJoin", spec := "stampTakesJoin", apart := false, narrowed := true }
def StampTakesJoinUptoSaid : Prop := stampTakesJoinUptoRow.holds Try.pinned (OpenSpec.upto stampTakesJoinSpec)

end Rows
end Go.Proofs.Ytgjclbkcnilkbaa
