/-
  No cell of these rows narrows 'for every input' (looked for: loops, veiled, ifaces, maps, wideKeys, modest, calm, conditions, laid).
  DERIVED. THE GIVEN ROWS OF THIS SEAT. 3 by the template 'for every input the law returns true; each argument reads behind the call as it read before'; 0 by the template 'total and deterministic' (their statements: YtjjjjbgohkklnaaTotals.lean).
  GIVEN WITH THE SEED: the statements are not yours to turn. If you find one false, say at which input.
  Laid BY PROGRAM, IN A SANDBOX (cutbox-rows.mjs): the forced cells as the released guide's own fill.sh prints them over the translation 50fa66591b192f3e… (all of the seat's roots in one cut). By AI agents, Wed Nov 11 2026. No macro, syntax, notation, axiom, sorry.
-/
import Derived.Test.YtjjjjbgohkklnaaChecked
import GoSem.Claim
import GoSem.ClaimJoined
import GoSem.ClaimMapViews
import Derived.JoinedTies
import Derived.KernelRfl
namespace Go.Proofs.Ytjjjjbgohkklnaa
/- THE CELL 'sum', in the pinned program and in every row, IS THE sha256 OF THE DUMP (.gsa) THAT YtjjjjbgohkklnaaProg.lean LOADS. Nothing in Lean hashes anything: it is a label: what it is worth is what the hold of that sum in a sandbox is worth. -/
noncomputable def Try.pinned : Pinned := { name := "ytjjjjbgohkklnaa", sum := "50fa66591b192f3e2df62f3e4111e0a3ce35fea79baf31d590e5174ee7691853", checked := Try.checked }
namespace Rows
def none {H : Type} : Left H := { results := [], args := [] }

/-- 'cycloramalaw4.PickSpreadsMatchSpec': WHATEVER THE INPUT: true; the input reads as it did. -/
def pickSpreadsMatchSpecSpec : ChangeSpec := { name := "pickSpreadsMatchSpec", fn := fun _ => fun
  | [d1, d2, d3, d4, d5] => { results := [.lit (.bool true)], args := [d1, d2, d3, d4, d5] }
  | _ => none }
def pickSpreadsMatchSpecRow : OpenClaim := { program := "ytjjjjbgohkklnaa", sum := "50fa66591b192f3e2df62f3e4111e0a3ce35fea79baf31d590e5174ee7691853", func := "cyclorama/cycloramalaw4.PickSpreadsMatchSpec", spec := "pickSpreadsMatchSpec", inPlace := ["internal/bytealg.abigen_runtime_cmpstring", "slices.overlaps[cyclorama/api.Setting]"], unfollowed := true, recurses := true, plainKeys := false, apart := false }
def PickSpreadsMatchSpecSaid : Prop := pickSpreadsMatchSpecRow.holds Try.pinned (OpenSpec.ofChange pickSpreadsMatchSpecSpec)

/-- ITS FALSE NEIGHBOUR: 'it returns false'. Refute it at one input. -/
def pickSpreadsMatchSpecWrong : ChangeSpec := { name := "pickSpreadsMatchSpec", fn := fun _ => fun
  | [d1, d2, d3, d4, d5] => { results := [.lit (.bool false)], args := [d1, d2, d3, d4, d5] }
  | _ => none }
def PickSpreadsMatchSpecWrongFalsely : Prop := pickSpreadsMatchSpecRow.holds Try.pinned (OpenSpec.ofChange pickSpreadsMatchSpecWrong)

/-- 'cycloramalaw4.PickPresetsMatchSpec': WHATEVER THE INPUT: true; the input reads as it did. -/
def pickPresetsMatchSpecSpec : ChangeSpec := { name := "pickPresetsMatchSpec", fn := fun _ => fun
  | [d1, d2, d3, d4, d5, d6] => { results := [.lit (.bool true)], args := [d1, d2, d3, d4, d5, d6] }
  | _ => none }
def pickPresetsMatchSpecRow : OpenClaim := { program := "ytjjjjbgohkklnaa", sum := "50fa66591b192f3e2df62f3e4111e0a3ce35fea79baf31d590e5174ee7691853", func := "cyclorama/cycloramalaw4.PickPresetsMatchSpec", spec := "pickPresetsMatchSpec", inPlace := ["internal/bytealg.abigen_runtime_cmpstring", "slices.overlaps[cyclorama/api.Preset]", "slices.overlaps[cyclorama/api.Setting]"], unfollowed := true, recurses := true, plainKeys := false, apart := false }
def PickPresetsMatchSpecSaid : Prop := pickPresetsMatchSpecRow.holds Try.pinned (OpenSpec.ofChange pickPresetsMatchSpecSpec)

/-- ITS FALSE NEIGHBOUR: 'it returns false'. Refute it at one input. -/
def pickPresetsMatchSpecWrong : ChangeSpec := { name := "pickPresetsMatchSpec", fn := fun _ => fun
  | [d1, d2, d3, d4, d5, d6] => { results := [.lit (.bool false)], args := [d1, d2, d3, d4, d5, d6] }
  | _ => none }
def PickPresetsMatchSpecWrongFalsely : Prop := pickPresetsMatchSpecRow.holds Try.pinned (OpenSpec.ofChange pickPresetsMatchSpecWrong)

/-- 'cycloramalaw4.PickPresetsKeepWhatIsRecorded': WHATEVER THE INPUT: true; the input reads as it did. -/
def pickPresetsKeepWhatIsRecordedSpec : ChangeSpec := { name := "pickPresetsKeepWhatIsRecorded", fn := fun _ => fun
  | [d1, d2, d3, d4, d5, d6] => { results := [.lit (.bool true)], args := [d1, d2, d3, d4, d5, d6] }
  | _ => none }
def pickPresetsKeepWhatIsRecordedRow : OpenClaim := { program := "ytjjjjbgohkklnaa", sum := "50fa66591b192f3e2df62f3e4111e0a3ce35fea79baf31d590e5174ee7691853", func := "cyclorama/cycloramalaw4.PickPresetsKeepWhatIsRecorded", spec := "pickPresetsKeepWhatIsRecorded", inPlace := ["internal/bytealg.abigen_runtime_cmpstring", "slices.overlaps[cyclorama/api.Preset]"], unfollowed := true, recurses := true, plainKeys := false, apart := false }
def PickPresetsKeepWhatIsRecordedSaid : Prop := pickPresetsKeepWhatIsRecordedRow.holds Try.pinned (OpenSpec.ofChange pickPresetsKeepWhatIsRecordedSpec)

/-- ITS FALSE NEIGHBOUR: 'it returns false'. Refute it at one input. -/
def pickPresetsKeepWhatIsRecordedWrong : ChangeSpec := { name := "pickPresetsKeepWhatIsRecorded", fn := fun _ => fun
  | [d1, d2, d3, d4, d5, d6] => { results := [.lit (.bool false)], args := [d1, d2, d3, d4, d5, d6] }
  | _ => none }
def PickPresetsKeepWhatIsRecordedWrongFalsely : Prop := pickPresetsKeepWhatIsRecordedRow.holds Try.pinned (OpenSpec.ofChange pickPresetsKeepWhatIsRecordedWrong)

/- THE SECOND FORM. 'bulk': how many values and letters a reading holds, each counted each time it is reached (what is shared counts as often as it is met; a slice's spare places count too). A statement '..UptoSaid' is the law's where the arguments, and the package variables that the reading takes, are together of bulk at most 1048576: NARROWER than '..Said'. Prove '..Said' where nothing that the law and all that it calls make is longer than what came in: it says more and counts as full. Else prove '..UptoSaid'. A law counts once. -/
mutual
def uptoBulk {H : Type} : DataW H → Nat
  | .lit (.string bytes) => bytes.length + 1
  | .lit _ => 1
  | .nil => 1
  | .ptr d => uptoBulk d + 1
  | .slice elems spare => uptoBulkAll elems + uptoBulkAll spare + 1
  | .agg parts => uptoBulkAll parts + 1
  | .iface _ d => uptoBulk d + 1
  | .map entries => uptoBulkEntries entries + 1
  | .held _ => 1
def uptoBulkAll {H : Type} : List (DataW H) → Nat
  | [] => 0
  | d :: r => uptoBulk d + uptoBulkAll r
def uptoBulkEntries {H : Type} : List (Lit × DataW H) → Nat
  | [] => 0
  | x :: r => uptoBulkEntry x + uptoBulkEntries r
def uptoBulkEntry {H : Type} : Lit × DataW H → Nat
  | (.string bytes, d) => bytes.length + uptoBulk d + 1
  | (_, d) => uptoBulk d + 1
 end
def uptoSmall : (H : Type) → List (DataW H) → Bool := fun _ ds => decide (uptoBulkAll ds ≤ 1048576)
def OpenSpec.upto (s : _root_.Go.ChangeSpec) : _root_.Go.OpenSpec := { _root_.Go.OpenSpec.ofChange s with cond := some uptoSmall }

/-- 'cycloramalaw4.PickSpreadsMatchSpec', WHERE WHAT IT READS IS OF BULK AT MOST 1048576: true; the input reads as it did. -/
def pickSpreadsMatchSpecUptoRow : OpenClaim := { program := "ytjjjjbgohkklnaa", sum := "50fa66591b192f3e2df62f3e4111e0a3ce35fea79baf31d590e5174ee7691853", func := "cyclorama/cycloramalaw4.PickSpreadsMatchSpec", spec := "pickSpreadsMatchSpec", inPlace := ["internal/bytealg.abigen_runtime_cmpstring", "slices.overlaps[cyclorama/api.Setting]"], unfollowed := true, recurses := true, plainKeys := false, apart := false, narrowed := true }
def PickSpreadsMatchSpecUptoSaid : Prop := pickSpreadsMatchSpecUptoRow.holds Try.pinned (OpenSpec.upto pickSpreadsMatchSpecSpec)

/-- 'cycloramalaw4.PickPresetsMatchSpec', WHERE WHAT IT READS IS OF BULK AT MOST 1048576: true; the input reads as it did. -/
def pickPresetsMatchSpecUptoRow : OpenClaim := { program := "ytjjjjbgohkklnaa", sum := "50fa66591b192f3e2df62f3e4111e0a3ce35fea79baf31d590e5174ee7691853", func := "cyclorama/cycloramalaw4.PickPresetsMatchSpec", spec := "pickPresetsMatchSpec", inPlace := ["internal/bytealg.abigen_runtime_cmpstring", "slices.overlaps[cyclorama/api.Preset]", "slices.overlaps[cyclorama/api.Setting]"], unfollowed := true, recurses := true, plainKeys := false, apart := false, narrowed := true }
def PickPresetsMatchSpecUptoSaid : Prop := pickPresetsMatchSpecUptoRow.holds Try.pinned (OpenSpec.upto pickPresetsMatchSpecSpec)

/-- 'cycloramalaw4.PickPresetsKeepWhatIsRecorded', WHERE WHAT IT READS IS OF BULK AT MOST 1048576: true; the input reads as it did. -/
def pickPresetsKeepWhatIsRecordedUptoRow : OpenClaim := { program := "ytjjjjbgohkklnaa", sum := "50fa66591b192f3e2df62f3e4111e0a3ce35fea79baf31d590e5174ee7691853", func := "cyclorama/cycloramalaw4.PickPresetsKeepWhatIsRecorded", spec := "pickPresetsKeepWhatIsRecorded", inPlace := ["internal/bytealg.abigen_runtime_cmpstring", "slices.overlaps[cyclorama/api.Preset]"], unfollowed := true, recurses := true, plainKeys := false, apart := false, narrowed := true }
def PickPresetsKeepWhatIsRecordedUptoSaid : Prop := pickPresetsKeepWhatIsRecordedUptoRow.holds Try.pinned (OpenSpec.upto pickPresetsKeepWhatIsRecordedSpec)

end Rows
end Go.Proofs.Ytjjjjbgohkklnaa
