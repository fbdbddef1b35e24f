/-
  No cell of these rows narrows 'for every input' (looked for: loops, veiled, ifaces, maps, wideKeys, modest, calm, conditions, laid).
  DERIVED. THE GIVEN ROWS OF THIS SEAT. 9 by the template 'for every input the law returns true; each argument reads behind the call as it read before'; 0 by the template 'total and deterministic' (their statements: YtphgchakmkankaaTotals.lean).
  GIVEN WITH THE SEED: the statements are not yours to turn. If you find one false, say at which input.
  Laid BY PROGRAM, IN A SANDBOX (cutbox-rows.mjs): the forced cells as the released guide's own fill.sh prints them over the translation 4b92dd723453ea5f… (all of the seat's roots in one cut). By AI agents, Wed Nov 11 2026. No macro, syntax, notation, axiom, sorry.
-/
import Derived.Test.YtphgchakmkankaaChecked
import GoSem.Claim
import GoSem.ClaimJoined
import GoSem.ClaimMapViews
import Derived.JoinedTies
import Derived.KernelRfl
namespace Go.Proofs.Ytphgchakmkankaa
/- THE CELL 'sum', in the pinned program and in every row, IS THE sha256 OF THE DUMP (.gsa) THAT YtphgchakmkankaaProg.lean LOADS. Nothing in Lean hashes anything: it is a label: what it is worth is what the hold of that sum in a sandbox is worth. -/
noncomputable def Try.pinned : Pinned := { name := "ytphgchakmkankaa", sum := "4b92dd723453ea5fb74bf82d8a06473bf3ba22026b581eb9c1167c343d85a86f", checked := Try.checked }
namespace Rows
def none {H : Type} : Left H := { results := [], args := [] }

/-- 'cycloramalaw5.CueDeletesMatchSpec': WHATEVER THE INPUT: true; the input reads as it did. -/
def cueDeletesMatchSpecSpec : ChangeSpec := { name := "cueDeletesMatchSpec", fn := fun _ => fun
  | [d1, d2, d3] => { results := [.lit (.bool true)], args := [d1, d2, d3] }
  | _ => none }
def cueDeletesMatchSpecRow : OpenClaim := { program := "ytphgchakmkankaa", sum := "4b92dd723453ea5fb74bf82d8a06473bf3ba22026b581eb9c1167c343d85a86f", func := "cyclorama/cycloramalaw5.CueDeletesMatchSpec", spec := "cueDeletesMatchSpec", inPlace := ["internal/bytealg.abigen_runtime_cmpstring", "slices.overlaps[cyclorama/api.Move]"], unfollowed := true, recurses := true, plainKeys := false, apart := false }
def CueDeletesMatchSpecSaid : Prop := cueDeletesMatchSpecRow.holds Try.pinned (OpenSpec.ofChange cueDeletesMatchSpecSpec)

/-- ITS FALSE NEIGHBOUR: 'it returns false'. Refute it at one input. -/
def cueDeletesMatchSpecWrong : ChangeSpec := { name := "cueDeletesMatchSpec", fn := fun _ => fun
  | [d1, d2, d3] => { results := [.lit (.bool false)], args := [d1, d2, d3] }
  | _ => none }
def CueDeletesMatchSpecWrongFalsely : Prop := cueDeletesMatchSpecRow.holds Try.pinned (OpenSpec.ofChange cueDeletesMatchSpecWrong)

/-- 'cycloramalaw5.CueCleansMatchSpec': WHATEVER THE INPUT: true; the input reads as it did. -/
def cueCleansMatchSpecSpec : ChangeSpec := { name := "cueCleansMatchSpec", fn := fun _ => fun
  | [d1, d2] => { results := [.lit (.bool true)], args := [d1, d2] }
  | _ => none }
def cueCleansMatchSpecRow : OpenClaim := { program := "ytphgchakmkankaa", sum := "4b92dd723453ea5fb74bf82d8a06473bf3ba22026b581eb9c1167c343d85a86f", func := "cyclorama/cycloramalaw5.CueCleansMatchSpec", spec := "cueCleansMatchSpec", inPlace := ["internal/bytealg.abigen_runtime_cmpstring", "slices.overlaps[cyclorama/api.Entry]", "slices.overlaps[cyclorama/api.Move]"], unfollowed := true, recurses := true, plainKeys := false, apart := false }
def CueCleansMatchSpecSaid : Prop := cueCleansMatchSpecRow.holds Try.pinned (OpenSpec.ofChange cueCleansMatchSpecSpec)

/-- ITS FALSE NEIGHBOUR: 'it returns false'. Refute it at one input. -/
def cueCleansMatchSpecWrong : ChangeSpec := { name := "cueCleansMatchSpec", fn := fun _ => fun
  | [d1, d2] => { results := [.lit (.bool false)], args := [d1, d2] }
  | _ => none }
def CueCleansMatchSpecWrongFalsely : Prop := cueCleansMatchSpecRow.holds Try.pinned (OpenSpec.ofChange cueCleansMatchSpecWrong)

/-- 'cycloramalaw5.CueRecordsMatchSpec': WHATEVER THE INPUT: true; the input reads as it did. -/
def cueRecordsMatchSpecSpec : ChangeSpec := { name := "cueRecordsMatchSpec", fn := fun _ => fun
  | [d1, d2, d3, d4] => { results := [.lit (.bool true)], args := [d1, d2, d3, d4] }
  | _ => none }
def cueRecordsMatchSpecRow : OpenClaim := { program := "ytphgchakmkankaa", sum := "4b92dd723453ea5fb74bf82d8a06473bf3ba22026b581eb9c1167c343d85a86f", func := "cyclorama/cycloramalaw5.CueRecordsMatchSpec", spec := "cueRecordsMatchSpec", inPlace := ["internal/bytealg.abigen_runtime_cmpstring", "slices.overlaps[cyclorama/api.Cue]", "slices.overlaps[cyclorama/api.Move]", "slices.overlaps[cyclorama/api.Entry]"], unfollowed := true, recurses := true, plainKeys := false, apart := false }
def CueRecordsMatchSpecSaid : Prop := cueRecordsMatchSpecRow.holds Try.pinned (OpenSpec.ofChange cueRecordsMatchSpecSpec)

/-- ITS FALSE NEIGHBOUR: 'it returns false'. Refute it at one input. -/
def cueRecordsMatchSpecWrong : ChangeSpec := { name := "cueRecordsMatchSpec", fn := fun _ => fun
  | [d1, d2, d3, d4] => { results := [.lit (.bool false)], args := [d1, d2, d3, d4] }
  | _ => none }
def CueRecordsMatchSpecWrongFalsely : Prop := cueRecordsMatchSpecRow.holds Try.pinned (OpenSpec.ofChange cueRecordsMatchSpecWrong)

/-- 'cycloramalaw5.CueMarksAreNotSeen': WHATEVER THE INPUT: true; the input reads as it did. -/
def cueMarksAreNotSeenSpec : ChangeSpec := { name := "cueMarksAreNotSeen", fn := fun _ => fun
  | [d1, d2, d3] => { results := [.lit (.bool true)], args := [d1, d2, d3] }
  | _ => none }
def cueMarksAreNotSeenRow : OpenClaim := { program := "ytphgchakmkankaa", sum := "4b92dd723453ea5fb74bf82d8a06473bf3ba22026b581eb9c1167c343d85a86f", func := "cyclorama/cycloramalaw5.CueMarksAreNotSeen", spec := "cueMarksAreNotSeen", inPlace := ["internal/bytealg.abigen_runtime_cmpstring", "slices.overlaps[cyclorama/api.Move]"], unfollowed := true, recurses := true, plainKeys := false, apart := false }
def CueMarksAreNotSeenSaid : Prop := cueMarksAreNotSeenRow.holds Try.pinned (OpenSpec.ofChange cueMarksAreNotSeenSpec)

/-- ITS FALSE NEIGHBOUR: 'it returns false'. Refute it at one input. -/
def cueMarksAreNotSeenWrong : ChangeSpec := { name := "cueMarksAreNotSeen", fn := fun _ => fun
  | [d1, d2, d3] => { results := [.lit (.bool false)], args := [d1, d2, d3] }
  | _ => none }
def CueMarksAreNotSeenWrongFalsely : Prop := cueMarksAreNotSeenRow.holds Try.pinned (OpenSpec.ofChange cueMarksAreNotSeenWrong)

/-- 'cycloramalaw5.CueDeletesLeaveOthers': WHATEVER THE INPUT: true; the input reads as it did. -/
def cueDeletesLeaveOthersSpec : ChangeSpec := { name := "cueDeletesLeaveOthers", fn := fun _ => fun
  | [d1, d2] => { results := [.lit (.bool true)], args := [d1, d2] }
  | _ => none }
def cueDeletesLeaveOthersRow : OpenClaim := { program := "ytphgchakmkankaa", sum := "4b92dd723453ea5fb74bf82d8a06473bf3ba22026b581eb9c1167c343d85a86f", func := "cyclorama/cycloramalaw5.CueDeletesLeaveOthers", spec := "cueDeletesLeaveOthers", inPlace := ["internal/bytealg.abigen_runtime_cmpstring", "slices.overlaps[cyclorama/api.Move]"], unfollowed := true, recurses := true, plainKeys := false, apart := false }
def CueDeletesLeaveOthersSaid : Prop := cueDeletesLeaveOthersRow.holds Try.pinned (OpenSpec.ofChange cueDeletesLeaveOthersSpec)

/-- ITS FALSE NEIGHBOUR: 'it returns false'. Refute it at one input. -/
def cueDeletesLeaveOthersWrong : ChangeSpec := { name := "cueDeletesLeaveOthers", fn := fun _ => fun
  | [d1, d2] => { results := [.lit (.bool false)], args := [d1, d2] }
  | _ => none }
def CueDeletesLeaveOthersWrongFalsely : Prop := cueDeletesLeaveOthersRow.holds Try.pinned (OpenSpec.ofChange cueDeletesLeaveOthersWrong)

/-- 'cycloramalaw5.CueCleansChangeNothing': WHATEVER THE INPUT: true; the input reads as it did. -/
def cueCleansChangeNothingSpec : ChangeSpec := { name := "cueCleansChangeNothing", fn := fun _ => fun
  | [d1, d2] => { results := [.lit (.bool true)], args := [d1, d2] }
  | _ => none }
def cueCleansChangeNothingRow : OpenClaim := { program := "ytphgchakmkankaa", sum := "4b92dd723453ea5fb74bf82d8a06473bf3ba22026b581eb9c1167c343d85a86f", func := "cyclorama/cycloramalaw5.CueCleansChangeNothing", spec := "cueCleansChangeNothing", inPlace := ["internal/bytealg.abigen_runtime_cmpstring", "slices.overlaps[cyclorama/api.Move]"], unfollowed := true, recurses := true, plainKeys := false, apart := false }
def CueCleansChangeNothingSaid : Prop := cueCleansChangeNothingRow.holds Try.pinned (OpenSpec.ofChange cueCleansChangeNothingSpec)

/-- ITS FALSE NEIGHBOUR: 'it returns false'. Refute it at one input. -/
def cueCleansChangeNothingWrong : ChangeSpec := { name := "cueCleansChangeNothing", fn := fun _ => fun
  | [d1, d2] => { results := [.lit (.bool false)], args := [d1, d2] }
  | _ => none }
def CueCleansChangeNothingWrongFalsely : Prop := cueCleansChangeNothingRow.holds Try.pinned (OpenSpec.ofChange cueCleansChangeNothingWrong)

/-- 'cycloramalaw5.CueRecordsStayInTheirCue': WHATEVER THE INPUT: true; the input reads as it did. -/
def cueRecordsStayInTheirCueSpec : ChangeSpec := { name := "cueRecordsStayInTheirCue", fn := fun _ => fun
  | [d1, d2, d3, d4] => { results := [.lit (.bool true)], args := [d1, d2, d3, d4] }
  | _ => none }
def cueRecordsStayInTheirCueRow : OpenClaim := { program := "ytphgchakmkankaa", sum := "4b92dd723453ea5fb74bf82d8a06473bf3ba22026b581eb9c1167c343d85a86f", func := "cyclorama/cycloramalaw5.CueRecordsStayInTheirCue", spec := "cueRecordsStayInTheirCue", inPlace := ["internal/bytealg.abigen_runtime_cmpstring", "slices.overlaps[cyclorama/api.Cue]", "slices.overlaps[cyclorama/api.Move]"], unfollowed := true, recurses := true, plainKeys := false, apart := false }
def CueRecordsStayInTheirCueSaid : Prop := cueRecordsStayInTheirCueRow.holds Try.pinned (OpenSpec.ofChange cueRecordsStayInTheirCueSpec)

/-- ITS FALSE NEIGHBOUR: 'it returns false'. Refute it at one input. -/
def cueRecordsStayInTheirCueWrong : ChangeSpec := { name := "cueRecordsStayInTheirCue", fn := fun _ => fun
  | [d1, d2, d3, d4] => { results := [.lit (.bool false)], args := [d1, d2, d3, d4] }
  | _ => none }
def CueRecordsStayInTheirCueWrongFalsely : Prop := cueRecordsStayInTheirCueRow.holds Try.pinned (OpenSpec.ofChange cueRecordsStayInTheirCueWrong)

/-- 'cycloramalaw5.CueBlocksStopTracking': WHATEVER THE INPUT: true; the input reads as it did. -/
def cueBlocksStopTrackingSpec : ChangeSpec := { name := "cueBlocksStopTracking", fn := fun _ => fun
  | [d1, d2, d3, d4] => { results := [.lit (.bool true)], args := [d1, d2, d3, d4] }
  | _ => none }
def cueBlocksStopTrackingRow : OpenClaim := { program := "ytphgchakmkankaa", sum := "4b92dd723453ea5fb74bf82d8a06473bf3ba22026b581eb9c1167c343d85a86f", func := "cyclorama/cycloramalaw5.CueBlocksStopTracking", spec := "cueBlocksStopTracking", inPlace := ["internal/bytealg.abigen_runtime_cmpstring", "slices.overlaps[cyclorama/api.Move]", "slices.overlaps[cyclorama/api.Cue]"], unfollowed := true, recurses := true, plainKeys := false, apart := false }
def CueBlocksStopTrackingSaid : Prop := cueBlocksStopTrackingRow.holds Try.pinned (OpenSpec.ofChange cueBlocksStopTrackingSpec)

/-- ITS FALSE NEIGHBOUR: 'it returns false'. Refute it at one input. -/
def cueBlocksStopTrackingWrong : ChangeSpec := { name := "cueBlocksStopTracking", fn := fun _ => fun
  | [d1, d2, d3, d4] => { results := [.lit (.bool false)], args := [d1, d2, d3, d4] }
  | _ => none }
def CueBlocksStopTrackingWrongFalsely : Prop := cueBlocksStopTrackingRow.holds Try.pinned (OpenSpec.ofChange cueBlocksStopTrackingWrong)

/-- 'cycloramalaw5.CueCopiesLookAlike': WHATEVER THE INPUT: true; the input reads as it did. -/
def cueCopiesLookAlikeSpec : ChangeSpec := { name := "cueCopiesLookAlike", fn := fun _ => fun
  | [d1, d2, d3] => { results := [.lit (.bool true)], args := [d1, d2, d3] }
  | _ => none }
def cueCopiesLookAlikeRow : OpenClaim := { program := "ytphgchakmkankaa", sum := "4b92dd723453ea5fb74bf82d8a06473bf3ba22026b581eb9c1167c343d85a86f", func := "cyclorama/cycloramalaw5.CueCopiesLookAlike", spec := "cueCopiesLookAlike", inPlace := ["internal/bytealg.abigen_runtime_cmpstring", "slices.overlaps[cyclorama/api.Cue]", "slices.overlaps[cyclorama/api.Move]"], unfollowed := true, recurses := true, plainKeys := false, apart := false }
def CueCopiesLookAlikeSaid : Prop := cueCopiesLookAlikeRow.holds Try.pinned (OpenSpec.ofChange cueCopiesLookAlikeSpec)

/-- ITS FALSE NEIGHBOUR: 'it returns false'. Refute it at one input. -/
def cueCopiesLookAlikeWrong : ChangeSpec := { name := "cueCopiesLookAlike", fn := fun _ => fun
  | [d1, d2, d3] => { results := [.lit (.bool false)], args := [d1, d2, d3] }
  | _ => none }
def CueCopiesLookAlikeWrongFalsely : Prop := cueCopiesLookAlikeRow.holds Try.pinned (OpenSpec.ofChange cueCopiesLookAlikeWrong)

/- THE SECOND FORM. 'bulk': how many values and letters a reading holds, each counted each time it is reached (what is shared counts as often as it is met; a slice's spare places count too). A statement '..UptoSaid' is the law's where the arguments, and the package variables that the reading takes, are together of bulk at most 1048576: NARROWER than '..Said'. Prove '..Said' where nothing that the law and all that it calls make is longer than what came in: it says more and counts as full. Else prove '..UptoSaid'. A law counts once. -/
mutual
def uptoBulk {H : Type} : DataW H → Nat
  | .lit (.string bytes) => bytes.length + 1
  | .lit _ => 1
  | .nil => 1
  | .ptr d => uptoBulk d + 1
  | .slice elems spare => uptoBulkAll elems + uptoBulkAll spare + 1
  | .agg parts => uptoBulkAll parts + 1
  | .iface _ d => uptoBulk d + 1
  | .map entries => uptoBulkEntries entries + 1
  | .held _ => 1
def uptoBulkAll {H : Type} : List (DataW H) → Nat
  | [] => 0
  | d :: r => uptoBulk d + uptoBulkAll r
def uptoBulkEntries {H : Type} : List (Lit × DataW H) → Nat
  | [] => 0
  | x :: r => uptoBulkEntry x + uptoBulkEntries r
def uptoBulkEntry {H : Type} : Lit × DataW H → Nat
  | (.string bytes, d) => bytes.length + uptoBulk d + 1
  | (_, d) => uptoBulk d + 1
 end
def uptoSmall : (H : Type) → List (DataW H) → Bool := fun _ ds => decide (uptoBulkAll ds ≤ 1048576)
def OpenSpec.upto (s : _root_.Go.ChangeSpec) : _root_.Go.OpenSpec := { _root_.Go.OpenSpec.ofChange s with cond := some uptoSmall }

/-- 'cycloramalaw5.CueDeletesMatchSpec', WHERE WHAT IT READS IS OF BULK AT MOST 1048576: true; the input reads as it did. -/
def cueDeletesMatchSpecUptoRow : OpenClaim := { program := "ytphgchakmkankaa", sum := "4b92dd723453ea5fb74bf82d8a06473bf3ba22026b581eb9c1167c343d85a86f", func := "cyclorama/cycloramalaw5.CueDeletesMatchSpec", spec := "cueDeletesMatchSpec", inPlace := ["internal/bytealg.abigen_runtime_cmpstring", "slices.overlaps[cyclorama/api.Move]"], unfollowed := true, recurses := true, plainKeys := false, apart := false, narrowed := true }
def CueDeletesMatchSpecUptoSaid : Prop := cueDeletesMatchSpecUptoRow.holds Try.pinned (OpenSpec.upto cueDeletesMatchSpecSpec)

/-- 'cycloramalaw5.CueCleansMatchSpec', WHERE WHAT IT READS IS OF BULK AT MOST 1048576: true; the input reads as it did. -/
def cueCleansMatchSpecUptoRow : OpenClaim := { program := "ytphgchakmkankaa", sum := "4b92dd723453ea5fb74bf82d8a06473bf3ba22026b581eb9c1167c343d85a86f", func := "cyclorama/cycloramalaw5.CueCleansMatchSpec", spec := "cueCleansMatchSpec", inPlace := ["internal/bytealg.abigen_runtime_cmpstring", "slices.overlaps[cyclorama/api.Entry]", "slices.overlaps[cyclorama/api.Move]"], unfollowed := true, recurses := true, plainKeys := false, apart := false, narrowed := true }
def CueCleansMatchSpecUptoSaid : Prop := cueCleansMatchSpecUptoRow.holds Try.pinned (OpenSpec.upto cueCleansMatchSpecSpec)

/-- 'cycloramalaw5.CueRecordsMatchSpec', WHERE WHAT IT READS IS OF BULK AT MOST 1048576: true; the input reads as it did. -/
def cueRecordsMatchSpecUptoRow : OpenClaim := { program := "ytphgchakmkankaa", sum := "4b92dd723453ea5fb74bf82d8a06473bf3ba22026b581eb9c1167c343d85a86f", func := "cyclorama/cycloramalaw5.CueRecordsMatchSpec", spec := "cueRecordsMatchSpec", inPlace := ["internal/bytealg.abigen_runtime_cmpstring", "slices.overlaps[cyclorama/api.Cue]", "slices.overlaps[cyclorama/api.Move]", "slices.overlaps[cyclorama/api.Entry]"], unfollowed := true, recurses := true, plainKeys := false, apart := false, narrowed := true }
def CueRecordsMatchSpecUptoSaid : Prop := cueRecordsMatchSpecUptoRow.holds Try.pinned (OpenSpec.upto cueRecordsMatchSpecSpec)

/-- 'cycloramalaw5.CueMarksAreNotSeen', WHERE WHAT IT READS IS OF BULK AT MOST 1048576: true; the input reads as it did. -/
def cueMarksAreNotSeenUptoRow : OpenClaim := { program := "ytphgchakmkankaa", sum := "4b92dd723453ea5fb74bf82d8a06473bf3ba22026b581eb9c1167c343d85a86f", func := "cyclorama/cycloramalaw5.CueMarksAreNotSeen", spec := "cueMarksAreNotSeen", inPlace := ["internal/bytealg.abigen_runtime_cmpstring", "slices.overlaps[cyclorama/api.Move]"], unfollowed := true, recurses := true, plainKeys := false, apart := false, narrowed := true }
def CueMarksAreNotSeenUptoSaid : Prop := cueMarksAreNotSeenUptoRow.holds Try.pinned (OpenSpec.upto cueMarksAreNotSeenSpec)

/-- 'cycloramalaw5.CueDeletesLeaveOthers', WHERE WHAT IT READS IS OF BULK AT MOST 1048576: true; the input reads as it did. -/
def cueDeletesLeaveOthersUptoRow : OpenClaim := { program := "ytphgchakmkankaa", sum := "4b92dd723453ea5fb74bf82d8a06473bf3ba22026b581eb9c1167c343d85a86f", func := "cyclorama/cycloramalaw5.CueDeletesLeaveOthers", spec := "cueDeletesLeaveOthers", inPlace := ["internal/bytealg.abigen_runtime_cmpstring", "slices.overlaps[cyclorama/api.Move]"], unfollowed := true, recurses := true, plainKeys := false, apart := false, narrowed := true }
def CueDeletesLeaveOthersUptoSaid : Prop := cueDeletesLeaveOthersUptoRow.holds Try.pinned (OpenSpec.upto cueDeletesLeaveOthersSpec)

/-- 'cycloramalaw5.CueCleansChangeNothing', WHERE WHAT IT READS IS OF BULK AT MOST 1048576: true; the input reads as it did. -/
def cueCleansChangeNothingUptoRow : OpenClaim := { program := "ytphgchakmkankaa", sum := "4b92dd723453ea5fb74bf82d8a06473bf3ba22026b581eb9c1167c343d85a86f", func := "cyclorama/cycloramalaw5.CueCleansChangeNothing", spec := "cueCleansChangeNothing", inPlace := ["internal/bytealg.abigen_runtime_cmpstring", "slices.overlaps[cyclorama/api.Move]"], unfollowed := true, recurses := true, plainKeys := false, apart := false, narrowed := true }
def CueCleansChangeNothingUptoSaid : Prop := cueCleansChangeNothingUptoRow.holds Try.pinned (OpenSpec.upto cueCleansChangeNothingSpec)

/-- 'cycloramalaw5.CueRecordsStayInTheirCue', WHERE WHAT IT READS IS OF BULK AT MOST 1048576: true; the input reads as it did. -/
def cueRecordsStayInTheirCueUptoRow : OpenClaim := { program := "ytphgchakmkankaa", sum := "4b92dd723453ea5fb74bf82d8a06473bf3ba22026b581eb9c1167c343d85a86f", func := "cyclorama/cycloramalaw5.CueRecordsStayInTheirCue", spec := "cueRecordsStayInTheirCue", inPlace := ["internal/bytealg.abigen_runtime_cmpstring", "slices.overlaps[cyclorama/api.Cue]", "slices.overlaps[cyclorama/api.Move]"], unfollowed := true, recurses := true, plainKeys := false, apart := false, narrowed := true }
def CueRecordsStayInTheirCueUptoSaid : Prop := cueRecordsStayInTheirCueUptoRow.holds Try.pinned (OpenSpec.upto cueRecordsStayInTheirCueSpec)

/-- 'cycloramalaw5.CueBlocksStopTracking', WHERE WHAT IT READS IS OF BULK AT MOST 1048576: true; the input reads as it did. -/
def cueBlocksStopTrackingUptoRow : OpenClaim := { program := "ytphgchakmkankaa", sum := "4b92dd723453ea5fb74bf82d8a06473bf3ba22026b581eb9c1167c343d85a86f", func := "cyclorama/cycloramalaw5.CueBlocksStopTracking", spec := "cueBlocksStopTracking", inPlace := ["internal/bytealg.abigen_runtime_cmpstring", "slices.overlaps[cyclorama/api.Move]", "slices.overlaps[cyclorama/api.Cue]"], unfollowed := true, recurses := true, plainKeys := false, apart := false, narrowed := true }
def CueBlocksStopTrackingUptoSaid : Prop := cueBlocksStopTrackingUptoRow.holds Try.pinned (OpenSpec.upto cueBlocksStopTrackingSpec)

/-- 'cycloramalaw5.CueCopiesLookAlike', WHERE WHAT IT READS IS OF BULK AT MOST 1048576: true; the input reads as it did. -/
def cueCopiesLookAlikeUptoRow : OpenClaim := { program := "ytphgchakmkankaa", sum := "4b92dd723453ea5fb74bf82d8a06473bf3ba22026b581eb9c1167c343d85a86f", func := "cyclorama/cycloramalaw5.CueCopiesLookAlike", spec := "cueCopiesLookAlike", inPlace := ["internal/bytealg.abigen_runtime_cmpstring", "slices.overlaps[cyclorama/api.Cue]", "slices.overlaps[cyclorama/api.Move]"], unfollowed := true, recurses := true, plainKeys := false, apart := false, narrowed := true }
def CueCopiesLookAlikeUptoSaid : Prop := cueCopiesLookAlikeUptoRow.holds Try.pinned (OpenSpec.upto cueCopiesLookAlikeSpec)

end Rows
end Go.Proofs.Ytphgchakmkankaa
