/-
  No cell of these rows narrows 'for every input' (looked for: loops, veiled, ifaces, maps, wideKeys, modest, calm, conditions, laid).
  DERIVED. THE GIVEN ROWS OF THIS SEAT. 7 by the template 'for every input the law returns true; each argument reads behind the call as it read before'; 0 by the template 'total and deterministic' (their statements: YtooknfkholjpbaaGreatTotals.lean).
  GIVEN WITH THE SEED: the statements are not yours to turn. If you find one false, say at which input.
  Laid BY PROGRAM, IN A SANDBOX (cutbox-rows.mjs): the forced cells as the released guide's own fill.sh prints them over the translation 2bf499b6770029e6… (all of the seat's roots in one cut). By AI agents, Wed Nov 11 2026. No macro, syntax, notation, axiom, sorry.
-/
import Derived.Test.YtooknfkholjpbaaGreatChecked
import GoSem.Claim
import GoSem.ClaimJoined
import GoSem.ClaimMapViews
import Derived.JoinedTies
import Derived.KernelRfl
namespace Go.Proofs.YtooknfkholjpbaaGreat
/- THE CELL 'sum', in the pinned program and in every row, IS THE sha256 OF THE DUMP (.gsa) THAT YtooknfkholjpbaaGreatProg.lean LOADS. Nothing in Lean hashes anything: it is a label: what it is worth is what the hold of that sum in a sandbox is worth. -/
noncomputable def Tryz.pinned : Pinned := { name := "ytooknfkholjpbaagreat", sum := "2bf499b6770029e6a9d35688a4b2c91117b2634c81b69817bbaee0e9f2dc0aaa", checked := Tryz.checked }
namespace Rows
def none {H : Type} : Left H := { results := [], args := [] }

/-- 'cycloramalaw6.PlayMastersScale': WHATEVER THE INPUT: true; the input reads as it did. -/
def playMastersScaleSpec : ChangeSpec := { name := "playMastersScale", fn := fun _ => fun
  | [d1, d2, d3] => { results := [.lit (.bool true)], args := [d1, d2, d3] }
  | _ => none }
def playMastersScaleRow : OpenClaim := { program := "ytooknfkholjpbaagreat", sum := "2bf499b6770029e6a9d35688a4b2c91117b2634c81b69817bbaee0e9f2dc0aaa", func := "cyclorama/cycloramalaw6.PlayMastersScale", spec := "playMastersScale", inPlace := ["internal/bytealg.abigen_runtime_cmpstring", "math/bits.Add64"], unfollowed := true, recurses := true, plainKeys := false, apart := false }
def PlayMastersScaleSaid : Prop := playMastersScaleRow.holds Tryz.pinned (OpenSpec.ofChange playMastersScaleSpec)

/-- ITS FALSE NEIGHBOUR: 'it returns false'. Refute it at one input. -/
def playMastersScaleWrong : ChangeSpec := { name := "playMastersScale", fn := fun _ => fun
  | [d1, d2, d3] => { results := [.lit (.bool false)], args := [d1, d2, d3] }
  | _ => none }
def PlayMastersScaleWrongFalsely : Prop := playMastersScaleRow.holds Tryz.pinned (OpenSpec.ofChange playMastersScaleWrong)

/-- 'cycloramalaw6.PlayPausesStandStill': WHATEVER THE INPUT: true; the input reads as it did. -/
def playPausesStandStillSpec : ChangeSpec := { name := "playPausesStandStill", fn := fun _ => fun
  | [d1, d2, d3] => { results := [.lit (.bool true)], args := [d1, d2, d3] }
  | _ => none }
def playPausesStandStillRow : OpenClaim := { program := "ytooknfkholjpbaagreat", sum := "2bf499b6770029e6a9d35688a4b2c91117b2634c81b69817bbaee0e9f2dc0aaa", func := "cyclorama/cycloramalaw6.PlayPausesStandStill", spec := "playPausesStandStill", inPlace := ["internal/bytealg.abigen_runtime_cmpstring", "math/bits.Add64"], unfollowed := true, recurses := true, plainKeys := false, apart := false }
def PlayPausesStandStillSaid : Prop := playPausesStandStillRow.holds Tryz.pinned (OpenSpec.ofChange playPausesStandStillSpec)

/-- ITS FALSE NEIGHBOUR: 'it returns false'. Refute it at one input. -/
def playPausesStandStillWrong : ChangeSpec := { name := "playPausesStandStill", fn := fun _ => fun
  | [d1, d2, d3] => { results := [.lit (.bool false)], args := [d1, d2, d3] }
  | _ => none }
def PlayPausesStandStillWrongFalsely : Prop := playPausesStandStillRow.holds Tryz.pinned (OpenSpec.ofChange playPausesStandStillWrong)

/-- 'cycloramalaw6.PlayReplaysComeBack': WHATEVER THE INPUT: true; the input reads as it did. -/
def playReplaysComeBackSpec : ChangeSpec := { name := "playReplaysComeBack", fn := fun _ => fun
  | [d1, d2, d3] => { results := [.lit (.bool true)], args := [d1, d2, d3] }
  | _ => none }
def playReplaysComeBackRow : OpenClaim := { program := "ytooknfkholjpbaagreat", sum := "2bf499b6770029e6a9d35688a4b2c91117b2634c81b69817bbaee0e9f2dc0aaa", func := "cyclorama/cycloramalaw6.PlayReplaysComeBack", spec := "playReplaysComeBack", inPlace := ["internal/bytealg.abigen_runtime_cmpstring", "math/bits.Add64"], unfollowed := true, recurses := true, plainKeys := false, apart := false }
def PlayReplaysComeBackSaid : Prop := playReplaysComeBackRow.holds Tryz.pinned (OpenSpec.ofChange playReplaysComeBackSpec)

/-- ITS FALSE NEIGHBOUR: 'it returns false'. Refute it at one input. -/
def playReplaysComeBackWrong : ChangeSpec := { name := "playReplaysComeBack", fn := fun _ => fun
  | [d1, d2, d3] => { results := [.lit (.bool false)], args := [d1, d2, d3] }
  | _ => none }
def PlayReplaysComeBackWrongFalsely : Prop := playReplaysComeBackRow.holds Tryz.pinned (OpenSpec.ofChange playReplaysComeBackWrong)

/-- 'cycloramalaw6.PlayAskingDoesNotMatter': WHATEVER THE INPUT: true; the input reads as it did. -/
def playAskingDoesNotMatterSpec : ChangeSpec := { name := "playAskingDoesNotMatter", fn := fun _ => fun
  | [d1, d2, d3, d4] => { results := [.lit (.bool true)], args := [d1, d2, d3, d4] }
  | _ => none }
def playAskingDoesNotMatterRow : OpenClaim := { program := "ytooknfkholjpbaagreat", sum := "2bf499b6770029e6a9d35688a4b2c91117b2634c81b69817bbaee0e9f2dc0aaa", func := "cyclorama/cycloramalaw6.PlayAskingDoesNotMatter", spec := "playAskingDoesNotMatter", inPlace := ["internal/bytealg.abigen_runtime_cmpstring", "math/bits.Add64"], unfollowed := true, recurses := true, plainKeys := false, apart := false }
def PlayAskingDoesNotMatterSaid : Prop := playAskingDoesNotMatterRow.holds Tryz.pinned (OpenSpec.ofChange playAskingDoesNotMatterSpec)

/-- ITS FALSE NEIGHBOUR: 'it returns false'. Refute it at one input. -/
def playAskingDoesNotMatterWrong : ChangeSpec := { name := "playAskingDoesNotMatter", fn := fun _ => fun
  | [d1, d2, d3, d4] => { results := [.lit (.bool false)], args := [d1, d2, d3, d4] }
  | _ => none }
def PlayAskingDoesNotMatterWrongFalsely : Prop := playAskingDoesNotMatterRow.holds Tryz.pinned (OpenSpec.ofChange playAskingDoesNotMatterWrong)

/-- 'cycloramalaw6.PlayGoesToTheCue': WHATEVER THE INPUT: true; the input reads as it did. -/
def playGoesToTheCueSpec : ChangeSpec := { name := "playGoesToTheCue", fn := fun _ => fun
  | [d1, d2] => { results := [.lit (.bool true)], args := [d1, d2] }
  | _ => none }
def playGoesToTheCueRow : OpenClaim := { program := "ytooknfkholjpbaagreat", sum := "2bf499b6770029e6a9d35688a4b2c91117b2634c81b69817bbaee0e9f2dc0aaa", func := "cyclorama/cycloramalaw6.PlayGoesToTheCue", spec := "playGoesToTheCue", inPlace := ["internal/bytealg.abigen_runtime_cmpstring", "math/bits.Add64", "slices.overlaps[cyclorama/api.Entry]"], unfollowed := true, recurses := true, plainKeys := false, apart := false }
def PlayGoesToTheCueSaid : Prop := playGoesToTheCueRow.holds Tryz.pinned (OpenSpec.ofChange playGoesToTheCueSpec)

/-- ITS FALSE NEIGHBOUR: 'it returns false'. Refute it at one input. -/
def playGoesToTheCueWrong : ChangeSpec := { name := "playGoesToTheCue", fn := fun _ => fun
  | [d1, d2] => { results := [.lit (.bool false)], args := [d1, d2] }
  | _ => none }
def PlayGoesToTheCueWrongFalsely : Prop := playGoesToTheCueRow.holds Tryz.pinned (OpenSpec.ofChange playGoesToTheCueWrong)

/-- 'cycloramalaw6.PlayDesksMatchSpec': WHATEVER THE INPUT: true; the input reads as it did. -/
def playDesksMatchSpecSpec : ChangeSpec := { name := "playDesksMatchSpec", fn := fun _ => fun
  | [d1, d2, d3] => { results := [.lit (.bool true)], args := [d1, d2, d3] }
  | _ => none }
def playDesksMatchSpecRow : OpenClaim := { program := "ytooknfkholjpbaagreat", sum := "2bf499b6770029e6a9d35688a4b2c91117b2634c81b69817bbaee0e9f2dc0aaa", func := "cyclorama/cycloramalaw6.PlayDesksMatchSpec", spec := "playDesksMatchSpec", inPlace := ["internal/bytealg.abigen_runtime_cmpstring", "math/bits.Add64", "slices.overlaps[cyclorama/api.Entry]", "slices.overlaps[cyclorama/api.Run]"], unfollowed := true, recurses := true, plainKeys := false, apart := false }
def PlayDesksMatchSpecSaid : Prop := playDesksMatchSpecRow.holds Tryz.pinned (OpenSpec.ofChange playDesksMatchSpecSpec)

/-- ITS FALSE NEIGHBOUR: 'it returns false'. Refute it at one input. -/
def playDesksMatchSpecWrong : ChangeSpec := { name := "playDesksMatchSpec", fn := fun _ => fun
  | [d1, d2, d3] => { results := [.lit (.bool false)], args := [d1, d2, d3] }
  | _ => none }
def PlayDesksMatchSpecWrongFalsely : Prop := playDesksMatchSpecRow.holds Tryz.pinned (OpenSpec.ofChange playDesksMatchSpecWrong)

/-- 'cycloramalaw6.PlayKeysMatchSpec': WHATEVER THE INPUT: true; the input reads as it did. -/
def playKeysMatchSpecSpec : ChangeSpec := { name := "playKeysMatchSpec", fn := fun _ => fun
  | [d1, d2, d3, d4, d5] => { results := [.lit (.bool true)], args := [d1, d2, d3, d4, d5] }
  | _ => none }
def playKeysMatchSpecRow : OpenClaim := { program := "ytooknfkholjpbaagreat", sum := "2bf499b6770029e6a9d35688a4b2c91117b2634c81b69817bbaee0e9f2dc0aaa", func := "cyclorama/cycloramalaw6.PlayKeysMatchSpec", spec := "playKeysMatchSpec", inPlace := ["internal/bytealg.abigen_runtime_cmpstring", "math/bits.Add64", "slices.overlaps[cyclorama/api.Entry]", "slices.overlaps[cyclorama/api.Run]"], unfollowed := true, recurses := true, plainKeys := false, apart := false }
def PlayKeysMatchSpecSaid : Prop := playKeysMatchSpecRow.holds Tryz.pinned (OpenSpec.ofChange playKeysMatchSpecSpec)

/-- ITS FALSE NEIGHBOUR: 'it returns false'. Refute it at one input. -/
def playKeysMatchSpecWrong : ChangeSpec := { name := "playKeysMatchSpec", fn := fun _ => fun
  | [d1, d2, d3, d4, d5] => { results := [.lit (.bool false)], args := [d1, d2, d3, d4, d5] }
  | _ => none }
def PlayKeysMatchSpecWrongFalsely : Prop := playKeysMatchSpecRow.holds Tryz.pinned (OpenSpec.ofChange playKeysMatchSpecWrong)

/- THE SECOND FORM. 'bulk': how many values and letters a reading holds, each counted each time it is reached (what is shared counts as often as it is met; a slice's spare places count too). A statement '..UptoSaid' is the law's where the arguments, and the package variables that the reading takes, are together of bulk at most 1048576: NARROWER than '..Said'. Prove '..Said' where nothing that the law and all that it calls make is longer than what came in: it says more and counts as full. Else prove '..UptoSaid'. A law counts once. -/
mutual
def uptoBulk {H : Type} : DataW H → Nat
  | .lit (.string bytes) => bytes.length + 1
  | .lit _ => 1
  | .nil => 1
  | .ptr d => uptoBulk d + 1
  | .slice elems spare => uptoBulkAll elems + uptoBulkAll spare + 1
  | .agg parts => uptoBulkAll parts + 1
  | .iface _ d => uptoBulk d + 1
  | .map entries => uptoBulkEntries entries + 1
  | .held _ => 1
def uptoBulkAll {H : Type} : List (DataW H) → Nat
  | [] => 0
  | d :: r => uptoBulk d + uptoBulkAll r
def uptoBulkEntries {H : Type} : List (Lit × DataW H) → Nat
  | [] => 0
  | x :: r => uptoBulkEntry x + uptoBulkEntries r
def uptoBulkEntry {H : Type} : Lit × DataW H → Nat
  | (.string bytes, d) => bytes.length + uptoBulk d + 1
  | (_, d) => uptoBulk d + 1
 end
def uptoSmall : (H : Type) → List (DataW H) → Bool := fun _ ds => decide (uptoBulkAll ds ≤ 1048576)
def OpenSpec.upto (s : _root_.Go.ChangeSpec) : _root_.Go.OpenSpec := { _root_.Go.OpenSpec.ofChange s with cond := some uptoSmall }

/-- 'cycloramalaw6.PlayMastersScale', WHERE WHAT IT READS IS OF BULK AT MOST 1048576: true; the input reads as it did. -/
def playMastersScaleUptoRow : OpenClaim := { program := "ytooknfkholjpbaagreat", sum := "2bf499b6770029e6a9d35688a4b2c91117b2634c81b69817bbaee0e9f2dc0aaa", func := "cyclorama/cycloramalaw6.PlayMastersScale", spec := "playMastersScale", inPlace := ["internal/bytealg.abigen_runtime_cmpstring", "math/bits.Add64"], unfollowed := true, recurses := true, plainKeys := false, apart := false, narrowed := true }
def PlayMastersScaleUptoSaid : Prop := playMastersScaleUptoRow.holds Tryz.pinned (OpenSpec.upto playMastersScaleSpec)

/-- 'cycloramalaw6.PlayPausesStandStill', WHERE WHAT IT READS IS OF BULK AT MOST 1048576: true; the input reads as it did. -/
def playPausesStandStillUptoRow : OpenClaim := { program := "ytooknfkholjpbaagreat", sum := "2bf499b6770029e6a9d35688a4b2c91117b2634c81b69817bbaee0e9f2dc0aaa", func := "cyclorama/cycloramalaw6.PlayPausesStandStill", spec := "playPausesStandStill", inPlace := ["internal/bytealg.abigen_runtime_cmpstring", "math/bits.Add64"], unfollowed := true, recurses := true, plainKeys := false, apart := false, narrowed := true }
def PlayPausesStandStillUptoSaid : Prop := playPausesStandStillUptoRow.holds Tryz.pinned (OpenSpec.upto playPausesStandStillSpec)

/-- 'cycloramalaw6.PlayReplaysComeBack', WHERE WHAT IT READS IS OF BULK AT MOST 1048576: true; the input reads as it did. -/
def playReplaysComeBackUptoRow : OpenClaim := { program := "ytooknfkholjpbaagreat", sum := "2bf499b6770029e6a9d35688a4b2c91117b2634c81b69817bbaee0e9f2dc0aaa", func := "cyclorama/cycloramalaw6.PlayReplaysComeBack", spec := "playReplaysComeBack", inPlace := ["internal/bytealg.abigen_runtime_cmpstring", "math/bits.Add64"], unfollowed := true, recurses := true, plainKeys := false, apart := false, narrowed := true }
def PlayReplaysComeBackUptoSaid : Prop := playReplaysComeBackUptoRow.holds Tryz.pinned (OpenSpec.upto playReplaysComeBackSpec)

/-- 'cycloramalaw6.PlayAskingDoesNotMatter', WHERE WHAT IT READS IS OF BULK AT MOST 1048576: true; the input reads as it did. -/
def playAskingDoesNotMatterUptoRow : OpenClaim := { program := "ytooknfkholjpbaagreat", sum := "2bf499b6770029e6a9d35688a4b2c91117b2634c81b69817bbaee0e9f2dc0aaa", func := "cyclorama/cycloramalaw6.PlayAskingDoesNotMatter", spec := "playAskingDoesNotMatter", inPlace := ["internal/bytealg.abigen_runtime_cmpstring", "math/bits.Add64"], unfollowed := true, recurses := true, plainKeys := false, apart := false, narrowed := true }
def PlayAskingDoesNotMatterUptoSaid : Prop := playAskingDoesNotMatterUptoRow.holds Tryz.pinned (OpenSpec.upto playAskingDoesNotMatterSpec)

/-- 'cycloramalaw6.PlayGoesToTheCue', WHERE WHAT IT READS IS OF BULK AT MOST 1048576: true; the input reads as it did. -/
def playGoesToTheCueUptoRow : OpenClaim := { program := "ytooknfkholjpbaagreat", sum := "2bf499b6770029e6a9d35688a4b2c91117b2634c81b69817bbaee0e9f2dc0aaa", func := "cyclorama/cycloramalaw6.PlayGoesToTheCue", spec := "playGoesToTheCue", inPlace := ["internal/bytealg.abigen_runtime_cmpstring", "math/bits.Add64", "slices.overlaps[cyclorama/api.Entry]"], unfollowed := true, recurses := true, plainKeys := false, apart := false, narrowed := true }
def PlayGoesToTheCueUptoSaid : Prop := playGoesToTheCueUptoRow.holds Tryz.pinned (OpenSpec.upto playGoesToTheCueSpec)

/-- 'cycloramalaw6.PlayDesksMatchSpec', WHERE WHAT IT READS IS OF BULK AT MOST 1048576: true; the input reads as it did. -/
def playDesksMatchSpecUptoRow : OpenClaim := { program := "ytooknfkholjpbaagreat", sum := "2bf499b6770029e6a9d35688a4b2c91117b2634c81b69817bbaee0e9f2dc0aaa", func := "cyclorama/cycloramalaw6.PlayDesksMatchSpec", spec := "playDesksMatchSpec", inPlace := ["internal/bytealg.abigen_runtime_cmpstring", "math/bits.Add64", "slices.overlaps[cyclorama/api.Entry]", "slices.overlaps[cyclorama/api.Run]"], unfollowed := true, recurses := true, plainKeys := false, apart := false, narrowed := true }
def PlayDesksMatchSpecUptoSaid : Prop := playDesksMatchSpecUptoRow.holds Tryz.pinned (OpenSpec.upto playDesksMatchSpecSpec)

/-- 'cycloramalaw6.PlayKeysMatchSpec', WHERE WHAT IT READS IS OF BULK AT MOST 1048576: true; the input reads as it did. -/
def playKeysMatchSpecUptoRow : OpenClaim := { program := "ytooknfkholjpbaagreat", sum := "2bf499b6770029e6a9d35688a4b2c91117b2634c81b69817bbaee0e9f2dc0aaa", func := "cyclorama/cycloramalaw6.PlayKeysMatchSpec", spec := "playKeysMatchSpec", inPlace := ["internal/bytealg.abigen_runtime_cmpstring", "math/bits.Add64", "slices.overlaps[cyclorama/api.Entry]", "slices.overlaps[cyclorama/api.Run]"], unfollowed := true, recurses := true, plainKeys := false, apart := false, narrowed := true }
def PlayKeysMatchSpecUptoSaid : Prop := playKeysMatchSpecUptoRow.holds Tryz.pinned (OpenSpec.upto playKeysMatchSpecSpec)

end Rows
end Go.Proofs.YtooknfkholjpbaaGreat
