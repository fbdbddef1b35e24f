/-
  No cell of these rows narrows 'for every input' (looked for: loops, veiled, ifaces, maps, wideKeys, modest, calm, conditions, laid).
  DERIVED. THE GIVEN ROWS OF THIS SEAT. 3 by the template 'for every input the law returns true; each argument reads behind the call as it read before'; 0 by the template 'total and deterministic' (their statements: YtphgchakmkankaaGreatTotals.lean).
  GIVEN WITH THE SEED: the statements are not yours to turn. If you find one false, say at which input.
  Laid BY PROGRAM, IN A SANDBOX (cutbox-rows.mjs): the forced cells as the released guide's own fill.sh prints them over the translation 4d0ddd55a353eb19… (all of the seat's roots in one cut). By AI agents, Wed Nov 11 2026. No macro, syntax, notation, axiom, sorry.
-/
import Derived.Test.YtphgchakmkankaaGreatChecked
import GoSem.Claim
import GoSem.ClaimJoined
import GoSem.ClaimMapViews
import Derived.JoinedTies
import Derived.KernelRfl
namespace Go.Proofs.YtphgchakmkankaaGreat
/- THE CELL 'sum', in the pinned program and in every row, IS THE sha256 OF THE DUMP (.gsa) THAT YtphgchakmkankaaGreatProg.lean LOADS. Nothing in Lean hashes anything: it is a label: what it is worth is what the hold of that sum in a sandbox is worth. -/
noncomputable def Tryz.pinned : Pinned := { name := "ytphgchakmkankaagreat", sum := "4d0ddd55a353eb198f1a863fe4b94553c123b5e774de822b026358b445547d06", checked := Tryz.checked }
namespace Rows
def none {H : Type} : Left H := { results := [], args := [] }

/-- 'cycloramalaw5.CueMarksMatchSpec': WHATEVER THE INPUT: true; the input reads as it did. -/
def cueMarksMatchSpecSpec : ChangeSpec := { name := "cueMarksMatchSpec", fn := fun _ => fun
  | [d1, d2, d3] => { results := [.lit (.bool true)], args := [d1, d2, d3] }
  | _ => none }
def cueMarksMatchSpecRow : OpenClaim := { program := "ytphgchakmkankaagreat", sum := "4d0ddd55a353eb198f1a863fe4b94553c123b5e774de822b026358b445547d06", func := "cyclorama/cycloramalaw5.CueMarksMatchSpec", spec := "cueMarksMatchSpec", inPlace := ["internal/bytealg.abigen_runtime_cmpstring", "slices.overlaps[cyclorama/api.Entry]", "slices.overlaps[cyclorama/api.Move]"], unfollowed := true, recurses := true, plainKeys := false, apart := false }
def CueMarksMatchSpecSaid : Prop := cueMarksMatchSpecRow.holds Tryz.pinned (OpenSpec.ofChange cueMarksMatchSpecSpec)

/-- ITS FALSE NEIGHBOUR: 'it returns false'. Refute it at one input. -/
def cueMarksMatchSpecWrong : ChangeSpec := { name := "cueMarksMatchSpec", fn := fun _ => fun
  | [d1, d2, d3] => { results := [.lit (.bool false)], args := [d1, d2, d3] }
  | _ => none }
def CueMarksMatchSpecWrongFalsely : Prop := cueMarksMatchSpecRow.holds Tryz.pinned (OpenSpec.ofChange cueMarksMatchSpecWrong)

/-- 'cycloramalaw5.CueCopiesMatchSpec': WHATEVER THE INPUT: true; the input reads as it did. -/
def cueCopiesMatchSpecSpec : ChangeSpec := { name := "cueCopiesMatchSpec", fn := fun _ => fun
  | [d1, d2, d3] => { results := [.lit (.bool true)], args := [d1, d2, d3] }
  | _ => none }
def cueCopiesMatchSpecRow : OpenClaim := { program := "ytphgchakmkankaagreat", sum := "4d0ddd55a353eb198f1a863fe4b94553c123b5e774de822b026358b445547d06", func := "cyclorama/cycloramalaw5.CueCopiesMatchSpec", spec := "cueCopiesMatchSpec", inPlace := ["internal/bytealg.abigen_runtime_cmpstring", "slices.overlaps[cyclorama/api.Cue]", "slices.overlaps[cyclorama/api.Move]", "slices.overlaps[cyclorama/api.Entry]"], unfollowed := true, recurses := true, plainKeys := false, apart := false }
def CueCopiesMatchSpecSaid : Prop := cueCopiesMatchSpecRow.holds Tryz.pinned (OpenSpec.ofChange cueCopiesMatchSpecSpec)

/-- ITS FALSE NEIGHBOUR: 'it returns false'. Refute it at one input. -/
def cueCopiesMatchSpecWrong : ChangeSpec := { name := "cueCopiesMatchSpec", fn := fun _ => fun
  | [d1, d2, d3] => { results := [.lit (.bool false)], args := [d1, d2, d3] }
  | _ => none }
def CueCopiesMatchSpecWrongFalsely : Prop := cueCopiesMatchSpecRow.holds Tryz.pinned (OpenSpec.ofChange cueCopiesMatchSpecWrong)

/-- 'cycloramalaw5.CueListsMatchSpec': WHATEVER THE INPUT: true; the input reads as it did. -/
def cueListsMatchSpecSpec : ChangeSpec := { name := "cueListsMatchSpec", fn := fun _ => fun
  | [d1, d2, d3, d4] => { results := [.lit (.bool true)], args := [d1, d2, d3, d4] }
  | _ => none }
def cueListsMatchSpecRow : OpenClaim := { program := "ytphgchakmkankaagreat", sum := "4d0ddd55a353eb198f1a863fe4b94553c123b5e774de822b026358b445547d06", func := "cyclorama/cycloramalaw5.CueListsMatchSpec", spec := "cueListsMatchSpec", inPlace := ["internal/bytealg.abigen_runtime_cmpstring", "slices.overlaps[cyclorama/api.Entry]"], unfollowed := true, recurses := true, plainKeys := false, apart := false }
def CueListsMatchSpecSaid : Prop := cueListsMatchSpecRow.holds Tryz.pinned (OpenSpec.ofChange cueListsMatchSpecSpec)

/-- ITS FALSE NEIGHBOUR: 'it returns false'. Refute it at one input. -/
def cueListsMatchSpecWrong : ChangeSpec := { name := "cueListsMatchSpec", fn := fun _ => fun
  | [d1, d2, d3, d4] => { results := [.lit (.bool false)], args := [d1, d2, d3, d4] }
  | _ => none }
def CueListsMatchSpecWrongFalsely : Prop := cueListsMatchSpecRow.holds Tryz.pinned (OpenSpec.ofChange cueListsMatchSpecWrong)

/- THE SECOND FORM. 'bulk': how many values and letters a reading holds, each counted each time it is reached (what is shared counts as often as it is met; a slice's spare places count too). A statement '..UptoSaid' is the law's where the arguments, and the package variables that the reading takes, are together of bulk at most 1048576: NARROWER than '..Said'. Prove '..Said' where nothing that the law and all that it calls make is longer than what came in: it says more and counts as full. Else prove '..UptoSaid'. A law counts once. -/
mutual
def uptoBulk {H : Type} : DataW H → Nat
  | .lit (.string bytes) => bytes.length + 1
  | .lit _ => 1
  | .nil => 1
  | .ptr d => uptoBulk d + 1
  | .slice elems spare => uptoBulkAll elems + uptoBulkAll spare + 1
  | .agg parts => uptoBulkAll parts + 1
  | .iface _ d => uptoBulk d + 1
  | .map entries => uptoBulkEntries entries + 1
  | .held _ => 1
def uptoBulkAll {H : Type} : List (DataW H) → Nat
  | [] => 0
  | d :: r => uptoBulk d + uptoBulkAll r
def uptoBulkEntries {H : Type} : List (Lit × DataW H) → Nat
  | [] => 0
  | x :: r => uptoBulkEntry x + uptoBulkEntries r
def uptoBulkEntry {H : Type} : Lit × DataW H → Nat
  | (.string bytes, d) => bytes.length + uptoBulk d + 1
  | (_, d) => uptoBulk d + 1
 end
def uptoSmall : (H : Type) → List (DataW H) → Bool := fun _ ds => decide (uptoBulkAll ds ≤ 1048576)
def OpenSpec.upto (s : _root_.Go.ChangeSpec) : _root_.Go.OpenSpec := { _root_.Go.OpenSpec.ofChange s with cond := some uptoSmall }

/-- 'cycloramalaw5.CueMarksMatchSpec', WHERE WHAT IT READS IS OF BULK AT MOST 1048576: true; the input reads as it did. -/
def cueMarksMatchSpecUptoRow : OpenClaim := { program := "ytphgchakmkankaagreat", sum := "4d0ddd55a353eb198f1a863fe4b94553c123b5e774de822b026358b445547d06", func := "cyclorama/cycloramalaw5.CueMarksMatchSpec", spec := "cueMarksMatchSpec", inPlace := ["internal/bytealg.abigen_runtime_cmpstring", "slices.overlaps[cyclorama/api.Entry]", "slices.overlaps[cyclorama/api.Move]"], unfollowed := true, recurses := true, plainKeys := false, apart := false, narrowed := true }
def CueMarksMatchSpecUptoSaid : Prop := cueMarksMatchSpecUptoRow.holds Tryz.pinned (OpenSpec.upto cueMarksMatchSpecSpec)

/-- 'cycloramalaw5.CueCopiesMatchSpec', WHERE WHAT IT READS IS OF BULK AT MOST 1048576: true; the input reads as it did. -/
def cueCopiesMatchSpecUptoRow : OpenClaim := { program := "ytphgchakmkankaagreat", sum := "4d0ddd55a353eb198f1a863fe4b94553c123b5e774de822b026358b445547d06", func := "cyclorama/cycloramalaw5.CueCopiesMatchSpec", spec := "cueCopiesMatchSpec", inPlace := ["internal/bytealg.abigen_runtime_cmpstring", "slices.overlaps[cyclorama/api.Cue]", "slices.overlaps[cyclorama/api.Move]", "slices.overlaps[cyclorama/api.Entry]"], unfollowed := true, recurses := true, plainKeys := false, apart := false, narrowed := true }
def CueCopiesMatchSpecUptoSaid : Prop := cueCopiesMatchSpecUptoRow.holds Tryz.pinned (OpenSpec.upto cueCopiesMatchSpecSpec)

/-- 'cycloramalaw5.CueListsMatchSpec', WHERE WHAT IT READS IS OF BULK AT MOST 1048576: true; the input reads as it did. -/
def cueListsMatchSpecUptoRow : OpenClaim := { program := "ytphgchakmkankaagreat", sum := "4d0ddd55a353eb198f1a863fe4b94553c123b5e774de822b026358b445547d06", func := "cyclorama/cycloramalaw5.CueListsMatchSpec", spec := "cueListsMatchSpec", inPlace := ["internal/bytealg.abigen_runtime_cmpstring", "slices.overlaps[cyclorama/api.Entry]"], unfollowed := true, recurses := true, plainKeys := false, apart := false, narrowed := true }
def CueListsMatchSpecUptoSaid : Prop := cueListsMatchSpecUptoRow.holds Tryz.pinned (OpenSpec.upto cueListsMatchSpecSpec)

end Rows
end Go.Proofs.YtphgchakmkankaaGreat
