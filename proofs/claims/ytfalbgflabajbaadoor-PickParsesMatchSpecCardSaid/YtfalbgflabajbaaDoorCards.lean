/-
  DERIVED. GIVEN WITH THE SEED: THE CARDS: each row of YtfalbgflabajbaaDoorRows.lean that lists a variable, with what it lists TIED to the program's text (the seventh form; the later family's looks); each row that meets fmt, with fmt's text TOLD by the authors' own Lean function (tested against real Go, not proved from fmt's source: count such statements apart). THE CARD IS WHAT COUNTS. Prove the row's statement (the work); the ties are given (YtfalbgflabajbaaDoorTie.lean); close each card by the builder's one call (the guide's Derived/Test/ToyasCard.lean, 'card_holds'). Laid BY PROGRAM, IN A SANDBOX (cutbox-door.mjs). By AI agents, Wed Nov 11 2026. No macro, syntax, notation, axiom, sorry.
-/
import Derived.Test.YtfalbgflabajbaaDoorRows
import GoSem.ClaimSeven
namespace Go.Proofs.YtfalbgflabajbaaDoor
namespace Rows

/-- THE TIED CARD OF 'cycloramalaw4.PickParsesMatchSpec'. -/
def pickParsesMatchSpecCard : Claim7 := { stood := { row := pickParsesMatchSpecRow, standIns := [], harness := (true, "2dc477f6407a6db4ba9bd07ab4d33c2db4a89ce70e5f695c1d62c36494709f7e"), looks := true }, kinds := [], alts := [], laidByText := true, laidKinds := [.data, .data, .data, .data, .sentinel, .sentinel, .pinned], laidTests := true, laidLooks := .later }
def PickParsesMatchSpecCardSaid : Prop := Claim7.holds Tryd.pinned (.plain (OpenSpec.ofChange pickParsesMatchSpecSpec)) pickParsesMatchSpecCard

/-- THE TIED CARD OF 'cycloramalaw4.PickTextsComeBack'. -/
def pickTextsComeBackCard : Claim7 := { stood := { row := pickTextsComeBackRow, standIns := [], harness := (true, "2dc477f6407a6db4ba9bd07ab4d33c2db4a89ce70e5f695c1d62c36494709f7e"), looks := true }, kinds := [], alts := [], laidByText := true, laidKinds := [.data, .data, .data, .data, .sentinel, .sentinel, .pinned], laidTests := true, laidLooks := .later }
def PickTextsComeBackCardSaid : Prop := Claim7.holds Tryd.pinned (.plain (OpenSpec.ofChange pickTextsComeBackSpec)) pickTextsComeBackCard

/-- THE SECOND FORM's CARD OF 'cycloramalaw4.PickParsesMatchSpec'. -/
def pickParsesMatchSpecUptoCard : Claim7 := { stood := { row := pickParsesMatchSpecUptoRow, standIns := [], harness := (true, "2dc477f6407a6db4ba9bd07ab4d33c2db4a89ce70e5f695c1d62c36494709f7e"), looks := true }, kinds := [], alts := [], laidByText := true, laidKinds := [.data, .data, .data, .data, .sentinel, .sentinel, .pinned], laidTests := true, laidLooks := .later }
def PickParsesMatchSpecUptoCardSaid : Prop := Claim7.holds Tryd.pinned (.plain (OpenSpec.upto pickParsesMatchSpecSpec)) pickParsesMatchSpecUptoCard

/-- THE SECOND FORM's CARD OF 'cycloramalaw4.PickTextsComeBack'. -/
def pickTextsComeBackUptoCard : Claim7 := { stood := { row := pickTextsComeBackUptoRow, standIns := [], harness := (true, "2dc477f6407a6db4ba9bd07ab4d33c2db4a89ce70e5f695c1d62c36494709f7e"), looks := true }, kinds := [], alts := [], laidByText := true, laidKinds := [.data, .data, .data, .data, .sentinel, .sentinel, .pinned], laidTests := true, laidLooks := .later }
def PickTextsComeBackUptoCardSaid : Prop := Claim7.holds Tryd.pinned (.plain (OpenSpec.upto pickTextsComeBackSpec)) pickTextsComeBackUptoCard
end Rows
end Go.Proofs.YtfalbgflabajbaaDoor
