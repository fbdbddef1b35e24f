/-
  DERIVED. GIVEN WITH THE SEED: THE CARDS: each row of YtkdafecbdncmiaaDoorRows.lean that lists a variable, with what it lists TIED to the program's text (the seventh form; the later family's looks); each row that meets fmt, with fmt's text TOLD by the authors' own Lean function (tested against real Go, not proved from fmt's source: count such statements apart). THE CARD IS WHAT COUNTS. Prove the row's statement (the work); the ties are given (YtkdafecbdncmiaaDoorTie.lean); close each card by the builder's one call (the guide's Derived/Test/ToyasCard.lean, 'card_holds'). Laid BY PROGRAM, IN A SANDBOX (cutbox-door.mjs). By AI agents, Wed Nov 11 2026. No macro, syntax, notation, axiom, sorry.
-/
import Derived.Test.YtkdafecbdncmiaaDoorRows
import GoSem.ClaimSeven
namespace Go.Proofs.YtkdafecbdncmiaaDoor
namespace Rows

/-- THE TIED CARD OF 'cycloramalaw4.PickChecksMatchSpec'. -/
def pickChecksMatchSpecCard : Claim7 := { stood := { row := pickChecksMatchSpecRow, standIns := [], harness := (true, "d31e4c81f93e2eb147cf2dc49174f3f0a8306c0862706bd1ae4dcb41d4e6fa3b"), looks := true }, kinds := [], alts := [], laidByText := true, laidKinds := [.data, .data, .data], laidTests := true, laidLooks := .later }
def PickChecksMatchSpecCardSaid : Prop := Claim7.holds Tryd.pinned (.plain (OpenSpec.ofChange pickChecksMatchSpecSpec)) pickChecksMatchSpecCard

/-- THE TIED CARD OF 'cycloramalaw4.PickUnitsAreUnits'. -/
def pickUnitsAreUnitsCard : Claim7 := { stood := { row := pickUnitsAreUnitsRow, standIns := [], harness := (true, "d31e4c81f93e2eb147cf2dc49174f3f0a8306c0862706bd1ae4dcb41d4e6fa3b"), looks := true }, kinds := [], alts := [], laidByText := true, laidKinds := [.data, .data, .data], laidTests := true, laidLooks := .later }
def PickUnitsAreUnitsCardSaid : Prop := Claim7.holds Tryd.pinned (.plain (OpenSpec.ofChange pickUnitsAreUnitsSpec)) pickUnitsAreUnitsCard

/-- THE TIED CARD OF 'cycloramalaw4.PickParsesMatchSpec'. -/
def pickParsesMatchSpecCard : Claim7 := { stood := { row := pickParsesMatchSpecRow, standIns := [], harness := (true, "d31e4c81f93e2eb147cf2dc49174f3f0a8306c0862706bd1ae4dcb41d4e6fa3b"), looks := true }, kinds := [], alts := [], laidByText := true, laidKinds := [.data, .data, .data, .data, .sentinel, .sentinel, .pinned], laidTests := true, laidLooks := .later }
def PickParsesMatchSpecCardSaid : Prop := Claim7.holds Tryd.pinned (.plain (OpenSpec.ofChange pickParsesMatchSpecSpec)) pickParsesMatchSpecCard

/-- THE TIED CARD OF 'cycloramalaw4.PickTextsComeBack'. -/
def pickTextsComeBackCard : Claim7 := { stood := { row := pickTextsComeBackRow, standIns := [], harness := (true, "d31e4c81f93e2eb147cf2dc49174f3f0a8306c0862706bd1ae4dcb41d4e6fa3b"), looks := true }, kinds := [], alts := [], laidByText := true, laidKinds := [.data, .data, .data, .data, .sentinel, .sentinel, .pinned], laidTests := true, laidLooks := .later }
def PickTextsComeBackCardSaid : Prop := Claim7.holds Tryd.pinned (.plain (OpenSpec.ofChange pickTextsComeBackSpec)) pickTextsComeBackCard

/-- THE SECOND FORM's CARD OF 'cycloramalaw4.PickChecksMatchSpec'. -/
def pickChecksMatchSpecUptoCard : Claim7 := { stood := { row := pickChecksMatchSpecUptoRow, standIns := [], harness := (true, "d31e4c81f93e2eb147cf2dc49174f3f0a8306c0862706bd1ae4dcb41d4e6fa3b"), looks := true }, kinds := [], alts := [], laidByText := true, laidKinds := [.data, .data, .data], laidTests := true, laidLooks := .later }
def PickChecksMatchSpecUptoCardSaid : Prop := Claim7.holds Tryd.pinned (.plain (OpenSpec.upto pickChecksMatchSpecSpec)) pickChecksMatchSpecUptoCard

/-- THE SECOND FORM's CARD OF 'cycloramalaw4.PickUnitsAreUnits'. -/
def pickUnitsAreUnitsUptoCard : Claim7 := { stood := { row := pickUnitsAreUnitsUptoRow, standIns := [], harness := (true, "d31e4c81f93e2eb147cf2dc49174f3f0a8306c0862706bd1ae4dcb41d4e6fa3b"), looks := true }, kinds := [], alts := [], laidByText := true, laidKinds := [.data, .data, .data], laidTests := true, laidLooks := .later }
def PickUnitsAreUnitsUptoCardSaid : Prop := Claim7.holds Tryd.pinned (.plain (OpenSpec.upto pickUnitsAreUnitsSpec)) pickUnitsAreUnitsUptoCard

/-- THE SECOND FORM's CARD OF 'cycloramalaw4.PickParsesMatchSpec'. -/
def pickParsesMatchSpecUptoCard : Claim7 := { stood := { row := pickParsesMatchSpecUptoRow, standIns := [], harness := (true, "d31e4c81f93e2eb147cf2dc49174f3f0a8306c0862706bd1ae4dcb41d4e6fa3b"), looks := true }, kinds := [], alts := [], laidByText := true, laidKinds := [.data, .data, .data, .data, .sentinel, .sentinel, .pinned], laidTests := true, laidLooks := .later }
def PickParsesMatchSpecUptoCardSaid : Prop := Claim7.holds Tryd.pinned (.plain (OpenSpec.upto pickParsesMatchSpecSpec)) pickParsesMatchSpecUptoCard

/-- THE SECOND FORM's CARD OF 'cycloramalaw4.PickTextsComeBack'. -/
def pickTextsComeBackUptoCard : Claim7 := { stood := { row := pickTextsComeBackUptoRow, standIns := [], harness := (true, "d31e4c81f93e2eb147cf2dc49174f3f0a8306c0862706bd1ae4dcb41d4e6fa3b"), looks := true }, kinds := [], alts := [], laidByText := true, laidKinds := [.data, .data, .data, .data, .sentinel, .sentinel, .pinned], laidTests := true, laidLooks := .later }
def PickTextsComeBackUptoCardSaid : Prop := Claim7.holds Tryd.pinned (.plain (OpenSpec.upto pickTextsComeBackSpec)) pickTextsComeBackUptoCard
end Rows
end Go.Proofs.YtkdafecbdncmiaaDoor
