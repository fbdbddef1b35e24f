/-
  DERIVED. GIVEN WITH THE SEED: THE CARDS: each row of YtchbbdplopchlaaDoorRows.lean that lists a variable, with what it lists TIED to the program's text (the seventh form; the later family's looks); each row that meets fmt, with fmt's text TOLD by the authors' own Lean function (tested against real Go, not proved from fmt's source: count such statements apart). THE CARD IS WHAT COUNTS. Prove the row's statement (the work); the ties are given (YtchbbdplopchlaaDoorTie.lean); close each card by the builder's one call (the guide's Derived/Test/ToyasCard.lean, 'card_holds'). Laid BY PROGRAM, IN A SANDBOX (cutbox-door.mjs). By AI agents, Wed Nov 11 2026. No macro, syntax, notation, axiom, sorry.
-/
import Derived.Test.YtchbbdplopchlaaDoorRows
import GoSem.ClaimSeven
namespace Go.Proofs.YtchbbdplopchlaaDoor
namespace Rows

/-- THE TIED CARD OF 'cycloramalaw8.StampTextsMatchSpec'. -/
def stampTextsMatchSpecCard : Claim7 := { stood := { row := stampTextsMatchSpecRow, standIns := [], harness := (true, "8659009cfb484c4c45c8a8211fb4625e40b6bdc9c8ed8aaa8a4b0559be9f321e"), looks := false }, kinds := [], alts := [], laidByText := true, laidKinds := [.data, .data, .data, .data, .pinned], laidTests := true, laidLooks := .later }
def StampTextsMatchSpecCardSaid : Prop := Claim7.holds Tryd.pinned (.plain (OpenSpec.ofChange stampTextsMatchSpecSpec)) stampTextsMatchSpecCard

/-- THE TIED CARD OF 'cycloramalaw8.StampTextsComeBack'. -/
def stampTextsComeBackCard : Claim7 := { stood := { row := stampTextsComeBackRow, standIns := [], harness := (true, "8659009cfb484c4c45c8a8211fb4625e40b6bdc9c8ed8aaa8a4b0559be9f321e"), looks := false }, kinds := [], alts := [], laidByText := true, laidKinds := [.data, .data, .data, .data, .pinned], laidTests := true, laidLooks := .later }
def StampTextsComeBackCardSaid : Prop := Claim7.holds Tryd.pinned (.plain (OpenSpec.ofChange stampTextsComeBackSpec)) stampTextsComeBackCard

/-- THE SECOND FORM's CARD OF 'cycloramalaw8.StampTextsMatchSpec'. -/
def stampTextsMatchSpecUptoCard : Claim7 := { stood := { row := stampTextsMatchSpecUptoRow, standIns := [], harness := (true, "8659009cfb484c4c45c8a8211fb4625e40b6bdc9c8ed8aaa8a4b0559be9f321e"), looks := false }, kinds := [], alts := [], laidByText := true, laidKinds := [.data, .data, .data, .data, .pinned], laidTests := true, laidLooks := .later }
def StampTextsMatchSpecUptoCardSaid : Prop := Claim7.holds Tryd.pinned (.plain (OpenSpec.upto stampTextsMatchSpecSpec)) stampTextsMatchSpecUptoCard

/-- THE SECOND FORM's CARD OF 'cycloramalaw8.StampTextsComeBack'. -/
def stampTextsComeBackUptoCard : Claim7 := { stood := { row := stampTextsComeBackUptoRow, standIns := [], harness := (true, "8659009cfb484c4c45c8a8211fb4625e40b6bdc9c8ed8aaa8a4b0559be9f321e"), looks := false }, kinds := [], alts := [], laidByText := true, laidKinds := [.data, .data, .data, .data, .pinned], laidTests := true, laidLooks := .later }
def StampTextsComeBackUptoCardSaid : Prop := Claim7.holds Tryd.pinned (.plain (OpenSpec.upto stampTextsComeBackSpec)) stampTextsComeBackUptoCard
end Rows
end Go.Proofs.YtchbbdplopchlaaDoor
