/-
  DERIVED. GIVEN WITH THE SEED: THE CARDS: each row of YtpcafbmnjchmcaaGreatDoorRows.lean that lists a variable, with what it lists TIED to the program's text (the seventh form; the later family's looks); each row that meets fmt, with fmt's text TOLD by the authors' own Lean function (tested against real Go, not proved from fmt's source: count such statements apart). THE CARD IS WHAT COUNTS. Prove the row's statement (the work); the ties are given (YtpcafbmnjchmcaaGreatDoorTie.lean); close each card by the builder's one call (the guide's Derived/Test/ToyasCard.lean, 'card_holds'). Laid BY PROGRAM, IN A SANDBOX (cutbox-door.mjs). By AI agents, Wed Nov 11 2026. No macro, syntax, notation, axiom, sorry.
-/
import Derived.Test.YtpcafbmnjchmcaaGreatDoorRows
import GoSem.ClaimSeven
namespace Go.Proofs.YtpcafbmnjchmcaaGreatDoor
namespace Rows

/-- THE TIED CARD OF 'cycloramalaw8.StampEventTextsComeBack'. -/
def stampEventTextsComeBackCard : Claim7 := { stood := { row := stampEventTextsComeBackRow, standIns := [], harness := (true, "de97c2165f90cb313aeffbee30d192aa5d04f8c8b13c2c2c1156e25b722f77fc"), looks := true }, kinds := [], alts := [], laidByText := true, laidKinds := [.data, .data, .data, .data, .sentinel, .sentinel, .pinned], laidTests := true, laidLooks := .later }
def StampEventTextsComeBackCardSaid : Prop := Claim7.holds Tryz.pinned (.plain (OpenSpec.ofChange stampEventTextsComeBackSpec)) stampEventTextsComeBackCard

/-- THE TIED CARD OF 'cycloramalaw8.StampEventsMatchSpec'. -/
def stampEventsMatchSpecCard : Claim7 := { stood := { row := stampEventsMatchSpecRow, standIns := [], harness := (true, "de97c2165f90cb313aeffbee30d192aa5d04f8c8b13c2c2c1156e25b722f77fc"), looks := true }, kinds := [], alts := [], laidByText := true, laidKinds := [.data, .data, .data, .data, .sentinel, .sentinel, .listed, .data, .pinned], laidTests := true, laidLooks := .later }
def StampEventsMatchSpecCardSaid : Prop := Claim7.holds Tryz.pinned (.plain (OpenSpec.ofChange stampEventsMatchSpecSpec)) stampEventsMatchSpecCard

/-- THE SECOND FORM's CARD OF 'cycloramalaw8.StampEventTextsComeBack'. -/
def stampEventTextsComeBackUptoCard : Claim7 := { stood := { row := stampEventTextsComeBackUptoRow, standIns := [], harness := (true, "de97c2165f90cb313aeffbee30d192aa5d04f8c8b13c2c2c1156e25b722f77fc"), looks := true }, kinds := [], alts := [], laidByText := true, laidKinds := [.data, .data, .data, .data, .sentinel, .sentinel, .pinned], laidTests := true, laidLooks := .later }
def StampEventTextsComeBackUptoCardSaid : Prop := Claim7.holds Tryz.pinned (.plain (OpenSpec.upto stampEventTextsComeBackSpec)) stampEventTextsComeBackUptoCard

/-- THE SECOND FORM's CARD OF 'cycloramalaw8.StampEventsMatchSpec'. -/
def stampEventsMatchSpecUptoCard : Claim7 := { stood := { row := stampEventsMatchSpecUptoRow, standIns := [], harness := (true, "de97c2165f90cb313aeffbee30d192aa5d04f8c8b13c2c2c1156e25b722f77fc"), looks := true }, kinds := [], alts := [], laidByText := true, laidKinds := [.data, .data, .data, .data, .sentinel, .sentinel, .listed, .data, .pinned], laidTests := true, laidLooks := .later }
def StampEventsMatchSpecUptoCardSaid : Prop := Claim7.holds Tryz.pinned (.plain (OpenSpec.upto stampEventsMatchSpecSpec)) stampEventsMatchSpecUptoCard
end Rows
end Go.Proofs.YtpcafbmnjchmcaaGreatDoor
