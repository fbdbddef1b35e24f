/-
  DERIVED. GIVEN WITH THE SEED: THE CARDS: each row of YtngdngjbofohaaaGreatDoorRows.lean that lists a variable, with what it lists TIED to the program's text (the seventh form; the later family's looks); each row that meets fmt, with fmt's text TOLD by the authors' own Lean function (tested against real Go, not proved from fmt's source: count such statements apart). THE CARD IS WHAT COUNTS. Prove the row's statement (the work); the ties are given (YtngdngjbofohaaaGreatDoorTie.lean); close each card by the builder's one call (the guide's Derived/Test/ToyasCard.lean, 'card_holds'). Laid BY PROGRAM, IN A SANDBOX (cutbox-door.mjs). By AI agents, Wed Nov 11 2026. No macro, syntax, notation, axiom, sorry.
-/
import Derived.Test.YtngdngjbofohaaaGreatDoorRows
import GoSem.ClaimSeven
namespace Go.Proofs.YtngdngjbofohaaaGreatDoor
namespace Rows

/-- THE TIED CARD OF 'cycloramalaw5.CueTextsComeBack'. -/
def cueTextsComeBackCard : Claim7 := { stood := { row := cueTextsComeBackRow, standIns := [], harness := (true, "6c1f9e3dff4a7e287921d1d7d15a8dcf302d1984028b76685972db786032c237"), looks := true }, kinds := [], alts := [], laidByText := true, laidKinds := [.data, .data, .data, .data, .sentinel, .sentinel, .pinned], laidTests := true, laidLooks := .later }
def CueTextsComeBackCardSaid : Prop := Claim7.holds Tryz.pinned (.plain (OpenSpec.ofChange cueTextsComeBackSpec)) cueTextsComeBackCard

/-- THE TIED CARD OF 'cycloramalaw5.CueTextsMatchSpec'. -/
def cueTextsMatchSpecCard : Claim7 := { stood := { row := cueTextsMatchSpecRow, standIns := [], harness := (true, "6c1f9e3dff4a7e287921d1d7d15a8dcf302d1984028b76685972db786032c237"), looks := true }, kinds := [], alts := [], laidByText := true, laidKinds := [.data, .data, .data, .data, .sentinel, .sentinel, .pinned], laidTests := true, laidLooks := .later }
def CueTextsMatchSpecCardSaid : Prop := Claim7.holds Tryz.pinned (.plain (OpenSpec.ofChange cueTextsMatchSpecSpec)) cueTextsMatchSpecCard

/-- THE SECOND FORM's CARD OF 'cycloramalaw5.CueTextsComeBack'. -/
def cueTextsComeBackUptoCard : Claim7 := { stood := { row := cueTextsComeBackUptoRow, standIns := [], harness := (true, "6c1f9e3dff4a7e287921d1d7d15a8dcf302d1984028b76685972db786032c237"), looks := true }, kinds := [], alts := [], laidByText := true, laidKinds := [.data, .data, .data, .data, .sentinel, .sentinel, .pinned], laidTests := true, laidLooks := .later }
def CueTextsComeBackUptoCardSaid : Prop := Claim7.holds Tryz.pinned (.plain (OpenSpec.upto cueTextsComeBackSpec)) cueTextsComeBackUptoCard

/-- THE SECOND FORM's CARD OF 'cycloramalaw5.CueTextsMatchSpec'. -/
def cueTextsMatchSpecUptoCard : Claim7 := { stood := { row := cueTextsMatchSpecUptoRow, standIns := [], harness := (true, "6c1f9e3dff4a7e287921d1d7d15a8dcf302d1984028b76685972db786032c237"), looks := true }, kinds := [], alts := [], laidByText := true, laidKinds := [.data, .data, .data, .data, .sentinel, .sentinel, .pinned], laidTests := true, laidLooks := .later }
def CueTextsMatchSpecUptoCardSaid : Prop := Claim7.holds Tryz.pinned (.plain (OpenSpec.upto cueTextsMatchSpecSpec)) cueTextsMatchSpecUptoCard
end Rows
end Go.Proofs.YtngdngjbofohaaaGreatDoor
