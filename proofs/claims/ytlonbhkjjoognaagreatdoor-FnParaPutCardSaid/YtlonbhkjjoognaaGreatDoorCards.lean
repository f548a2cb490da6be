/-
  DERIVED. GIVEN WITH THE SEED: THE CARDS: each row of YtlonbhkjjoognaaGreatDoorRows.lean that lists a variable, with what it lists TIED to the program's text (the seventh form; the later family's looks); each row that meets fmt, with fmt's text TOLD by the authors' own Lean function (tested against real Go, not proved from fmt's source: count such statements apart). THE CARD IS WHAT COUNTS. Prove the row's statement (the work); the ties are given (YtlonbhkjjoognaaGreatDoorTie.lean); close each card by the builder's one call (the guide's Derived/Test/ToyasCard.lean, 'card_holds'). Laid BY PROGRAM, IN A SANDBOX (cutbox-door.mjs). By AI agents, Wed Nov 11 2026. No macro, syntax, notation, axiom, sorry.
-/
import Derived.Test.YtlonbhkjjoognaaGreatDoorRows
import GoSem.ClaimSeven
namespace Go.Proofs.YtlonbhkjjoognaaGreatDoor
namespace Rows

/-- THE TIED CARD OF 'laws.FnParaPut'. -/
def fnParaPutCard : Claim7 := { stood := { row := fnParaPutRow, standIns := [], harness := (true, "ead09303a965200747a4792f4eebfb1ab2e3a5a3feb24594f479f85304d2cac5"), looks := true }, kinds := [], alts := [], laidByText := true, laidKinds := [.data, .handle, .pinned], laidTests := true, laidLooks := .later }
def FnParaPutCardSaid : Prop := Claim7.holds Tryz.pinned (.plain (OpenSpec.ofChange fnParaPutSpec)) fnParaPutCard

/-- THE SECOND FORM's CARD OF 'laws.FnParaPut'. -/
def fnParaPutUptoCard : Claim7 := { stood := { row := fnParaPutUptoRow, standIns := [], harness := (true, "ead09303a965200747a4792f4eebfb1ab2e3a5a3feb24594f479f85304d2cac5"), looks := true }, kinds := [], alts := [], laidByText := true, laidKinds := [.data, .handle, .pinned], laidTests := true, laidLooks := .later }
def FnParaPutUptoCardSaid : Prop := Claim7.holds Tryz.pinned (.plain (OpenSpec.upto fnParaPutSpec)) fnParaPutUptoCard
end Rows
end Go.Proofs.YtlonbhkjjoognaaGreatDoor
