/-
  DERIVED. GIVEN WITH THE SEED: THE CARDS: each row of YtccmdhihlkmjjaaGreatDoorRows.lean that lists a variable, with what it lists TIED to the program's text (the seventh form; the later family's looks); each row that meets fmt, with fmt's text TOLD by the authors' own Lean function (tested against real Go, not proved from fmt's source: count such statements apart). THE CARD IS WHAT COUNTS. Prove the row's statement (the work); the ties are given (YtccmdhihlkmjjaaGreatDoorTie.lean); close each card by the builder's one call (the guide's Derived/Test/ToyasCard.lean, 'card_holds'). Laid BY PROGRAM, IN A SANDBOX (cutbox-door.mjs). By AI agents, Wed Nov 11 2026. No macro, syntax, notation, axiom, sorry.
-/
import Derived.Test.YtccmdhihlkmjjaaGreatDoorRows
import GoSem.ClaimSeven
namespace Go.Proofs.YtccmdhihlkmjjaaGreatDoor
namespace Rows

/-- THE TIED CARD OF 'laws.FnParaCut'. -/
def fnParaCutCard : Claim7 := { stood := { row := fnParaCutRow, standIns := [], harness := (true, "f01933f8db7dc90464a7519c04d906601ee93b342d5b41340d99896d21998e2a"), looks := true }, kinds := [], alts := [], laidByText := true, laidKinds := [.data, .handle, .pinned], laidTests := true, laidLooks := .later }
def FnParaCutCardSaid : Prop := Claim7.holds Tryz.pinned (.plain (OpenSpec.ofChange fnParaCutSpec)) fnParaCutCard

/-- THE TIED CARD OF 'laws.FnParaTrim'. -/
def fnParaTrimCard : Claim7 := { stood := { row := fnParaTrimRow, standIns := [], harness := (true, "f01933f8db7dc90464a7519c04d906601ee93b342d5b41340d99896d21998e2a"), looks := true }, kinds := [], alts := [], laidByText := true, laidKinds := [.data, .handle, .pinned], laidTests := true, laidLooks := .later }
def FnParaTrimCardSaid : Prop := Claim7.holds Tryz.pinned (.plain (OpenSpec.ofChange fnParaTrimSpec)) fnParaTrimCard

/-- THE SECOND FORM's CARD OF 'laws.FnParaCut'. -/
def fnParaCutUptoCard : Claim7 := { stood := { row := fnParaCutUptoRow, standIns := [], harness := (true, "f01933f8db7dc90464a7519c04d906601ee93b342d5b41340d99896d21998e2a"), looks := true }, kinds := [], alts := [], laidByText := true, laidKinds := [.data, .handle, .pinned], laidTests := true, laidLooks := .later }
def FnParaCutUptoCardSaid : Prop := Claim7.holds Tryz.pinned (.plain (OpenSpec.upto fnParaCutSpec)) fnParaCutUptoCard

/-- THE SECOND FORM's CARD OF 'laws.FnParaTrim'. -/
def fnParaTrimUptoCard : Claim7 := { stood := { row := fnParaTrimUptoRow, standIns := [], harness := (true, "f01933f8db7dc90464a7519c04d906601ee93b342d5b41340d99896d21998e2a"), looks := true }, kinds := [], alts := [], laidByText := true, laidKinds := [.data, .handle, .pinned], laidTests := true, laidLooks := .later }
def FnParaTrimUptoCardSaid : Prop := Claim7.holds Tryz.pinned (.plain (OpenSpec.upto fnParaTrimSpec)) fnParaTrimUptoCard
end Rows
end Go.Proofs.YtccmdhihlkmjjaaGreatDoor
