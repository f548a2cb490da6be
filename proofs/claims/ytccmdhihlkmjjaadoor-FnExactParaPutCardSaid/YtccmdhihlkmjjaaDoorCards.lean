/-
  DERIVED. GIVEN WITH THE SEED: THE CARDS: each row of YtccmdhihlkmjjaaDoorRows.lean that lists a variable, with what it lists TIED to the program's text (the seventh form; the later family's looks); each row that meets fmt, with fmt's text TOLD by the authors' own Lean function (tested against real Go, not proved from fmt's source: count such statements apart). THE CARD IS WHAT COUNTS. Prove the row's statement (the work); the ties are given (YtccmdhihlkmjjaaDoorTie.lean); close each card by the builder's one call (the guide's Derived/Test/ToyasCard.lean, 'card_holds'). Laid BY PROGRAM, IN A SANDBOX (cutbox-door.mjs). By AI agents, Wed Nov 11 2026. No macro, syntax, notation, axiom, sorry.
-/
import Derived.Test.YtccmdhihlkmjjaaDoorRows
import GoSem.ClaimSeven
namespace Go.Proofs.YtccmdhihlkmjjaaDoor
namespace Rows

/-- THE TIED CARD OF 'laws.FnExactParaCut'. -/
def fnExactParaCutCard : Claim7 := { stood := { row := fnExactParaCutRow, standIns := [], harness := (true, "e931ac06e3e6eb2826be052b2589c21de2809462c53a80a58b95ff905a2ae8dc"), looks := false }, kinds := [], alts := [], laidByText := true, laidKinds := [.data, .pinned], laidTests := true, laidLooks := .later }
def FnExactParaCutCardSaid : Prop := Claim7.holds Tryd.pinned (.plain (OpenSpec.ofChange fnExactParaCutSpec)) fnExactParaCutCard

/-- THE TIED CARD OF 'laws.FnExactParaPut'. -/
def fnExactParaPutCard : Claim7 := { stood := { row := fnExactParaPutRow, standIns := [], harness := (true, "e931ac06e3e6eb2826be052b2589c21de2809462c53a80a58b95ff905a2ae8dc"), looks := false }, kinds := [], alts := [], laidByText := true, laidKinds := [.data, .pinned], laidTests := true, laidLooks := .later }
def FnExactParaPutCardSaid : Prop := Claim7.holds Tryd.pinned (.plain (OpenSpec.ofChange fnExactParaPutSpec)) fnExactParaPutCard

/-- THE SECOND FORM's CARD OF 'laws.FnExactParaCut'. -/
def fnExactParaCutUptoCard : Claim7 := { stood := { row := fnExactParaCutUptoRow, standIns := [], harness := (true, "e931ac06e3e6eb2826be052b2589c21de2809462c53a80a58b95ff905a2ae8dc"), looks := false }, kinds := [], alts := [], laidByText := true, laidKinds := [.data, .pinned], laidTests := true, laidLooks := .later }
def FnExactParaCutUptoCardSaid : Prop := Claim7.holds Tryd.pinned (.plain (OpenSpec.upto fnExactParaCutSpec)) fnExactParaCutUptoCard

/-- THE SECOND FORM's CARD OF 'laws.FnExactParaPut'. -/
def fnExactParaPutUptoCard : Claim7 := { stood := { row := fnExactParaPutUptoRow, standIns := [], harness := (true, "e931ac06e3e6eb2826be052b2589c21de2809462c53a80a58b95ff905a2ae8dc"), looks := false }, kinds := [], alts := [], laidByText := true, laidKinds := [.data, .pinned], laidTests := true, laidLooks := .later }
def FnExactParaPutUptoCardSaid : Prop := Claim7.holds Tryd.pinned (.plain (OpenSpec.upto fnExactParaPutSpec)) fnExactParaPutUptoCard
end Rows
end Go.Proofs.YtccmdhihlkmjjaaDoor
