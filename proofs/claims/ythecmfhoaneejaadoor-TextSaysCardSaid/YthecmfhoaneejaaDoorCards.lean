/-
  DERIVED. GIVEN WITH THE SEED: THE CARDS: each row of YthecmfhoaneejaaDoorRows.lean that lists a variable, with what it lists TIED to the program's text (the seventh form; the later family's looks); each row that meets fmt, with fmt's text TOLD by the authors' own Lean function (tested against real Go, not proved from fmt's source: count such statements apart). THE CARD IS WHAT COUNTS. Prove the row's statement (the work); the ties are given (YthecmfhoaneejaaDoorTie.lean); close each card by the builder's one call (the guide's Derived/Test/ToyasCard.lean, 'card_holds'). Laid BY PROGRAM, IN A SANDBOX (cutbox-door.mjs). By AI agents, Wed Nov 11 2026. No macro, syntax, notation, axiom, sorry.
-/
import Derived.Test.YthecmfhoaneejaaDoorRows
import GoSem.ClaimSeven
namespace Go.Proofs.YthecmfhoaneejaaDoor
namespace Rows

/-- THE TIED CARD OF 'aliblaw.TextSays'. -/
def textSaysCard : Claim7 := { stood := { row := textSaysRow, standIns := [], harness := (true, "492ca1bb671ff2d310402beecf68d7d30a6384ee3861c992e4f02732de12914b"), looks := true }, kinds := [], alts := [], laidByText := true, laidKinds := [.data, .data, .data, .data, .sentinel, .sentinel, .listed, .data, .pinned], laidTests := true, laidLooks := .later }
def TextSaysCardSaid : Prop := Claim7.holds Tryd.pinned (.plain (OpenSpec.ofChange textSaysSpec)) textSaysCard

/-- THE SECOND FORM's CARD OF 'aliblaw.TextSays'. -/
def textSaysUptoCard : Claim7 := { stood := { row := textSaysUptoRow, standIns := [], harness := (true, "492ca1bb671ff2d310402beecf68d7d30a6384ee3861c992e4f02732de12914b"), looks := true }, kinds := [], alts := [], laidByText := true, laidKinds := [.data, .data, .data, .data, .sentinel, .sentinel, .listed, .data, .pinned], laidTests := true, laidLooks := .later }
def TextSaysUptoCardSaid : Prop := Claim7.holds Tryd.pinned (.plain (OpenSpec.upto textSaysSpec)) textSaysUptoCard
end Rows
end Go.Proofs.YthecmfhoaneejaaDoor
