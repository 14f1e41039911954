/-
  DERIVED. GIVEN WITH THE SEED: THE CARDS: each row of YtjdckepbihcgfaaGreatDoorRows.lean that lists a variable, with what it lists TIED to the program's text (the seventh form; the later family's looks); each row that meets fmt, with fmt's text TOLD by the authors' own Lean function (tested against real Go, not proved from fmt's source: count such statements apart). THE CARD IS WHAT COUNTS. Prove the row's statement (the work); the ties are given (YtjdckepbihcgfaaGreatDoorTie.lean); close each card by the builder's one call (the guide's Derived/Test/ToyasCard.lean, 'card_holds'). Laid BY PROGRAM, IN A SANDBOX (cutbox-door.mjs). By AI agents, Wed Nov 11 2026. No macro, syntax, notation, axiom, sorry.
-/
import Derived.Test.YtjdckepbihcgfaaGreatDoorRows
import GoSem.ClaimSeven
namespace Go.Proofs.YtjdckepbihcgfaaGreatDoor
namespace Rows

/-- THE TIED CARD OF 'aliblaw.VerdictSays'. -/
def verdictSaysCard : Claim7 := { stood := { row := verdictSaysRow, standIns := [], harness := (true, "9e3fd4e1c3051d11546bef9628f93769cecb64a5a37d22f673b27d4b37f9cc43"), looks := true }, kinds := [], alts := [], laidByText := true, laidKinds := [.data, .data, .data, .data, .sentinel, .sentinel, .listed, .data, .pinned], laidTests := true, laidLooks := .later }
def VerdictSaysCardSaid : Prop := Claim7.holds Tryz.pinned (.plain (OpenSpec.ofChange verdictSaysSpec)) verdictSaysCard

/-- THE TIED CARD OF 'alibtop.TopAtOnce'. -/
def topAtOnceCard : Claim7 := { stood := { row := topAtOnceRow, standIns := [], harness := (true, "9e3fd4e1c3051d11546bef9628f93769cecb64a5a37d22f673b27d4b37f9cc43"), looks := true }, kinds := [], alts := [], laidByText := true, laidKinds := [.data, .data, .data, .data, .sentinel, .sentinel, .pinned], laidTests := true, laidLooks := .later }
def TopAtOnceCardSaid : Prop := Claim7.holds Tryz.pinned (.plain (OpenSpec.ofChange topAtOnceSpec)) topAtOnceCard

/-- THE TIED CARD OF 'alibtop.TopOrder'. -/
def topOrderCard : Claim7 := { stood := { row := topOrderRow, standIns := [], harness := (true, "9e3fd4e1c3051d11546bef9628f93769cecb64a5a37d22f673b27d4b37f9cc43"), looks := true }, kinds := [], alts := [], laidByText := true, laidKinds := [.data, .data, .data, .data, .sentinel, .sentinel, .pinned], laidTests := true, laidLooks := .later }
def TopOrderCardSaid : Prop := Claim7.holds Tryz.pinned (.plain (OpenSpec.ofChange topOrderSpec)) topOrderCard

/-- THE TIED CARD OF 'alibtop.TopOpen'. -/
def topOpenCard : Claim7 := { stood := { row := topOpenRow, standIns := [], harness := (true, "9e3fd4e1c3051d11546bef9628f93769cecb64a5a37d22f673b27d4b37f9cc43"), looks := true }, kinds := [], alts := [], laidByText := true, laidKinds := [.data, .data, .data, .data, .sentinel, .sentinel, .pinned], laidTests := true, laidLooks := .later }
def TopOpenCardSaid : Prop := Claim7.holds Tryz.pinned (.plain (OpenSpec.ofChange topOpenSpec)) topOpenCard

/-- THE SECOND FORM's CARD OF 'aliblaw.VerdictSays'. -/
def verdictSaysUptoCard : Claim7 := { stood := { row := verdictSaysUptoRow, standIns := [], harness := (true, "9e3fd4e1c3051d11546bef9628f93769cecb64a5a37d22f673b27d4b37f9cc43"), looks := true }, kinds := [], alts := [], laidByText := true, laidKinds := [.data, .data, .data, .data, .sentinel, .sentinel, .listed, .data, .pinned], laidTests := true, laidLooks := .later }
def VerdictSaysUptoCardSaid : Prop := Claim7.holds Tryz.pinned (.plain (OpenSpec.upto verdictSaysSpec)) verdictSaysUptoCard

/-- THE SECOND FORM's CARD OF 'alibtop.TopAtOnce'. -/
def topAtOnceUptoCard : Claim7 := { stood := { row := topAtOnceUptoRow, standIns := [], harness := (true, "9e3fd4e1c3051d11546bef9628f93769cecb64a5a37d22f673b27d4b37f9cc43"), looks := true }, kinds := [], alts := [], laidByText := true, laidKinds := [.data, .data, .data, .data, .sentinel, .sentinel, .pinned], laidTests := true, laidLooks := .later }
def TopAtOnceUptoCardSaid : Prop := Claim7.holds Tryz.pinned (.plain (OpenSpec.upto topAtOnceSpec)) topAtOnceUptoCard

/-- THE SECOND FORM's CARD OF 'alibtop.TopOrder'. -/
def topOrderUptoCard : Claim7 := { stood := { row := topOrderUptoRow, standIns := [], harness := (true, "9e3fd4e1c3051d11546bef9628f93769cecb64a5a37d22f673b27d4b37f9cc43"), looks := true }, kinds := [], alts := [], laidByText := true, laidKinds := [.data, .data, .data, .data, .sentinel, .sentinel, .pinned], laidTests := true, laidLooks := .later }
def TopOrderUptoCardSaid : Prop := Claim7.holds Tryz.pinned (.plain (OpenSpec.upto topOrderSpec)) topOrderUptoCard

/-- THE SECOND FORM's CARD OF 'alibtop.TopOpen'. -/
def topOpenUptoCard : Claim7 := { stood := { row := topOpenUptoRow, standIns := [], harness := (true, "9e3fd4e1c3051d11546bef9628f93769cecb64a5a37d22f673b27d4b37f9cc43"), looks := true }, kinds := [], alts := [], laidByText := true, laidKinds := [.data, .data, .data, .data, .sentinel, .sentinel, .pinned], laidTests := true, laidLooks := .later }
def TopOpenUptoCardSaid : Prop := Claim7.holds Tryz.pinned (.plain (OpenSpec.upto topOpenSpec)) topOpenUptoCard
end Rows
end Go.Proofs.YtjdckepbihcgfaaGreatDoor
