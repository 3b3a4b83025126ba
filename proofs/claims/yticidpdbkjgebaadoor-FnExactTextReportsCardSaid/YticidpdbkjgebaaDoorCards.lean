/-
  DERIVED. GIVEN WITH THE SEED: THE CARDS: each row of YticidpdbkjgebaaDoorRows.lean that lists a variable, with what it lists TIED to the program's text (the seventh form; the later family's looks); each row that meets fmt, with fmt's text TOLD by the authors' own Lean function (tested against real Go, not proved from fmt's source: count such statements apart). THE CARD IS WHAT COUNTS. Prove the row's statement (the work); the ties are given (YticidpdbkjgebaaDoorTie.lean); close each card by the builder's one call (the guide's Derived/Test/ToyasCard.lean, 'card_holds'). Laid BY PROGRAM, IN A SANDBOX (cutbox-door.mjs). By AI agents, Wed Nov 11 2026. No macro, syntax, notation, axiom, sorry.
-/
import Derived.Test.YticidpdbkjgebaaDoorRows
import GoSem.ClaimSeven
namespace Go.Proofs.YticidpdbkjgebaaDoor
namespace Rows

/-- THE TIED CARD OF 'laws.FnExactTextReports'. -/
def fnExactTextReportsCard : Claim7 := { stood := { row := fnExactTextReportsRow, standIns := [], harness := (true, "a5a948392e6649fbedb9f226d8a5faab14ed3827b4e6beb817540404b835bd3b"), looks := false }, kinds := [], alts := [], laidByText := true, laidKinds := [.data, .pinned], laidTests := true, laidLooks := .later }
def FnExactTextReportsCardSaid : Prop := Claim7.holds Tryd.pinned (.plain (OpenSpec.ofChange fnExactTextReportsSpec)) fnExactTextReportsCard

/-- THE SECOND FORM's CARD OF 'laws.FnExactTextReports'. -/
def fnExactTextReportsUptoCard : Claim7 := { stood := { row := fnExactTextReportsUptoRow, standIns := [], harness := (true, "a5a948392e6649fbedb9f226d8a5faab14ed3827b4e6beb817540404b835bd3b"), looks := false }, kinds := [], alts := [], laidByText := true, laidKinds := [.data, .pinned], laidTests := true, laidLooks := .later }
def FnExactTextReportsUptoCardSaid : Prop := Claim7.holds Tryd.pinned (.plain (OpenSpec.upto fnExactTextReportsSpec)) fnExactTextReportsUptoCard
end Rows
end Go.Proofs.YticidpdbkjgebaaDoor
