/-
  DERIVED. GIVEN WITH THE SEED: THE CARDS: each row of YtggbkpkapkcoeaaDoorRows.lean that lists a variable, with what it lists TIED to the program's text (the seventh form; the later family's looks); each row that meets fmt, with fmt's text TOLD by the authors' own Lean function (tested against real Go, not proved from fmt's source: count such statements apart). THE CARD IS WHAT COUNTS. Prove the row's statement (the work); the ties are given (YtggbkpkapkcoeaaDoorTie.lean); close each card by the builder's one call (the guide's Derived/Test/ToyasCard.lean, 'card_holds'). Laid BY PROGRAM, IN A SANDBOX (cutbox-door.mjs). By AI agents, Wed Nov 11 2026. No macro, syntax, notation, axiom, sorry.
-/
import Derived.Test.YtggbkpkapkcoeaaDoorRows
import GoSem.ClaimSeven
namespace Go.Proofs.YtggbkpkapkcoeaaDoor
namespace Rows

/-- THE TIED CARD OF 'laws.FnExactTypedText'. -/
def fnExactTypedTextCard : Claim7 := { stood := { row := fnExactTypedTextRow, standIns := [], harness := (true, "2b49093071958a4b7d853d471ad25cdd32f134a16d793de3fd2eac1339909385"), looks := false }, kinds := [], alts := [], laidByText := true, laidKinds := [.data, .pinned], laidTests := true, laidLooks := .later }
def FnExactTypedTextCardSaid : Prop := Claim7.holds Tryd.pinned (.plain (OpenSpec.ofChange fnExactTypedTextSpec)) fnExactTypedTextCard

/-- THE SECOND FORM's CARD OF 'laws.FnExactTypedText'. -/
def fnExactTypedTextUptoCard : Claim7 := { stood := { row := fnExactTypedTextUptoRow, standIns := [], harness := (true, "2b49093071958a4b7d853d471ad25cdd32f134a16d793de3fd2eac1339909385"), looks := false }, kinds := [], alts := [], laidByText := true, laidKinds := [.data, .pinned], laidTests := true, laidLooks := .later }
def FnExactTypedTextUptoCardSaid : Prop := Claim7.holds Tryd.pinned (.plain (OpenSpec.upto fnExactTypedTextSpec)) fnExactTypedTextUptoCard
end Rows
end Go.Proofs.YtggbkpkapkcoeaaDoor
