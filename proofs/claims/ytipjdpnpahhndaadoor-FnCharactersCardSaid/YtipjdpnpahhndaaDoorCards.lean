/-
  DERIVED. GIVEN WITH THE SEED: THE CARDS: each row of YtipjdpnpahhndaaDoorRows.lean that lists a variable, with what it lists TIED to the program's text (the seventh form; the later family's looks); each row that meets fmt, with fmt's text TOLD by the authors' own Lean function (tested against real Go, not proved from fmt's source: count such statements apart). THE CARD IS WHAT COUNTS. Prove the row's statement (the work); the ties are given (YtipjdpnpahhndaaDoorTie.lean); close each card by the builder's one call (the guide's Derived/Test/ToyasCard.lean, 'card_holds'). Laid BY PROGRAM, IN A SANDBOX (cutbox-door.mjs). By AI agents, Wed Nov 11 2026. No macro, syntax, notation, axiom, sorry.
-/
import Derived.Test.YtipjdpnpahhndaaDoorRows
import GoSem.ClaimSeven
namespace Go.Proofs.YtipjdpnpahhndaaDoor
namespace Rows

/-- THE TIED CARD OF 'laws.FnExactCharOf'. -/
def fnExactCharOfCard : Claim7 := { stood := { row := fnExactCharOfRow, standIns := [], harness := (true, "7ef876ec79d45248f4e4eab59fc37c24603a4dac9f832424e37bcf7f06193942"), looks := false }, kinds := [], alts := [], laidByText := true, laidKinds := [.data, .pinned], laidTests := true, laidLooks := .later }
def FnExactCharOfCardSaid : Prop := Claim7.holds Tryd.pinned (.plain (OpenSpec.ofChange fnExactCharOfSpec)) fnExactCharOfCard

/-- THE TIED CARD OF 'laws.FnExactKeyOf'. -/
def fnExactKeyOfCard : Claim7 := { stood := { row := fnExactKeyOfRow, standIns := [], harness := (true, "7ef876ec79d45248f4e4eab59fc37c24603a4dac9f832424e37bcf7f06193942"), looks := false }, kinds := [], alts := [], laidByText := true, laidKinds := [.data, .pinned], laidTests := true, laidLooks := .later }
def FnExactKeyOfCardSaid : Prop := Claim7.holds Tryd.pinned (.plain (OpenSpec.ofChange fnExactKeyOfSpec)) fnExactKeyOfCard

/-- THE TIED CARD OF 'laws.FnExactTextMacro'. -/
def fnExactTextMacroCard : Claim7 := { stood := { row := fnExactTextMacroRow, standIns := [], harness := (true, "7ef876ec79d45248f4e4eab59fc37c24603a4dac9f832424e37bcf7f06193942"), looks := false }, kinds := [], alts := [], laidByText := true, laidKinds := [.data, .pinned], laidTests := true, laidLooks := .later }
def FnExactTextMacroCardSaid : Prop := Claim7.holds Tryd.pinned (.plain (OpenSpec.ofChange fnExactTextMacroSpec)) fnExactTextMacroCard

/-- THE TIED CARD OF 'laws.FnCharacters'. -/
def fnCharactersCard : Claim7 := { stood := { row := fnCharactersRow, standIns := [], harness := (true, "7ef876ec79d45248f4e4eab59fc37c24603a4dac9f832424e37bcf7f06193942"), looks := false }, kinds := [], alts := [], laidByText := true, laidKinds := [.data, .pinned], laidTests := true, laidLooks := .later }
def FnCharactersCardSaid : Prop := Claim7.holds Tryd.pinned (.plain (OpenSpec.ofChange fnCharactersSpec)) fnCharactersCard

/-- THE TIED CARD OF 'laws.FnDropped'. -/
def fnDroppedCard : Claim7 := { stood := { row := fnDroppedRow, standIns := [], harness := (true, "7ef876ec79d45248f4e4eab59fc37c24603a4dac9f832424e37bcf7f06193942"), looks := false }, kinds := [], alts := [], laidByText := true, laidKinds := [.data, .pinned], laidTests := true, laidLooks := .later }
def FnDroppedCardSaid : Prop := Claim7.holds Tryd.pinned (.plain (OpenSpec.ofChange fnDroppedSpec)) fnDroppedCard

/-- THE TIED CARD OF 'laws.FnPipe'. -/
def fnPipeCard : Claim7 := { stood := { row := fnPipeRow, standIns := [], harness := (true, "7ef876ec79d45248f4e4eab59fc37c24603a4dac9f832424e37bcf7f06193942"), looks := false }, kinds := [], alts := [], laidByText := true, laidKinds := [.data, .pinned], laidTests := true, laidLooks := .later }
def FnPipeCardSaid : Prop := Claim7.holds Tryd.pinned (.plain (OpenSpec.ofChange fnPipeSpec)) fnPipeCard

/-- THE SECOND FORM's CARD OF 'laws.FnExactCharOf'. -/
def fnExactCharOfUptoCard : Claim7 := { stood := { row := fnExactCharOfUptoRow, standIns := [], harness := (true, "7ef876ec79d45248f4e4eab59fc37c24603a4dac9f832424e37bcf7f06193942"), looks := false }, kinds := [], alts := [], laidByText := true, laidKinds := [.data, .pinned], laidTests := true, laidLooks := .later }
def FnExactCharOfUptoCardSaid : Prop := Claim7.holds Tryd.pinned (.plain (OpenSpec.upto fnExactCharOfSpec)) fnExactCharOfUptoCard

/-- THE SECOND FORM's CARD OF 'laws.FnExactKeyOf'. -/
def fnExactKeyOfUptoCard : Claim7 := { stood := { row := fnExactKeyOfUptoRow, standIns := [], harness := (true, "7ef876ec79d45248f4e4eab59fc37c24603a4dac9f832424e37bcf7f06193942"), looks := false }, kinds := [], alts := [], laidByText := true, laidKinds := [.data, .pinned], laidTests := true, laidLooks := .later }
def FnExactKeyOfUptoCardSaid : Prop := Claim7.holds Tryd.pinned (.plain (OpenSpec.upto fnExactKeyOfSpec)) fnExactKeyOfUptoCard

/-- THE SECOND FORM's CARD OF 'laws.FnExactTextMacro'. -/
def fnExactTextMacroUptoCard : Claim7 := { stood := { row := fnExactTextMacroUptoRow, standIns := [], harness := (true, "7ef876ec79d45248f4e4eab59fc37c24603a4dac9f832424e37bcf7f06193942"), looks := false }, kinds := [], alts := [], laidByText := true, laidKinds := [.data, .pinned], laidTests := true, laidLooks := .later }
def FnExactTextMacroUptoCardSaid : Prop := Claim7.holds Tryd.pinned (.plain (OpenSpec.upto fnExactTextMacroSpec)) fnExactTextMacroUptoCard

/-- THE SECOND FORM's CARD OF 'laws.FnCharacters'. -/
def fnCharactersUptoCard : Claim7 := { stood := { row := fnCharactersUptoRow, standIns := [], harness := (true, "7ef876ec79d45248f4e4eab59fc37c24603a4dac9f832424e37bcf7f06193942"), looks := false }, kinds := [], alts := [], laidByText := true, laidKinds := [.data, .pinned], laidTests := true, laidLooks := .later }
def FnCharactersUptoCardSaid : Prop := Claim7.holds Tryd.pinned (.plain (OpenSpec.upto fnCharactersSpec)) fnCharactersUptoCard

/-- THE SECOND FORM's CARD OF 'laws.FnDropped'. -/
def fnDroppedUptoCard : Claim7 := { stood := { row := fnDroppedUptoRow, standIns := [], harness := (true, "7ef876ec79d45248f4e4eab59fc37c24603a4dac9f832424e37bcf7f06193942"), looks := false }, kinds := [], alts := [], laidByText := true, laidKinds := [.data, .pinned], laidTests := true, laidLooks := .later }
def FnDroppedUptoCardSaid : Prop := Claim7.holds Tryd.pinned (.plain (OpenSpec.upto fnDroppedSpec)) fnDroppedUptoCard

/-- THE SECOND FORM's CARD OF 'laws.FnPipe'. -/
def fnPipeUptoCard : Claim7 := { stood := { row := fnPipeUptoRow, standIns := [], harness := (true, "7ef876ec79d45248f4e4eab59fc37c24603a4dac9f832424e37bcf7f06193942"), looks := false }, kinds := [], alts := [], laidByText := true, laidKinds := [.data, .pinned], laidTests := true, laidLooks := .later }
def FnPipeUptoCardSaid : Prop := Claim7.holds Tryd.pinned (.plain (OpenSpec.upto fnPipeSpec)) fnPipeUptoCard
end Rows
end Go.Proofs.YtipjdpnpahhndaaDoor
