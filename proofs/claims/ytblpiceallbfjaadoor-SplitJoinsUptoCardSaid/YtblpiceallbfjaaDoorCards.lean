/-
  DERIVED. GIVEN WITH THE SEED: THE CARDS: each row of YtblpiceallbfjaaDoorRows.lean that lists a variable, with what it lists TIED to the program's text (the seventh form; the later family's looks); each row that meets fmt, with fmt's text TOLD by the authors' own Lean function (tested against real Go, not proved from fmt's source: count such statements apart). THE CARD IS WHAT COUNTS. Prove the row's statement (the work); the ties are given (YtblpiceallbfjaaDoorTie.lean); close each card by the builder's one call (the guide's Derived/Test/ToyasCard.lean, 'card_holds'). Laid BY PROGRAM, IN A SANDBOX (cutbox-door.mjs). By AI agents, Wed Nov 11 2026. No macro, syntax, notation, axiom, sorry.
-/
import Derived.Test.YtblpiceallbfjaaDoorRows
import GoSem.ClaimSeven
namespace Go.Proofs.YtblpiceallbfjaaDoor
namespace Rows

/-- THE TIED CARD OF 'siglumlaw03.FoldMore'. -/
def foldMoreCard : Claim7 := { stood := { row := foldMoreRow, standIns := [], harness := (true, "f47706b4614fa2aad656fe5c375c167bd7164af907622747b697a0cc46826816"), looks := true }, kinds := [], alts := [], laidByText := true, laidKinds := [.data, .listed, .data, .pinned], laidTests := true, laidLooks := .later }
def FoldMoreCardSaid : Prop := Claim7.holds Tryd.pinned (.plain (OpenSpec.ofChange foldMoreSpec)) foldMoreCard

/-- THE TIED CARD OF 'siglumlaw03.FoldRunes'. -/
def foldRunesCard : Claim7 := { stood := { row := foldRunesRow, standIns := [], harness := (true, "f47706b4614fa2aad656fe5c375c167bd7164af907622747b697a0cc46826816"), looks := true }, kinds := [], alts := [], laidByText := true, laidKinds := [.data, .listed, .data, .pinned], laidTests := true, laidLooks := .later }
def FoldRunesCardSaid : Prop := Claim7.holds Tryd.pinned (.plain (OpenSpec.ofChange foldRunesSpec)) foldRunesCard

/-- THE TIED CARD OF 'siglumlaw03.FoldTexts'. -/
def foldTextsCard : Claim7 := { stood := { row := foldTextsRow, standIns := [], harness := (true, "f47706b4614fa2aad656fe5c375c167bd7164af907622747b697a0cc46826816"), looks := true }, kinds := [], alts := [], laidByText := true, laidKinds := [.data, .listed, .data, .pinned], laidTests := true, laidLooks := .later }
def FoldTextsCardSaid : Prop := Claim7.holds Tryd.pinned (.plain (OpenSpec.ofChange foldTextsSpec)) foldTextsCard

/-- THE TIED CARD OF 'siglumlaw07.SplitJoins'. -/
def splitJoinsCard : Claim7 := { stood := { row := splitJoinsRow, standIns := [], harness := (true, "f47706b4614fa2aad656fe5c375c167bd7164af907622747b697a0cc46826816"), looks := true }, kinds := [], alts := [], laidByText := true, laidKinds := [.data, .listed, .data, .pinned], laidTests := true, laidLooks := .later }
def SplitJoinsCardSaid : Prop := Claim7.holds Tryd.pinned (.plain (OpenSpec.ofChange splitJoinsSpec)) splitJoinsCard

/-- THE TIED CARD OF 'siglumlaw05.MarkParses'. -/
def markParsesCard : Claim7 := { stood := { row := markParsesRow, standIns := [], harness := (true, "f47706b4614fa2aad656fe5c375c167bd7164af907622747b697a0cc46826816"), looks := true }, kinds := [], alts := [], laidByText := true, laidKinds := [.data, .data, .data, .sentinel, .sentinel], laidTests := true, laidLooks := .later }
def MarkParsesCardSaid : Prop := Claim7.holds Tryd.pinned (.plain (OpenSpec.ofChange markParsesSpec)) markParsesCard

/-- THE TIED CARD OF 'siglumlaw05.MarkFaults'. -/
def markFaultsCard : Claim7 := { stood := { row := markFaultsRow, standIns := [], harness := (true, "f47706b4614fa2aad656fe5c375c167bd7164af907622747b697a0cc46826816"), looks := true }, kinds := [], alts := [], laidByText := true, laidKinds := [.data, .data, .data, .sentinel, .sentinel], laidTests := true, laidLooks := .later }
def MarkFaultsCardSaid : Prop := Claim7.holds Tryd.pinned (.plain (OpenSpec.ofChange markFaultsSpec)) markFaultsCard

/-- THE TIED CARD OF 'siglumlaw05.MarkJoins'. -/
def markJoinsCard : Claim7 := { stood := { row := markJoinsRow, standIns := [], harness := (true, "f47706b4614fa2aad656fe5c375c167bd7164af907622747b697a0cc46826816"), looks := true }, kinds := [], alts := [], laidByText := true, laidKinds := [.data, .data, .data, .sentinel, .sentinel], laidTests := true, laidLooks := .later }
def MarkJoinsCardSaid : Prop := Claim7.holds Tryd.pinned (.plain (OpenSpec.ofChange markJoinsSpec)) markJoinsCard

/-- THE TIED CARD OF 'siglumlaw05.MarkEscapes'. -/
def markEscapesCard : Claim7 := { stood := { row := markEscapesRow, standIns := [], harness := (true, "f47706b4614fa2aad656fe5c375c167bd7164af907622747b697a0cc46826816"), looks := true }, kinds := [], alts := [], laidByText := true, laidKinds := [.data, .data, .data, .sentinel, .sentinel], laidTests := true, laidLooks := .later }
def MarkEscapesCardSaid : Prop := Claim7.holds Tryd.pinned (.plain (OpenSpec.ofChange markEscapesSpec)) markEscapesCard

/-- THE TIED CARD OF 'siglumlaw05.MarkBack'. -/
def markBackCard : Claim7 := { stood := { row := markBackRow, standIns := [], harness := (true, "f47706b4614fa2aad656fe5c375c167bd7164af907622747b697a0cc46826816"), looks := true }, kinds := [], alts := [], laidByText := true, laidKinds := [.data, .data, .data, .sentinel, .sentinel], laidTests := true, laidLooks := .later }
def MarkBackCardSaid : Prop := Claim7.holds Tryd.pinned (.plain (OpenSpec.ofChange markBackSpec)) markBackCard

/-- THE TIED CARD OF 'siglumlaw05.MarkPrints'. -/
def markPrintsCard : Claim7 := { stood := { row := markPrintsRow, standIns := [], harness := (true, "f47706b4614fa2aad656fe5c375c167bd7164af907622747b697a0cc46826816"), looks := true }, kinds := [], alts := [], laidByText := true, laidKinds := [.data, .data, .data, .sentinel, .sentinel], laidTests := true, laidLooks := .later }
def MarkPrintsCardSaid : Prop := Claim7.holds Tryd.pinned (.plain (OpenSpec.ofChange markPrintsSpec)) markPrintsCard

/-- THE SECOND FORM's CARD OF 'siglumlaw03.FoldMore'. -/
def foldMoreUptoCard : Claim7 := { stood := { row := foldMoreUptoRow, standIns := [], harness := (true, "f47706b4614fa2aad656fe5c375c167bd7164af907622747b697a0cc46826816"), looks := true }, kinds := [], alts := [], laidByText := true, laidKinds := [.data, .listed, .data, .pinned], laidTests := true, laidLooks := .later }
def FoldMoreUptoCardSaid : Prop := Claim7.holds Tryd.pinned (.plain (OpenSpec.upto foldMoreSpec)) foldMoreUptoCard

/-- THE SECOND FORM's CARD OF 'siglumlaw03.FoldRunes'. -/
def foldRunesUptoCard : Claim7 := { stood := { row := foldRunesUptoRow, standIns := [], harness := (true, "f47706b4614fa2aad656fe5c375c167bd7164af907622747b697a0cc46826816"), looks := true }, kinds := [], alts := [], laidByText := true, laidKinds := [.data, .listed, .data, .pinned], laidTests := true, laidLooks := .later }
def FoldRunesUptoCardSaid : Prop := Claim7.holds Tryd.pinned (.plain (OpenSpec.upto foldRunesSpec)) foldRunesUptoCard

/-- THE SECOND FORM's CARD OF 'siglumlaw03.FoldTexts'. -/
def foldTextsUptoCard : Claim7 := { stood := { row := foldTextsUptoRow, standIns := [], harness := (true, "f47706b4614fa2aad656fe5c375c167bd7164af907622747b697a0cc46826816"), looks := true }, kinds := [], alts := [], laidByText := true, laidKinds := [.data, .listed, .data, .pinned], laidTests := true, laidLooks := .later }
def FoldTextsUptoCardSaid : Prop := Claim7.holds Tryd.pinned (.plain (OpenSpec.upto foldTextsSpec)) foldTextsUptoCard

/-- THE SECOND FORM's CARD OF 'siglumlaw07.SplitJoins'. -/
def splitJoinsUptoCard : Claim7 := { stood := { row := splitJoinsUptoRow, standIns := [], harness := (true, "f47706b4614fa2aad656fe5c375c167bd7164af907622747b697a0cc46826816"), looks := true }, kinds := [], alts := [], laidByText := true, laidKinds := [.data, .listed, .data, .pinned], laidTests := true, laidLooks := .later }
def SplitJoinsUptoCardSaid : Prop := Claim7.holds Tryd.pinned (.plain (OpenSpec.upto splitJoinsSpec)) splitJoinsUptoCard

/-- THE SECOND FORM's CARD OF 'siglumlaw05.MarkParses'. -/
def markParsesUptoCard : Claim7 := { stood := { row := markParsesUptoRow, standIns := [], harness := (true, "f47706b4614fa2aad656fe5c375c167bd7164af907622747b697a0cc46826816"), looks := true }, kinds := [], alts := [], laidByText := true, laidKinds := [.data, .data, .data, .sentinel, .sentinel], laidTests := true, laidLooks := .later }
def MarkParsesUptoCardSaid : Prop := Claim7.holds Tryd.pinned (.plain (OpenSpec.upto markParsesSpec)) markParsesUptoCard

/-- THE SECOND FORM's CARD OF 'siglumlaw05.MarkFaults'. -/
def markFaultsUptoCard : Claim7 := { stood := { row := markFaultsUptoRow, standIns := [], harness := (true, "f47706b4614fa2aad656fe5c375c167bd7164af907622747b697a0cc46826816"), looks := true }, kinds := [], alts := [], laidByText := true, laidKinds := [.data, .data, .data, .sentinel, .sentinel], laidTests := true, laidLooks := .later }
def MarkFaultsUptoCardSaid : Prop := Claim7.holds Tryd.pinned (.plain (OpenSpec.upto markFaultsSpec)) markFaultsUptoCard

/-- THE SECOND FORM's CARD OF 'siglumlaw05.MarkJoins'. -/
def markJoinsUptoCard : Claim7 := { stood := { row := markJoinsUptoRow, standIns := [], harness := (true, "f47706b4614fa2aad656fe5c375c167bd7164af907622747b697a0cc46826816"), looks := true }, kinds := [], alts := [], laidByText := true, laidKinds := [.data, .data, .data, .sentinel, .sentinel], laidTests := true, laidLooks := .later }
def MarkJoinsUptoCardSaid : Prop := Claim7.holds Tryd.pinned (.plain (OpenSpec.upto markJoinsSpec)) markJoinsUptoCard

/-- THE SECOND FORM's CARD OF 'siglumlaw05.MarkEscapes'. -/
def markEscapesUptoCard : Claim7 := { stood := { row := markEscapesUptoRow, standIns := [], harness := (true, "f47706b4614fa2aad656fe5c375c167bd7164af907622747b697a0cc46826816"), looks := true }, kinds := [], alts := [], laidByText := true, laidKinds := [.data, .data, .data, .sentinel, .sentinel], laidTests := true, laidLooks := .later }
def MarkEscapesUptoCardSaid : Prop := Claim7.holds Tryd.pinned (.plain (OpenSpec.upto markEscapesSpec)) markEscapesUptoCard

/-- THE SECOND FORM's CARD OF 'siglumlaw05.MarkBack'. -/
def markBackUptoCard : Claim7 := { stood := { row := markBackUptoRow, standIns := [], harness := (true, "f47706b4614fa2aad656fe5c375c167bd7164af907622747b697a0cc46826816"), looks := true }, kinds := [], alts := [], laidByText := true, laidKinds := [.data, .data, .data, .sentinel, .sentinel], laidTests := true, laidLooks := .later }
def MarkBackUptoCardSaid : Prop := Claim7.holds Tryd.pinned (.plain (OpenSpec.upto markBackSpec)) markBackUptoCard

/-- THE SECOND FORM's CARD OF 'siglumlaw05.MarkPrints'. -/
def markPrintsUptoCard : Claim7 := { stood := { row := markPrintsUptoRow, standIns := [], harness := (true, "f47706b4614fa2aad656fe5c375c167bd7164af907622747b697a0cc46826816"), looks := true }, kinds := [], alts := [], laidByText := true, laidKinds := [.data, .data, .data, .sentinel, .sentinel], laidTests := true, laidLooks := .later }
def MarkPrintsUptoCardSaid : Prop := Claim7.holds Tryd.pinned (.plain (OpenSpec.upto markPrintsSpec)) markPrintsUptoCard
end Rows
end Go.Proofs.YtblpiceallbfjaaDoor
