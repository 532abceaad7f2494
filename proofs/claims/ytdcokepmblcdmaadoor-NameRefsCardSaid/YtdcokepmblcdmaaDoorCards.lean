/-
  DERIVED. GIVEN WITH THE SEED: THE CARDS: each row of YtdcokepmblcdmaaDoorRows.lean that lists a variable, with what it lists TIED to the program's text (the seventh form; the later family's looks); each row that meets fmt, with fmt's text TOLD by the authors' own Lean function (tested against real Go, not proved from fmt's source: count such statements apart). THE CARD IS WHAT COUNTS. Prove the row's statement (the work); the ties are given (YtdcokepmblcdmaaDoorTie.lean); close each card by the builder's one call (the guide's Derived/Test/ToyasCard.lean, 'card_holds'). Laid BY PROGRAM, IN A SANDBOX (cutbox-door.mjs). By AI agents, Wed Nov 11 2026. No macro, syntax, notation, axiom, sorry.
-/
import Derived.Test.YtdcokepmblcdmaaDoorRows
import GoSem.ClaimSeven
namespace Go.Proofs.YtdcokepmblcdmaaDoor
namespace Rows

/-- THE TIED CARD OF 'consignorlaw03.NameMay'. -/
def nameMayCard : Claim7 := { stood := { row := nameMayRow, standIns := [], harness := (true, "6a6288614213b700c310f529358ed855be540a775ed779d0411f7f6f1a9501cd"), looks := false }, kinds := [], alts := [], laidByText := true, laidKinds := [.data, .pinned], laidTests := true, laidLooks := .later }
def NameMayCardSaid : Prop := Claim7.holds Tryd.pinned (.plain (OpenSpec.ofChange nameMaySpec)) nameMayCard

/-- THE TIED CARD OF 'consignorlaw03.NameParses'. -/
def nameParsesCard : Claim7 := { stood := { row := nameParsesRow, standIns := [], harness := (true, "6a6288614213b700c310f529358ed855be540a775ed779d0411f7f6f1a9501cd"), looks := false }, kinds := [], alts := [], laidByText := true, laidKinds := [.data, .pinned], laidTests := true, laidLooks := .later }
def NameParsesCardSaid : Prop := Claim7.holds Tryd.pinned (.plain (OpenSpec.ofChange nameParsesSpec)) nameParsesCard

/-- THE TIED CARD OF 'consignorlaw03.NameBack'. -/
def nameBackCard : Claim7 := { stood := { row := nameBackRow, standIns := [], harness := (true, "6a6288614213b700c310f529358ed855be540a775ed779d0411f7f6f1a9501cd"), looks := false }, kinds := [], alts := [], laidByText := true, laidKinds := [.data, .pinned], laidTests := true, laidLooks := .later }
def NameBackCardSaid : Prop := Claim7.holds Tryd.pinned (.plain (OpenSpec.ofChange nameBackSpec)) nameBackCard

/-- THE TIED CARD OF 'consignorlaw03.NameParts'. -/
def namePartsCard : Claim7 := { stood := { row := namePartsRow, standIns := [], harness := (true, "6a6288614213b700c310f529358ed855be540a775ed779d0411f7f6f1a9501cd"), looks := false }, kinds := [], alts := [], laidByText := true, laidKinds := [.data, .pinned], laidTests := true, laidLooks := .later }
def NamePartsCardSaid : Prop := Claim7.holds Tryd.pinned (.plain (OpenSpec.ofChange namePartsSpec)) namePartsCard

/-- THE TIED CARD OF 'consignorlaw03.NameMarks'. -/
def nameMarksCard : Claim7 := { stood := { row := nameMarksRow, standIns := [], harness := (true, "6a6288614213b700c310f529358ed855be540a775ed779d0411f7f6f1a9501cd"), looks := false }, kinds := [], alts := [], laidByText := true, laidKinds := [.data, .pinned], laidTests := true, laidLooks := .later }
def NameMarksCardSaid : Prop := Claim7.holds Tryd.pinned (.plain (OpenSpec.ofChange nameMarksSpec)) nameMarksCard

/-- THE TIED CARD OF 'consignorlaw03.NameRefs'. -/
def nameRefsCard : Claim7 := { stood := { row := nameRefsRow, standIns := [], harness := (true, "6a6288614213b700c310f529358ed855be540a775ed779d0411f7f6f1a9501cd"), looks := false }, kinds := [], alts := [], laidByText := true, laidKinds := [.data, .data, .pinned], laidTests := true, laidLooks := .later }
def NameRefsCardSaid : Prop := Claim7.holds Tryd.pinned (.plain (OpenSpec.ofChange nameRefsSpec)) nameRefsCard

/-- THE SECOND FORM's CARD OF 'consignorlaw03.NameMay'. -/
def nameMayUptoCard : Claim7 := { stood := { row := nameMayUptoRow, standIns := [], harness := (true, "6a6288614213b700c310f529358ed855be540a775ed779d0411f7f6f1a9501cd"), looks := false }, kinds := [], alts := [], laidByText := true, laidKinds := [.data, .pinned], laidTests := true, laidLooks := .later }
def NameMayUptoCardSaid : Prop := Claim7.holds Tryd.pinned (.plain (OpenSpec.upto nameMaySpec)) nameMayUptoCard

/-- THE SECOND FORM's CARD OF 'consignorlaw03.NameParses'. -/
def nameParsesUptoCard : Claim7 := { stood := { row := nameParsesUptoRow, standIns := [], harness := (true, "6a6288614213b700c310f529358ed855be540a775ed779d0411f7f6f1a9501cd"), looks := false }, kinds := [], alts := [], laidByText := true, laidKinds := [.data, .pinned], laidTests := true, laidLooks := .later }
def NameParsesUptoCardSaid : Prop := Claim7.holds Tryd.pinned (.plain (OpenSpec.upto nameParsesSpec)) nameParsesUptoCard

/-- THE SECOND FORM's CARD OF 'consignorlaw03.NameBack'. -/
def nameBackUptoCard : Claim7 := { stood := { row := nameBackUptoRow, standIns := [], harness := (true, "6a6288614213b700c310f529358ed855be540a775ed779d0411f7f6f1a9501cd"), looks := false }, kinds := [], alts := [], laidByText := true, laidKinds := [.data, .pinned], laidTests := true, laidLooks := .later }
def NameBackUptoCardSaid : Prop := Claim7.holds Tryd.pinned (.plain (OpenSpec.upto nameBackSpec)) nameBackUptoCard

/-- THE SECOND FORM's CARD OF 'consignorlaw03.NameParts'. -/
def namePartsUptoCard : Claim7 := { stood := { row := namePartsUptoRow, standIns := [], harness := (true, "6a6288614213b700c310f529358ed855be540a775ed779d0411f7f6f1a9501cd"), looks := false }, kinds := [], alts := [], laidByText := true, laidKinds := [.data, .pinned], laidTests := true, laidLooks := .later }
def NamePartsUptoCardSaid : Prop := Claim7.holds Tryd.pinned (.plain (OpenSpec.upto namePartsSpec)) namePartsUptoCard

/-- THE SECOND FORM's CARD OF 'consignorlaw03.NameMarks'. -/
def nameMarksUptoCard : Claim7 := { stood := { row := nameMarksUptoRow, standIns := [], harness := (true, "6a6288614213b700c310f529358ed855be540a775ed779d0411f7f6f1a9501cd"), looks := false }, kinds := [], alts := [], laidByText := true, laidKinds := [.data, .pinned], laidTests := true, laidLooks := .later }
def NameMarksUptoCardSaid : Prop := Claim7.holds Tryd.pinned (.plain (OpenSpec.upto nameMarksSpec)) nameMarksUptoCard

/-- THE SECOND FORM's CARD OF 'consignorlaw03.NameRefs'. -/
def nameRefsUptoCard : Claim7 := { stood := { row := nameRefsUptoRow, standIns := [], harness := (true, "6a6288614213b700c310f529358ed855be540a775ed779d0411f7f6f1a9501cd"), looks := false }, kinds := [], alts := [], laidByText := true, laidKinds := [.data, .data, .pinned], laidTests := true, laidLooks := .later }
def NameRefsUptoCardSaid : Prop := Claim7.holds Tryd.pinned (.plain (OpenSpec.upto nameRefsSpec)) nameRefsUptoCard
end Rows
end Go.Proofs.YtdcokepmblcdmaaDoor
