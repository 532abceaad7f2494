/-
  DERIVED. GIVEN WITH THE SEED: THE CARDS: each row of YtjhgkcbhllomaaaDoorRows.lean that lists a variable, with what it lists TIED to the program's text (the seventh form; the later family's looks); each row that meets fmt, with fmt's text TOLD by the authors' own Lean function (tested against real Go, not proved from fmt's source: count such statements apart). THE CARD IS WHAT COUNTS. Prove the row's statement (the work); the ties are given (YtjhgkcbhllomaaaDoorTie.lean); close each card by the builder's one call (the guide's Derived/Test/ToyasCard.lean, 'card_holds'). Laid BY PROGRAM, IN A SANDBOX (cutbox-door.mjs). By AI agents, Wed Nov 11 2026. No macro, syntax, notation, axiom, sorry.
-/
import Derived.Test.YtjhgkcbhllomaaaDoorRows
import GoSem.ClaimSeven
namespace Go.Proofs.YtjhgkcbhllomaaaDoor
namespace Rows

/-- THE TIED CARD OF 'consignorlaw02.DigestSums'. -/
def digestSumsCard : Claim7 := { stood := { row := digestSumsRow, standIns := [], harness := (true, "cb983233ca39e7e5f5d2dea36e9c57c2fb3ccb1295660e3fea98415589665de9"), looks := true }, kinds := [], alts := [], laidByText := true, laidKinds := [.data], laidTests := true, laidLooks := .later }
def DigestSumsCardSaid : Prop := Claim7.holds Tryd.pinned (.plain (OpenSpec.ofChange digestSumsSpec)) digestSumsCard

/-- THE TIED CARD OF 'consignorlaw02.DigestParses'. -/
def digestParsesCard : Claim7 := { stood := { row := digestParsesRow, standIns := [], harness := (true, "cb983233ca39e7e5f5d2dea36e9c57c2fb3ccb1295660e3fea98415589665de9"), looks := true }, kinds := [], alts := [], laidByText := true, laidKinds := [.data], laidTests := true, laidLooks := .later }
def DigestParsesCardSaid : Prop := Claim7.holds Tryd.pinned (.plain (OpenSpec.ofChange digestParsesSpec)) digestParsesCard

/-- THE TIED CARD OF 'consignorlaw02.DigestBack'. -/
def digestBackCard : Claim7 := { stood := { row := digestBackRow, standIns := [], harness := (true, "cb983233ca39e7e5f5d2dea36e9c57c2fb3ccb1295660e3fea98415589665de9"), looks := true }, kinds := [], alts := [], laidByText := true, laidKinds := [.data], laidTests := true, laidLooks := .later }
def DigestBackCardSaid : Prop := Claim7.holds Tryd.pinned (.plain (OpenSpec.ofChange digestBackSpec)) digestBackCard

/-- THE TIED CARD OF 'consignorlaw02.DigestApart'. -/
def digestApartCard : Claim7 := { stood := { row := digestApartRow, standIns := [], harness := (true, "cb983233ca39e7e5f5d2dea36e9c57c2fb3ccb1295660e3fea98415589665de9"), looks := true }, kinds := [], alts := [], laidByText := true, laidKinds := [.data], laidTests := true, laidLooks := .later }
def DigestApartCardSaid : Prop := Claim7.holds Tryd.pinned (.plain (OpenSpec.ofChange digestApartSpec)) digestApartCard

/-- THE TIED CARD OF 'consignorlaw01.OctetBinds'. -/
def octetBindsCard : Claim7 := { stood := { row := octetBindsRow, standIns := [], harness := (true, "cb983233ca39e7e5f5d2dea36e9c57c2fb3ccb1295660e3fea98415589665de9"), looks := true }, kinds := [], alts := [], laidByText := true, laidKinds := [.handle], laidTests := true, laidLooks := .later }
def OctetBindsCardSaid : Prop := Claim7.holds Tryd.pinned (.plain (OpenSpec.ofChange octetBindsSpec)) octetBindsCard

/-- THE TIED CARD OF 'consignorlaw01.OctetLong'. -/
def octetLongCard : Claim7 := { stood := { row := octetLongRow, standIns := [], harness := (true, "cb983233ca39e7e5f5d2dea36e9c57c2fb3ccb1295660e3fea98415589665de9"), looks := true }, kinds := [], alts := [], laidByText := true, laidKinds := [.handle], laidTests := true, laidLooks := .later }
def OctetLongCardSaid : Prop := Claim7.holds Tryd.pinned (.plain (OpenSpec.ofChange octetLongSpec)) octetLongCard

/-- THE TIED CARD OF 'consignorlaw01.OctetBack'. -/
def octetBackCard : Claim7 := { stood := { row := octetBackRow, standIns := [], harness := (true, "cb983233ca39e7e5f5d2dea36e9c57c2fb3ccb1295660e3fea98415589665de9"), looks := true }, kinds := [], alts := [], laidByText := true, laidKinds := [.handle], laidTests := true, laidLooks := .later }
def OctetBackCardSaid : Prop := Claim7.holds Tryd.pinned (.plain (OpenSpec.ofChange octetBackSpec)) octetBackCard

/-- THE SECOND FORM's CARD OF 'consignorlaw02.DigestSums'. -/
def digestSumsUptoCard : Claim7 := { stood := { row := digestSumsUptoRow, standIns := [], harness := (true, "cb983233ca39e7e5f5d2dea36e9c57c2fb3ccb1295660e3fea98415589665de9"), looks := true }, kinds := [], alts := [], laidByText := true, laidKinds := [.data], laidTests := true, laidLooks := .later }
def DigestSumsUptoCardSaid : Prop := Claim7.holds Tryd.pinned (.plain (OpenSpec.upto digestSumsSpec)) digestSumsUptoCard

/-- THE SECOND FORM's CARD OF 'consignorlaw02.DigestParses'. -/
def digestParsesUptoCard : Claim7 := { stood := { row := digestParsesUptoRow, standIns := [], harness := (true, "cb983233ca39e7e5f5d2dea36e9c57c2fb3ccb1295660e3fea98415589665de9"), looks := true }, kinds := [], alts := [], laidByText := true, laidKinds := [.data], laidTests := true, laidLooks := .later }
def DigestParsesUptoCardSaid : Prop := Claim7.holds Tryd.pinned (.plain (OpenSpec.upto digestParsesSpec)) digestParsesUptoCard

/-- THE SECOND FORM's CARD OF 'consignorlaw02.DigestBack'. -/
def digestBackUptoCard : Claim7 := { stood := { row := digestBackUptoRow, standIns := [], harness := (true, "cb983233ca39e7e5f5d2dea36e9c57c2fb3ccb1295660e3fea98415589665de9"), looks := true }, kinds := [], alts := [], laidByText := true, laidKinds := [.data], laidTests := true, laidLooks := .later }
def DigestBackUptoCardSaid : Prop := Claim7.holds Tryd.pinned (.plain (OpenSpec.upto digestBackSpec)) digestBackUptoCard

/-- THE SECOND FORM's CARD OF 'consignorlaw02.DigestApart'. -/
def digestApartUptoCard : Claim7 := { stood := { row := digestApartUptoRow, standIns := [], harness := (true, "cb983233ca39e7e5f5d2dea36e9c57c2fb3ccb1295660e3fea98415589665de9"), looks := true }, kinds := [], alts := [], laidByText := true, laidKinds := [.data], laidTests := true, laidLooks := .later }
def DigestApartUptoCardSaid : Prop := Claim7.holds Tryd.pinned (.plain (OpenSpec.upto digestApartSpec)) digestApartUptoCard

/-- THE SECOND FORM's CARD OF 'consignorlaw01.OctetBinds'. -/
def octetBindsUptoCard : Claim7 := { stood := { row := octetBindsUptoRow, standIns := [], harness := (true, "cb983233ca39e7e5f5d2dea36e9c57c2fb3ccb1295660e3fea98415589665de9"), looks := true }, kinds := [], alts := [], laidByText := true, laidKinds := [.handle], laidTests := true, laidLooks := .later }
def OctetBindsUptoCardSaid : Prop := Claim7.holds Tryd.pinned (.plain (OpenSpec.upto octetBindsSpec)) octetBindsUptoCard

/-- THE SECOND FORM's CARD OF 'consignorlaw01.OctetLong'. -/
def octetLongUptoCard : Claim7 := { stood := { row := octetLongUptoRow, standIns := [], harness := (true, "cb983233ca39e7e5f5d2dea36e9c57c2fb3ccb1295660e3fea98415589665de9"), looks := true }, kinds := [], alts := [], laidByText := true, laidKinds := [.handle], laidTests := true, laidLooks := .later }
def OctetLongUptoCardSaid : Prop := Claim7.holds Tryd.pinned (.plain (OpenSpec.upto octetLongSpec)) octetLongUptoCard

/-- THE SECOND FORM's CARD OF 'consignorlaw01.OctetBack'. -/
def octetBackUptoCard : Claim7 := { stood := { row := octetBackUptoRow, standIns := [], harness := (true, "cb983233ca39e7e5f5d2dea36e9c57c2fb3ccb1295660e3fea98415589665de9"), looks := true }, kinds := [], alts := [], laidByText := true, laidKinds := [.handle], laidTests := true, laidLooks := .later }
def OctetBackUptoCardSaid : Prop := Claim7.holds Tryd.pinned (.plain (OpenSpec.upto octetBackSpec)) octetBackUptoCard
end Rows
end Go.Proofs.YtjhgkcbhllomaaaDoor
