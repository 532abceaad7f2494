/-
  DERIVED. GIVEN WITH THE SEED: THE CARDS: each row of YthcngbbceahdlaaDoorRows.lean that lists a variable, with what it lists TIED to the program's text (the seventh form; the later family's looks); each row that meets fmt, with fmt's text TOLD by the authors' own Lean function (tested against real Go, not proved from fmt's source: count such statements apart). THE CARD IS WHAT COUNTS. Prove the row's statement (the work); the ties are given (YthcngbbceahdlaaDoorTie.lean); close each card by the builder's one call (the guide's Derived/Test/ToyasCard.lean, 'card_holds'). Laid BY PROGRAM, IN A SANDBOX (cutbox-door.mjs). By AI agents, Wed Nov 11 2026. No macro, syntax, notation, axiom, sorry.
-/
import Derived.Test.YthcngbbceahdlaaDoorRows
import GoSem.ClaimSeven
namespace Go.Proofs.YthcngbbceahdlaaDoor
namespace Rows

/-- THE TIED CARD OF 'consignorlaw07.GlobStars'. -/
def globStarsCard : Claim7 := { stood := { row := globStarsRow, standIns := [], harness := (true, "9b67dd976cb790bfab13024b660aa57e4181461624236429e7c13590448c4756"), looks := true }, kinds := [], alts := [], laidByText := true, laidKinds := [.data, .pinned], laidTests := true, laidLooks := .later }
def GlobStarsCardSaid : Prop := Claim7.holds Tryd.pinned (.plain (OpenSpec.ofChange globStarsSpec)) globStarsCard

/-- THE TIED CARD OF 'consignorlaw07.GlobNames'. -/
def globNamesCard : Claim7 := { stood := { row := globNamesRow, standIns := [], harness := (true, "9b67dd976cb790bfab13024b660aa57e4181461624236429e7c13590448c4756"), looks := true }, kinds := [], alts := [], laidByText := true, laidKinds := [.data, .pinned], laidTests := true, laidLooks := .later }
def GlobNamesCardSaid : Prop := Claim7.holds Tryd.pinned (.plain (OpenSpec.ofChange globNamesSpec)) globNamesCard

/-- THE TIED CARD OF 'consignorlaw07.GlobWords'. -/
def globWordsCard : Claim7 := { stood := { row := globWordsRow, standIns := [], harness := (true, "9b67dd976cb790bfab13024b660aa57e4181461624236429e7c13590448c4756"), looks := true }, kinds := [], alts := [], laidByText := true, laidKinds := [.data, .pinned], laidTests := true, laidLooks := .later }
def GlobWordsCardSaid : Prop := Claim7.holds Tryd.pinned (.plain (OpenSpec.ofChange globWordsSpec)) globWordsCard

/-- THE TIED CARD OF 'consignorlaw07.GlobOnes'. -/
def globOnesCard : Claim7 := { stood := { row := globOnesRow, standIns := [], harness := (true, "9b67dd976cb790bfab13024b660aa57e4181461624236429e7c13590448c4756"), looks := true }, kinds := [], alts := [], laidByText := true, laidKinds := [.data, .pinned], laidTests := true, laidLooks := .later }
def GlobOnesCardSaid : Prop := Claim7.holds Tryd.pinned (.plain (OpenSpec.ofChange globOnesSpec)) globOnesCard

/-- THE TIED CARD OF 'consignorlaw08.CronParses'. -/
def cronParsesCard : Claim7 := { stood := { row := cronParsesRow, standIns := [], harness := (true, "9b67dd976cb790bfab13024b660aa57e4181461624236429e7c13590448c4756"), looks := true }, kinds := [], alts := [], laidByText := true, laidKinds := [.data, .pinned], laidTests := true, laidLooks := .later }
def CronParsesCardSaid : Prop := Claim7.holds Tryd.pinned (.plain (OpenSpec.ofChange cronParsesSpec)) cronParsesCard

/-- THE TIED CARD OF 'consignorlaw08.CronTimes'. -/
def cronTimesCard : Claim7 := { stood := { row := cronTimesRow, standIns := [], harness := (true, "9b67dd976cb790bfab13024b660aa57e4181461624236429e7c13590448c4756"), looks := true }, kinds := [], alts := [], laidByText := true, laidKinds := [.data, .pinned], laidTests := true, laidLooks := .later }
def CronTimesCardSaid : Prop := Claim7.holds Tryd.pinned (.plain (OpenSpec.ofChange cronTimesSpec)) cronTimesCard

/-- THE TIED CARD OF 'consignorlaw08.CronDays'. -/
def cronDaysCard : Claim7 := { stood := { row := cronDaysRow, standIns := [], harness := (true, "9b67dd976cb790bfab13024b660aa57e4181461624236429e7c13590448c4756"), looks := true }, kinds := [], alts := [], laidByText := true, laidKinds := [.data, .pinned], laidTests := true, laidLooks := .later }
def CronDaysCardSaid : Prop := Claim7.holds Tryd.pinned (.plain (OpenSpec.ofChange cronDaysSpec)) cronDaysCard

/-- THE TIED CARD OF 'consignorlaw08.CronFires'. -/
def cronFiresCard : Claim7 := { stood := { row := cronFiresRow, standIns := [], harness := (true, "9b67dd976cb790bfab13024b660aa57e4181461624236429e7c13590448c4756"), looks := true }, kinds := [], alts := [], laidByText := true, laidKinds := [.data, .pinned], laidTests := true, laidLooks := .later }
def CronFiresCardSaid : Prop := Claim7.holds Tryd.pinned (.plain (OpenSpec.ofChange cronFiresSpec)) cronFiresCard

/-- THE TIED CARD OF 'consignorlaw08.CronEvery'. -/
def cronEveryCard : Claim7 := { stood := { row := cronEveryRow, standIns := [], harness := (true, "9b67dd976cb790bfab13024b660aa57e4181461624236429e7c13590448c4756"), looks := true }, kinds := [], alts := [], laidByText := true, laidKinds := [.data, .pinned], laidTests := true, laidLooks := .later }
def CronEveryCardSaid : Prop := Claim7.holds Tryd.pinned (.plain (OpenSpec.ofChange cronEverySpec)) cronEveryCard

/-- THE TIED CARD OF 'consignorlaw08.CronNext'. -/
def cronNextCard : Claim7 := { stood := { row := cronNextRow, standIns := [], harness := (true, "9b67dd976cb790bfab13024b660aa57e4181461624236429e7c13590448c4756"), looks := true }, kinds := [], alts := [], laidByText := true, laidKinds := [.data, .pinned], laidTests := true, laidLooks := .later }
def CronNextCardSaid : Prop := Claim7.holds Tryd.pinned (.plain (OpenSpec.ofChange cronNextSpec)) cronNextCard

/-- THE SECOND FORM's CARD OF 'consignorlaw07.GlobStars'. -/
def globStarsUptoCard : Claim7 := { stood := { row := globStarsUptoRow, standIns := [], harness := (true, "9b67dd976cb790bfab13024b660aa57e4181461624236429e7c13590448c4756"), looks := true }, kinds := [], alts := [], laidByText := true, laidKinds := [.data, .pinned], laidTests := true, laidLooks := .later }
def GlobStarsUptoCardSaid : Prop := Claim7.holds Tryd.pinned (.plain (OpenSpec.upto globStarsSpec)) globStarsUptoCard

/-- THE SECOND FORM's CARD OF 'consignorlaw07.GlobNames'. -/
def globNamesUptoCard : Claim7 := { stood := { row := globNamesUptoRow, standIns := [], harness := (true, "9b67dd976cb790bfab13024b660aa57e4181461624236429e7c13590448c4756"), looks := true }, kinds := [], alts := [], laidByText := true, laidKinds := [.data, .pinned], laidTests := true, laidLooks := .later }
def GlobNamesUptoCardSaid : Prop := Claim7.holds Tryd.pinned (.plain (OpenSpec.upto globNamesSpec)) globNamesUptoCard

/-- THE SECOND FORM's CARD OF 'consignorlaw07.GlobWords'. -/
def globWordsUptoCard : Claim7 := { stood := { row := globWordsUptoRow, standIns := [], harness := (true, "9b67dd976cb790bfab13024b660aa57e4181461624236429e7c13590448c4756"), looks := true }, kinds := [], alts := [], laidByText := true, laidKinds := [.data, .pinned], laidTests := true, laidLooks := .later }
def GlobWordsUptoCardSaid : Prop := Claim7.holds Tryd.pinned (.plain (OpenSpec.upto globWordsSpec)) globWordsUptoCard

/-- THE SECOND FORM's CARD OF 'consignorlaw07.GlobOnes'. -/
def globOnesUptoCard : Claim7 := { stood := { row := globOnesUptoRow, standIns := [], harness := (true, "9b67dd976cb790bfab13024b660aa57e4181461624236429e7c13590448c4756"), looks := true }, kinds := [], alts := [], laidByText := true, laidKinds := [.data, .pinned], laidTests := true, laidLooks := .later }
def GlobOnesUptoCardSaid : Prop := Claim7.holds Tryd.pinned (.plain (OpenSpec.upto globOnesSpec)) globOnesUptoCard

/-- THE SECOND FORM's CARD OF 'consignorlaw08.CronParses'. -/
def cronParsesUptoCard : Claim7 := { stood := { row := cronParsesUptoRow, standIns := [], harness := (true, "9b67dd976cb790bfab13024b660aa57e4181461624236429e7c13590448c4756"), looks := true }, kinds := [], alts := [], laidByText := true, laidKinds := [.data, .pinned], laidTests := true, laidLooks := .later }
def CronParsesUptoCardSaid : Prop := Claim7.holds Tryd.pinned (.plain (OpenSpec.upto cronParsesSpec)) cronParsesUptoCard

/-- THE SECOND FORM's CARD OF 'consignorlaw08.CronTimes'. -/
def cronTimesUptoCard : Claim7 := { stood := { row := cronTimesUptoRow, standIns := [], harness := (true, "9b67dd976cb790bfab13024b660aa57e4181461624236429e7c13590448c4756"), looks := true }, kinds := [], alts := [], laidByText := true, laidKinds := [.data, .pinned], laidTests := true, laidLooks := .later }
def CronTimesUptoCardSaid : Prop := Claim7.holds Tryd.pinned (.plain (OpenSpec.upto cronTimesSpec)) cronTimesUptoCard

/-- THE SECOND FORM's CARD OF 'consignorlaw08.CronDays'. -/
def cronDaysUptoCard : Claim7 := { stood := { row := cronDaysUptoRow, standIns := [], harness := (true, "9b67dd976cb790bfab13024b660aa57e4181461624236429e7c13590448c4756"), looks := true }, kinds := [], alts := [], laidByText := true, laidKinds := [.data, .pinned], laidTests := true, laidLooks := .later }
def CronDaysUptoCardSaid : Prop := Claim7.holds Tryd.pinned (.plain (OpenSpec.upto cronDaysSpec)) cronDaysUptoCard

/-- THE SECOND FORM's CARD OF 'consignorlaw08.CronFires'. -/
def cronFiresUptoCard : Claim7 := { stood := { row := cronFiresUptoRow, standIns := [], harness := (true, "9b67dd976cb790bfab13024b660aa57e4181461624236429e7c13590448c4756"), looks := true }, kinds := [], alts := [], laidByText := true, laidKinds := [.data, .pinned], laidTests := true, laidLooks := .later }
def CronFiresUptoCardSaid : Prop := Claim7.holds Tryd.pinned (.plain (OpenSpec.upto cronFiresSpec)) cronFiresUptoCard

/-- THE SECOND FORM's CARD OF 'consignorlaw08.CronEvery'. -/
def cronEveryUptoCard : Claim7 := { stood := { row := cronEveryUptoRow, standIns := [], harness := (true, "9b67dd976cb790bfab13024b660aa57e4181461624236429e7c13590448c4756"), looks := true }, kinds := [], alts := [], laidByText := true, laidKinds := [.data, .pinned], laidTests := true, laidLooks := .later }
def CronEveryUptoCardSaid : Prop := Claim7.holds Tryd.pinned (.plain (OpenSpec.upto cronEverySpec)) cronEveryUptoCard

/-- THE SECOND FORM's CARD OF 'consignorlaw08.CronNext'. -/
def cronNextUptoCard : Claim7 := { stood := { row := cronNextUptoRow, standIns := [], harness := (true, "9b67dd976cb790bfab13024b660aa57e4181461624236429e7c13590448c4756"), looks := true }, kinds := [], alts := [], laidByText := true, laidKinds := [.data, .pinned], laidTests := true, laidLooks := .later }
def CronNextUptoCardSaid : Prop := Claim7.holds Tryd.pinned (.plain (OpenSpec.upto cronNextSpec)) cronNextUptoCard
end Rows
end Go.Proofs.YthcngbbceahdlaaDoor
