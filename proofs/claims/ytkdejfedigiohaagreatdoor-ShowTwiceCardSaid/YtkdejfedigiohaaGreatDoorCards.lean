/-
  DERIVED. GIVEN WITH THE SEED: THE CARDS: each row of YtkdejfedigiohaaGreatDoorRows.lean that lists a variable, with what it lists TIED to the program's text (the seventh form; the later family's looks); each row that meets fmt, with fmt's text TOLD by the authors' own Lean function (tested against real Go, not proved from fmt's source: count such statements apart). THE CARD IS WHAT COUNTS. Prove the row's statement (the work); the ties are given (YtkdejfedigiohaaGreatDoorTie.lean); close each card by the builder's one call (the guide's Derived/Test/ToyasCard.lean, 'card_holds'). Laid BY PROGRAM, IN A SANDBOX (cutbox-door.mjs). By AI agents, Wed Nov 11 2026. No macro, syntax, notation, axiom, sorry.
-/
import Derived.Test.YtkdejfedigiohaaGreatDoorRows
import GoSem.ClaimSeven
namespace Go.Proofs.YtkdejfedigiohaaGreatDoor
namespace Rows

/-- THE TIED CARD OF 'complinelaw21.DayMatches'. -/
def dayMatchesCard : Claim7 := { stood := { row := dayMatchesRow, standIns := [], harness := (true, "8e40f5c2dd2f676b1829649449e39e89f36f1c5d38969bba931cd7088dcb3a1c"), looks := true }, kinds := [], alts := [], laidByText := true, laidKinds := [.data, .handle, .pinned], laidTests := true, laidLooks := .later }
def DayMatchesCardSaid : Prop := Claim7.holds Tryz.pinned (.plain (OpenSpec.ofChange dayMatchesSpec)) dayMatchesCard

/-- THE TIED CARD OF 'complinelaw21.DayParts'. -/
def dayPartsCard : Claim7 := { stood := { row := dayPartsRow, standIns := [], harness := (true, "8e40f5c2dd2f676b1829649449e39e89f36f1c5d38969bba931cd7088dcb3a1c"), looks := true }, kinds := [], alts := [], laidByText := true, laidKinds := [.data, .handle, .pinned], laidTests := true, laidLooks := .later }
def DayPartsCardSaid : Prop := Claim7.holds Tryz.pinned (.plain (OpenSpec.ofChange dayPartsSpec)) dayPartsCard

/-- THE TIED CARD OF 'complinelaw21.DayMonths'. -/
def dayMonthsCard : Claim7 := { stood := { row := dayMonthsRow, standIns := [], harness := (true, "8e40f5c2dd2f676b1829649449e39e89f36f1c5d38969bba931cd7088dcb3a1c"), looks := true }, kinds := [], alts := [], laidByText := true, laidKinds := [.data, .handle, .pinned], laidTests := true, laidLooks := .later }
def DayMonthsCardSaid : Prop := Claim7.holds Tryz.pinned (.plain (OpenSpec.ofChange dayMonthsSpec)) dayMonthsCard

/-- THE TIED CARD OF 'complinelaw21.DayWeeks'. -/
def dayWeeksCard : Claim7 := { stood := { row := dayWeeksRow, standIns := [], harness := (true, "8e40f5c2dd2f676b1829649449e39e89f36f1c5d38969bba931cd7088dcb3a1c"), looks := true }, kinds := [], alts := [], laidByText := true, laidKinds := [.data, .handle, .pinned], laidTests := true, laidLooks := .later }
def DayWeeksCardSaid : Prop := Claim7.holds Tryz.pinned (.plain (OpenSpec.ofChange dayWeeksSpec)) dayWeeksCard

/-- THE TIED CARD OF 'complinelaw21.DayEither'. -/
def dayEitherCard : Claim7 := { stood := { row := dayEitherRow, standIns := [], harness := (true, "8e40f5c2dd2f676b1829649449e39e89f36f1c5d38969bba931cd7088dcb3a1c"), looks := true }, kinds := [], alts := [], laidByText := true, laidKinds := [.data, .handle, .pinned], laidTests := true, laidLooks := .later }
def DayEitherCardSaid : Prop := Claim7.holds Tryz.pinned (.plain (OpenSpec.ofChange dayEitherSpec)) dayEitherCard

/-- THE TIED CARD OF 'complinelaw20.ShowFields'. -/
def showFieldsCard : Claim7 := { stood := { row := showFieldsRow, standIns := [], harness := (true, "8e40f5c2dd2f676b1829649449e39e89f36f1c5d38969bba931cd7088dcb3a1c"), looks := true }, kinds := [], alts := [], laidByText := true, laidKinds := [.data, .data, .data, .data, .handle, .pinned], laidTests := true, laidLooks := .later }
def ShowFieldsCardSaid : Prop := Claim7.holds Tryz.pinned (.plain (OpenSpec.ofChange showFieldsSpec)) showFieldsCard

/-- THE TIED CARD OF 'complinelaw20.ShowSpecs'. -/
def showSpecsCard : Claim7 := { stood := { row := showSpecsRow, standIns := [], harness := (true, "8e40f5c2dd2f676b1829649449e39e89f36f1c5d38969bba931cd7088dcb3a1c"), looks := true }, kinds := [], alts := [], laidByText := true, laidKinds := [.data, .data, .data, .data, .handle, .pinned], laidTests := true, laidLooks := .later }
def ShowSpecsCardSaid : Prop := Claim7.holds Tryz.pinned (.plain (OpenSpec.ofChange showSpecsSpec)) showSpecsCard

/-- THE TIED CARD OF 'complinelaw20.ShowBack'. -/
def showBackCard : Claim7 := { stood := { row := showBackRow, standIns := [], harness := (true, "8e40f5c2dd2f676b1829649449e39e89f36f1c5d38969bba931cd7088dcb3a1c"), looks := true }, kinds := [], alts := [], laidByText := true, laidKinds := [.data, .data, .data, .data, .handle, .pinned], laidTests := true, laidLooks := .later }
def ShowBackCardSaid : Prop := Claim7.holds Tryz.pinned (.plain (OpenSpec.ofChange showBackSpec)) showBackCard

/-- THE TIED CARD OF 'complinelaw20.ShowTwice'. -/
def showTwiceCard : Claim7 := { stood := { row := showTwiceRow, standIns := [], harness := (true, "8e40f5c2dd2f676b1829649449e39e89f36f1c5d38969bba931cd7088dcb3a1c"), looks := true }, kinds := [], alts := [], laidByText := true, laidKinds := [.data, .data, .data, .data, .handle, .pinned], laidTests := true, laidLooks := .later }
def ShowTwiceCardSaid : Prop := Claim7.holds Tryz.pinned (.plain (OpenSpec.ofChange showTwiceSpec)) showTwiceCard

/-- THE TIED CARD OF 'complinelaw20.ShowTurns'. -/
def showTurnsCard : Claim7 := { stood := { row := showTurnsRow, standIns := [], harness := (true, "8e40f5c2dd2f676b1829649449e39e89f36f1c5d38969bba931cd7088dcb3a1c"), looks := true }, kinds := [], alts := [], laidByText := true, laidKinds := [.data, .data, .data, .data, .handle, .pinned], laidTests := true, laidLooks := .later }
def ShowTurnsCardSaid : Prop := Claim7.holds Tryz.pinned (.plain (OpenSpec.ofChange showTurnsSpec)) showTurnsCard

/-- THE TIED CARD OF 'complinelaw20.ShowApart'. -/
def showApartCard : Claim7 := { stood := { row := showApartRow, standIns := [], harness := (true, "8e40f5c2dd2f676b1829649449e39e89f36f1c5d38969bba931cd7088dcb3a1c"), looks := true }, kinds := [], alts := [], laidByText := true, laidKinds := [.data, .data, .data, .data, .handle, .pinned], laidTests := true, laidLooks := .later }
def ShowApartCardSaid : Prop := Claim7.holds Tryz.pinned (.plain (OpenSpec.ofChange showApartSpec)) showApartCard

/-- THE SECOND FORM's CARD OF 'complinelaw21.DayMatches'. -/
def dayMatchesUptoCard : Claim7 := { stood := { row := dayMatchesUptoRow, standIns := [], harness := (true, "8e40f5c2dd2f676b1829649449e39e89f36f1c5d38969bba931cd7088dcb3a1c"), looks := true }, kinds := [], alts := [], laidByText := true, laidKinds := [.data, .handle, .pinned], laidTests := true, laidLooks := .later }
def DayMatchesUptoCardSaid : Prop := Claim7.holds Tryz.pinned (.plain (OpenSpec.upto dayMatchesSpec)) dayMatchesUptoCard

/-- THE SECOND FORM's CARD OF 'complinelaw21.DayParts'. -/
def dayPartsUptoCard : Claim7 := { stood := { row := dayPartsUptoRow, standIns := [], harness := (true, "8e40f5c2dd2f676b1829649449e39e89f36f1c5d38969bba931cd7088dcb3a1c"), looks := true }, kinds := [], alts := [], laidByText := true, laidKinds := [.data, .handle, .pinned], laidTests := true, laidLooks := .later }
def DayPartsUptoCardSaid : Prop := Claim7.holds Tryz.pinned (.plain (OpenSpec.upto dayPartsSpec)) dayPartsUptoCard

/-- THE SECOND FORM's CARD OF 'complinelaw21.DayMonths'. -/
def dayMonthsUptoCard : Claim7 := { stood := { row := dayMonthsUptoRow, standIns := [], harness := (true, "8e40f5c2dd2f676b1829649449e39e89f36f1c5d38969bba931cd7088dcb3a1c"), looks := true }, kinds := [], alts := [], laidByText := true, laidKinds := [.data, .handle, .pinned], laidTests := true, laidLooks := .later }
def DayMonthsUptoCardSaid : Prop := Claim7.holds Tryz.pinned (.plain (OpenSpec.upto dayMonthsSpec)) dayMonthsUptoCard

/-- THE SECOND FORM's CARD OF 'complinelaw21.DayWeeks'. -/
def dayWeeksUptoCard : Claim7 := { stood := { row := dayWeeksUptoRow, standIns := [], harness := (true, "8e40f5c2dd2f676b1829649449e39e89f36f1c5d38969bba931cd7088dcb3a1c"), looks := true }, kinds := [], alts := [], laidByText := true, laidKinds := [.data, .handle, .pinned], laidTests := true, laidLooks := .later }
def DayWeeksUptoCardSaid : Prop := Claim7.holds Tryz.pinned (.plain (OpenSpec.upto dayWeeksSpec)) dayWeeksUptoCard

/-- THE SECOND FORM's CARD OF 'complinelaw21.DayEither'. -/
def dayEitherUptoCard : Claim7 := { stood := { row := dayEitherUptoRow, standIns := [], harness := (true, "8e40f5c2dd2f676b1829649449e39e89f36f1c5d38969bba931cd7088dcb3a1c"), looks := true }, kinds := [], alts := [], laidByText := true, laidKinds := [.data, .handle, .pinned], laidTests := true, laidLooks := .later }
def DayEitherUptoCardSaid : Prop := Claim7.holds Tryz.pinned (.plain (OpenSpec.upto dayEitherSpec)) dayEitherUptoCard

/-- THE SECOND FORM's CARD OF 'complinelaw20.ShowFields'. -/
def showFieldsUptoCard : Claim7 := { stood := { row := showFieldsUptoRow, standIns := [], harness := (true, "8e40f5c2dd2f676b1829649449e39e89f36f1c5d38969bba931cd7088dcb3a1c"), looks := true }, kinds := [], alts := [], laidByText := true, laidKinds := [.data, .data, .data, .data, .handle, .pinned], laidTests := true, laidLooks := .later }
def ShowFieldsUptoCardSaid : Prop := Claim7.holds Tryz.pinned (.plain (OpenSpec.upto showFieldsSpec)) showFieldsUptoCard

/-- THE SECOND FORM's CARD OF 'complinelaw20.ShowSpecs'. -/
def showSpecsUptoCard : Claim7 := { stood := { row := showSpecsUptoRow, standIns := [], harness := (true, "8e40f5c2dd2f676b1829649449e39e89f36f1c5d38969bba931cd7088dcb3a1c"), looks := true }, kinds := [], alts := [], laidByText := true, laidKinds := [.data, .data, .data, .data, .handle, .pinned], laidTests := true, laidLooks := .later }
def ShowSpecsUptoCardSaid : Prop := Claim7.holds Tryz.pinned (.plain (OpenSpec.upto showSpecsSpec)) showSpecsUptoCard

/-- THE SECOND FORM's CARD OF 'complinelaw20.ShowBack'. -/
def showBackUptoCard : Claim7 := { stood := { row := showBackUptoRow, standIns := [], harness := (true, "8e40f5c2dd2f676b1829649449e39e89f36f1c5d38969bba931cd7088dcb3a1c"), looks := true }, kinds := [], alts := [], laidByText := true, laidKinds := [.data, .data, .data, .data, .handle, .pinned], laidTests := true, laidLooks := .later }
def ShowBackUptoCardSaid : Prop := Claim7.holds Tryz.pinned (.plain (OpenSpec.upto showBackSpec)) showBackUptoCard

/-- THE SECOND FORM's CARD OF 'complinelaw20.ShowTwice'. -/
def showTwiceUptoCard : Claim7 := { stood := { row := showTwiceUptoRow, standIns := [], harness := (true, "8e40f5c2dd2f676b1829649449e39e89f36f1c5d38969bba931cd7088dcb3a1c"), looks := true }, kinds := [], alts := [], laidByText := true, laidKinds := [.data, .data, .data, .data, .handle, .pinned], laidTests := true, laidLooks := .later }
def ShowTwiceUptoCardSaid : Prop := Claim7.holds Tryz.pinned (.plain (OpenSpec.upto showTwiceSpec)) showTwiceUptoCard

/-- THE SECOND FORM's CARD OF 'complinelaw20.ShowTurns'. -/
def showTurnsUptoCard : Claim7 := { stood := { row := showTurnsUptoRow, standIns := [], harness := (true, "8e40f5c2dd2f676b1829649449e39e89f36f1c5d38969bba931cd7088dcb3a1c"), looks := true }, kinds := [], alts := [], laidByText := true, laidKinds := [.data, .data, .data, .data, .handle, .pinned], laidTests := true, laidLooks := .later }
def ShowTurnsUptoCardSaid : Prop := Claim7.holds Tryz.pinned (.plain (OpenSpec.upto showTurnsSpec)) showTurnsUptoCard

/-- THE SECOND FORM's CARD OF 'complinelaw20.ShowApart'. -/
def showApartUptoCard : Claim7 := { stood := { row := showApartUptoRow, standIns := [], harness := (true, "8e40f5c2dd2f676b1829649449e39e89f36f1c5d38969bba931cd7088dcb3a1c"), looks := true }, kinds := [], alts := [], laidByText := true, laidKinds := [.data, .data, .data, .data, .handle, .pinned], laidTests := true, laidLooks := .later }
def ShowApartUptoCardSaid : Prop := Claim7.holds Tryz.pinned (.plain (OpenSpec.upto showApartSpec)) showApartUptoCard
end Rows
end Go.Proofs.YtkdejfedigiohaaGreatDoor
