/-
  DERIVED. GIVEN WITH THE SEED: THE CARDS: each row of YtnpbhpaffdjjoaaDoorRows.lean that lists a variable, with what it lists TIED to the program's text (the seventh form; the later family's looks); each row that meets fmt, with fmt's text TOLD by the authors' own Lean function (tested against real Go, not proved from fmt's source: count such statements apart). THE CARD IS WHAT COUNTS. Prove the row's statement (the work); the ties are given (YtnpbhpaffdjjoaaDoorTie.lean); close each card by the builder's one call (the guide's Derived/Test/ToyasCard.lean, 'card_holds'). Laid BY PROGRAM, IN A SANDBOX (cutbox-door.mjs). By AI agents, Wed Nov 11 2026. No macro, syntax, notation, axiom, sorry.
-/
import Derived.Test.YtnpbhpaffdjjoaaDoorRows
import GoSem.ClaimSeven
namespace Go.Proofs.YtnpbhpaffdjjoaaDoor
namespace Rows

/-- THE TIED CARD OF 'pandectlaw01.DateWeekdays'. -/
def dateWeekdaysCard : Claim7 := { stood := { row := dateWeekdaysRow, standIns := [], harness := (true, "fd3048be1cca5df72ee02833fdc8d4a1a9508489b288fdddf16f9fb359387c35"), looks := false }, kinds := [], alts := [], laidByText := true, laidKinds := [.data, .data, .data], laidTests := true, laidLooks := .later }
def DateWeekdaysCardSaid : Prop := Claim7.holds Tryd.pinned (.plain (OpenSpec.ofChange dateWeekdaysSpec)) dateWeekdaysCard

/-- THE TIED CARD OF 'pandectlaw01.DateYears'. -/
def dateYearsCard : Claim7 := { stood := { row := dateYearsRow, standIns := [], harness := (true, "fd3048be1cca5df72ee02833fdc8d4a1a9508489b288fdddf16f9fb359387c35"), looks := false }, kinds := [], alts := [], laidByText := true, laidKinds := [.data, .data, .data], laidTests := true, laidLooks := .later }
def DateYearsCardSaid : Prop := Claim7.holds Tryd.pinned (.plain (OpenSpec.ofChange dateYearsSpec)) dateYearsCard

/-- THE TIED CARD OF 'pandectlaw01.DateSittings'. -/
def dateSittingsCard : Claim7 := { stood := { row := dateSittingsRow, standIns := [], harness := (true, "fd3048be1cca5df72ee02833fdc8d4a1a9508489b288fdddf16f9fb359387c35"), looks := false }, kinds := [], alts := [], laidByText := true, laidKinds := [.data, .data, .data], laidTests := true, laidLooks := .later }
def DateSittingsCardSaid : Prop := Claim7.holds Tryd.pinned (.plain (OpenSpec.ofChange dateSittingsSpec)) dateSittingsCard

/-- THE TIED CARD OF 'pandectlaw01.DateAddYears'. -/
def dateAddYearsCard : Claim7 := { stood := { row := dateAddYearsRow, standIns := [], harness := (true, "fd3048be1cca5df72ee02833fdc8d4a1a9508489b288fdddf16f9fb359387c35"), looks := false }, kinds := [], alts := [], laidByText := true, laidKinds := [.data, .data, .data], laidTests := true, laidLooks := .later }
def DateAddYearsCardSaid : Prop := Claim7.holds Tryd.pinned (.plain (OpenSpec.ofChange dateAddYearsSpec)) dateAddYearsCard

/-- THE TIED CARD OF 'pandectlaw01.DateTexts'. -/
def dateTextsCard : Claim7 := { stood := { row := dateTextsRow, standIns := [], harness := (true, "fd3048be1cca5df72ee02833fdc8d4a1a9508489b288fdddf16f9fb359387c35"), looks := false }, kinds := [], alts := [], laidByText := true, laidKinds := [.data, .data, .data], laidTests := true, laidLooks := .later }
def DateTextsCardSaid : Prop := Claim7.holds Tryd.pinned (.plain (OpenSpec.ofChange dateTextsSpec)) dateTextsCard

/-- THE TIED CARD OF 'pandectlaw01.DateParses'. -/
def dateParsesCard : Claim7 := { stood := { row := dateParsesRow, standIns := [], harness := (true, "fd3048be1cca5df72ee02833fdc8d4a1a9508489b288fdddf16f9fb359387c35"), looks := false }, kinds := [], alts := [], laidByText := true, laidKinds := [.data, .data, .data], laidTests := true, laidLooks := .later }
def DateParsesCardSaid : Prop := Claim7.holds Tryd.pinned (.plain (OpenSpec.ofChange dateParsesSpec)) dateParsesCard

/-- THE SECOND FORM's CARD OF 'pandectlaw01.DateWeekdays'. -/
def dateWeekdaysUptoCard : Claim7 := { stood := { row := dateWeekdaysUptoRow, standIns := [], harness := (true, "fd3048be1cca5df72ee02833fdc8d4a1a9508489b288fdddf16f9fb359387c35"), looks := false }, kinds := [], alts := [], laidByText := true, laidKinds := [.data, .data, .data], laidTests := true, laidLooks := .later }
def DateWeekdaysUptoCardSaid : Prop := Claim7.holds Tryd.pinned (.plain (OpenSpec.upto dateWeekdaysSpec)) dateWeekdaysUptoCard

/-- THE SECOND FORM's CARD OF 'pandectlaw01.DateYears'. -/
def dateYearsUptoCard : Claim7 := { stood := { row := dateYearsUptoRow, standIns := [], harness := (true, "fd3048be1cca5df72ee02833fdc8d4a1a9508489b288fdddf16f9fb359387c35"), looks := false }, kinds := [], alts := [], laidByText := true, laidKinds := [.data, .data, .data], laidTests := true, laidLooks := .later }
def DateYearsUptoCardSaid : Prop := Claim7.holds Tryd.pinned (.plain (OpenSpec.upto dateYearsSpec)) dateYearsUptoCard

/-- THE SECOND FORM's CARD OF 'pandectlaw01.DateSittings'. -/
def dateSittingsUptoCard : Claim7 := { stood := { row := dateSittingsUptoRow, standIns := [], harness := (true, "fd3048be1cca5df72ee02833fdc8d4a1a9508489b288fdddf16f9fb359387c35"), looks := false }, kinds := [], alts := [], laidByText := true, laidKinds := [.data, .data, .data], laidTests := true, laidLooks := .later }
def DateSittingsUptoCardSaid : Prop := Claim7.holds Tryd.pinned (.plain (OpenSpec.upto dateSittingsSpec)) dateSittingsUptoCard

/-- THE SECOND FORM's CARD OF 'pandectlaw01.DateAddYears'. -/
def dateAddYearsUptoCard : Claim7 := { stood := { row := dateAddYearsUptoRow, standIns := [], harness := (true, "fd3048be1cca5df72ee02833fdc8d4a1a9508489b288fdddf16f9fb359387c35"), looks := false }, kinds := [], alts := [], laidByText := true, laidKinds := [.data, .data, .data], laidTests := true, laidLooks := .later }
def DateAddYearsUptoCardSaid : Prop := Claim7.holds Tryd.pinned (.plain (OpenSpec.upto dateAddYearsSpec)) dateAddYearsUptoCard

/-- THE SECOND FORM's CARD OF 'pandectlaw01.DateTexts'. -/
def dateTextsUptoCard : Claim7 := { stood := { row := dateTextsUptoRow, standIns := [], harness := (true, "fd3048be1cca5df72ee02833fdc8d4a1a9508489b288fdddf16f9fb359387c35"), looks := false }, kinds := [], alts := [], laidByText := true, laidKinds := [.data, .data, .data], laidTests := true, laidLooks := .later }
def DateTextsUptoCardSaid : Prop := Claim7.holds Tryd.pinned (.plain (OpenSpec.upto dateTextsSpec)) dateTextsUptoCard

/-- THE SECOND FORM's CARD OF 'pandectlaw01.DateParses'. -/
def dateParsesUptoCard : Claim7 := { stood := { row := dateParsesUptoRow, standIns := [], harness := (true, "fd3048be1cca5df72ee02833fdc8d4a1a9508489b288fdddf16f9fb359387c35"), looks := false }, kinds := [], alts := [], laidByText := true, laidKinds := [.data, .data, .data], laidTests := true, laidLooks := .later }
def DateParsesUptoCardSaid : Prop := Claim7.holds Tryd.pinned (.plain (OpenSpec.upto dateParsesSpec)) dateParsesUptoCard
end Rows
end Go.Proofs.YtnpbhpaffdjjoaaDoor
