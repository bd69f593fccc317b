/-
  DERIVED. GIVEN WITH THE SEED: THE CARDS: each row of YtkejnnnedgmhiaaDoorRows.lean that lists a variable, with what it lists TIED to the program's text (the seventh form; the later family's looks); each row that meets fmt, with fmt's text TOLD by the authors' own Lean function (tested against real Go, not proved from fmt's source: count such statements apart). THE CARD IS WHAT COUNTS. Prove the row's statement (the work); the ties are given (YtkejnnnedgmhiaaDoorTie.lean); close each card by the builder's one call (the guide's Derived/Test/ToyasCard.lean, 'card_holds'). Laid BY PROGRAM, IN A SANDBOX (cutbox-door.mjs). By AI agents, Wed Nov 11 2026. No macro, syntax, notation, axiom, sorry.
-/
import Derived.Test.YtkejnnnedgmhiaaDoorRows
import GoSem.ClaimSeven
namespace Go.Proofs.YtkejnnnedgmhiaaDoor
namespace Rows

/-- THE TIED CARD OF 'transhumancelaw1.TextPlaces'. -/
def textPlacesCard : Claim7 := { stood := { row := textPlacesRow, standIns := [], harness := (true, "e63e36759aa9f26d4964266e550e03bc6fbb3f8041cc7f0d2404d8afe9b9c547"), looks := false }, kinds := [], alts := [], laidByText := true, laidKinds := [.sentinel], laidTests := true, laidLooks := .later }
def TextPlacesCardSaid : Prop := Claim7.holds Tryd.pinned (.plain (OpenSpec.ofChange textPlacesSpec)) textPlacesCard

/-- THE TIED CARD OF 'transhumancelaw1.TextCursors'. -/
def textCursorsCard : Claim7 := { stood := { row := textCursorsRow, standIns := [], harness := (true, "e63e36759aa9f26d4964266e550e03bc6fbb3f8041cc7f0d2404d8afe9b9c547"), looks := false }, kinds := [], alts := [], laidByText := true, laidKinds := [.sentinel], laidTests := true, laidLooks := .later }
def TextCursorsCardSaid : Prop := Claim7.holds Tryd.pinned (.plain (OpenSpec.ofChange textCursorsSpec)) textCursorsCard

/-- THE TIED CARD OF 'transhumancelaw1.TextNumbers'. -/
def textNumbersCard : Claim7 := { stood := { row := textNumbersRow, standIns := [], harness := (true, "e63e36759aa9f26d4964266e550e03bc6fbb3f8041cc7f0d2404d8afe9b9c547"), looks := false }, kinds := [], alts := [], laidByText := true, laidKinds := [.sentinel], laidTests := true, laidLooks := .later }
def TextNumbersCardSaid : Prop := Claim7.holds Tryd.pinned (.plain (OpenSpec.ofChange textNumbersSpec)) textNumbersCard

/-- THE TIED CARD OF 'transhumancelaw1.TextQuotes'. -/
def textQuotesCard : Claim7 := { stood := { row := textQuotesRow, standIns := [], harness := (true, "e63e36759aa9f26d4964266e550e03bc6fbb3f8041cc7f0d2404d8afe9b9c547"), looks := false }, kinds := [], alts := [], laidByText := true, laidKinds := [.sentinel], laidTests := true, laidLooks := .later }
def TextQuotesCardSaid : Prop := Claim7.holds Tryd.pinned (.plain (OpenSpec.ofChange textQuotesSpec)) textQuotesCard

/-- THE TIED CARD OF 'transhumancelaw1.TextUnquotes'. -/
def textUnquotesCard : Claim7 := { stood := { row := textUnquotesRow, standIns := [], harness := (true, "e63e36759aa9f26d4964266e550e03bc6fbb3f8041cc7f0d2404d8afe9b9c547"), looks := false }, kinds := [], alts := [], laidByText := true, laidKinds := [.sentinel], laidTests := true, laidLooks := .later }
def TextUnquotesCardSaid : Prop := Claim7.holds Tryd.pinned (.plain (OpenSpec.ofChange textUnquotesSpec)) textUnquotesCard

/-- THE TIED CARD OF 'transhumancelaw1.TextSorts'. -/
def textSortsCard : Claim7 := { stood := { row := textSortsRow, standIns := [], harness := (true, "e63e36759aa9f26d4964266e550e03bc6fbb3f8041cc7f0d2404d8afe9b9c547"), looks := false }, kinds := [], alts := [], laidByText := true, laidKinds := [.sentinel], laidTests := true, laidLooks := .later }
def TextSortsCardSaid : Prop := Claim7.holds Tryd.pinned (.plain (OpenSpec.ofChange textSortsSpec)) textSortsCard

/-- THE TIED CARD OF 'transhumancelaw1.TextLines'. -/
def textLinesCard : Claim7 := { stood := { row := textLinesRow, standIns := [], harness := (true, "e63e36759aa9f26d4964266e550e03bc6fbb3f8041cc7f0d2404d8afe9b9c547"), looks := false }, kinds := [], alts := [], laidByText := true, laidKinds := [.sentinel], laidTests := true, laidLooks := .later }
def TextLinesCardSaid : Prop := Claim7.holds Tryd.pinned (.plain (OpenSpec.ofChange textLinesSpec)) textLinesCard

/-- THE TIED CARD OF 'transhumancelaw1.TextTakes'. -/
def textTakesCard : Claim7 := { stood := { row := textTakesRow, standIns := [], harness := (true, "e63e36759aa9f26d4964266e550e03bc6fbb3f8041cc7f0d2404d8afe9b9c547"), looks := false }, kinds := [], alts := [], laidByText := true, laidKinds := [.sentinel], laidTests := true, laidLooks := .later }
def TextTakesCardSaid : Prop := Claim7.holds Tryd.pinned (.plain (OpenSpec.ofChange textTakesSpec)) textTakesCard

/-- THE TIED CARD OF 'transhumancelaw1.TextBytes'. -/
def textBytesCard : Claim7 := { stood := { row := textBytesRow, standIns := [], harness := (true, "e63e36759aa9f26d4964266e550e03bc6fbb3f8041cc7f0d2404d8afe9b9c547"), looks := false }, kinds := [], alts := [], laidByText := true, laidKinds := [.sentinel], laidTests := true, laidLooks := .later }
def TextBytesCardSaid : Prop := Claim7.holds Tryd.pinned (.plain (OpenSpec.ofChange textBytesSpec)) textBytesCard

/-- THE TIED CARD OF 'transhumancelaw1.TextApart'. -/
def textApartCard : Claim7 := { stood := { row := textApartRow, standIns := [], harness := (true, "e63e36759aa9f26d4964266e550e03bc6fbb3f8041cc7f0d2404d8afe9b9c547"), looks := false }, kinds := [], alts := [], laidByText := true, laidKinds := [.sentinel], laidTests := true, laidLooks := .later }
def TextApartCardSaid : Prop := Claim7.holds Tryd.pinned (.plain (OpenSpec.ofChange textApartSpec)) textApartCard

/-- THE SECOND FORM's CARD OF 'transhumancelaw1.TextPlaces'. -/
def textPlacesUptoCard : Claim7 := { stood := { row := textPlacesUptoRow, standIns := [], harness := (true, "e63e36759aa9f26d4964266e550e03bc6fbb3f8041cc7f0d2404d8afe9b9c547"), looks := false }, kinds := [], alts := [], laidByText := true, laidKinds := [.sentinel], laidTests := true, laidLooks := .later }
def TextPlacesUptoCardSaid : Prop := Claim7.holds Tryd.pinned (.plain (OpenSpec.upto textPlacesSpec)) textPlacesUptoCard

/-- THE SECOND FORM's CARD OF 'transhumancelaw1.TextCursors'. -/
def textCursorsUptoCard : Claim7 := { stood := { row := textCursorsUptoRow, standIns := [], harness := (true, "e63e36759aa9f26d4964266e550e03bc6fbb3f8041cc7f0d2404d8afe9b9c547"), looks := false }, kinds := [], alts := [], laidByText := true, laidKinds := [.sentinel], laidTests := true, laidLooks := .later }
def TextCursorsUptoCardSaid : Prop := Claim7.holds Tryd.pinned (.plain (OpenSpec.upto textCursorsSpec)) textCursorsUptoCard

/-- THE SECOND FORM's CARD OF 'transhumancelaw1.TextNumbers'. -/
def textNumbersUptoCard : Claim7 := { stood := { row := textNumbersUptoRow, standIns := [], harness := (true, "e63e36759aa9f26d4964266e550e03bc6fbb3f8041cc7f0d2404d8afe9b9c547"), looks := false }, kinds := [], alts := [], laidByText := true, laidKinds := [.sentinel], laidTests := true, laidLooks := .later }
def TextNumbersUptoCardSaid : Prop := Claim7.holds Tryd.pinned (.plain (OpenSpec.upto textNumbersSpec)) textNumbersUptoCard

/-- THE SECOND FORM's CARD OF 'transhumancelaw1.TextQuotes'. -/
def textQuotesUptoCard : Claim7 := { stood := { row := textQuotesUptoRow, standIns := [], harness := (true, "e63e36759aa9f26d4964266e550e03bc6fbb3f8041cc7f0d2404d8afe9b9c547"), looks := false }, kinds := [], alts := [], laidByText := true, laidKinds := [.sentinel], laidTests := true, laidLooks := .later }
def TextQuotesUptoCardSaid : Prop := Claim7.holds Tryd.pinned (.plain (OpenSpec.upto textQuotesSpec)) textQuotesUptoCard

/-- THE SECOND FORM's CARD OF 'transhumancelaw1.TextUnquotes'. -/
def textUnquotesUptoCard : Claim7 := { stood := { row := textUnquotesUptoRow, standIns := [], harness := (true, "e63e36759aa9f26d4964266e550e03bc6fbb3f8041cc7f0d2404d8afe9b9c547"), looks := false }, kinds := [], alts := [], laidByText := true, laidKinds := [.sentinel], laidTests := true, laidLooks := .later }
def TextUnquotesUptoCardSaid : Prop := Claim7.holds Tryd.pinned (.plain (OpenSpec.upto textUnquotesSpec)) textUnquotesUptoCard

/-- THE SECOND FORM's CARD OF 'transhumancelaw1.TextSorts'. -/
def textSortsUptoCard : Claim7 := { stood := { row := textSortsUptoRow, standIns := [], harness := (true, "e63e36759aa9f26d4964266e550e03bc6fbb3f8041cc7f0d2404d8afe9b9c547"), looks := false }, kinds := [], alts := [], laidByText := true, laidKinds := [.sentinel], laidTests := true, laidLooks := .later }
def TextSortsUptoCardSaid : Prop := Claim7.holds Tryd.pinned (.plain (OpenSpec.upto textSortsSpec)) textSortsUptoCard

/-- THE SECOND FORM's CARD OF 'transhumancelaw1.TextLines'. -/
def textLinesUptoCard : Claim7 := { stood := { row := textLinesUptoRow, standIns := [], harness := (true, "e63e36759aa9f26d4964266e550e03bc6fbb3f8041cc7f0d2404d8afe9b9c547"), looks := false }, kinds := [], alts := [], laidByText := true, laidKinds := [.sentinel], laidTests := true, laidLooks := .later }
def TextLinesUptoCardSaid : Prop := Claim7.holds Tryd.pinned (.plain (OpenSpec.upto textLinesSpec)) textLinesUptoCard

/-- THE SECOND FORM's CARD OF 'transhumancelaw1.TextTakes'. -/
def textTakesUptoCard : Claim7 := { stood := { row := textTakesUptoRow, standIns := [], harness := (true, "e63e36759aa9f26d4964266e550e03bc6fbb3f8041cc7f0d2404d8afe9b9c547"), looks := false }, kinds := [], alts := [], laidByText := true, laidKinds := [.sentinel], laidTests := true, laidLooks := .later }
def TextTakesUptoCardSaid : Prop := Claim7.holds Tryd.pinned (.plain (OpenSpec.upto textTakesSpec)) textTakesUptoCard

/-- THE SECOND FORM's CARD OF 'transhumancelaw1.TextBytes'. -/
def textBytesUptoCard : Claim7 := { stood := { row := textBytesUptoRow, standIns := [], harness := (true, "e63e36759aa9f26d4964266e550e03bc6fbb3f8041cc7f0d2404d8afe9b9c547"), looks := false }, kinds := [], alts := [], laidByText := true, laidKinds := [.sentinel], laidTests := true, laidLooks := .later }
def TextBytesUptoCardSaid : Prop := Claim7.holds Tryd.pinned (.plain (OpenSpec.upto textBytesSpec)) textBytesUptoCard

/-- THE SECOND FORM's CARD OF 'transhumancelaw1.TextApart'. -/
def textApartUptoCard : Claim7 := { stood := { row := textApartUptoRow, standIns := [], harness := (true, "e63e36759aa9f26d4964266e550e03bc6fbb3f8041cc7f0d2404d8afe9b9c547"), looks := false }, kinds := [], alts := [], laidByText := true, laidKinds := [.sentinel], laidTests := true, laidLooks := .later }
def TextApartUptoCardSaid : Prop := Claim7.holds Tryd.pinned (.plain (OpenSpec.upto textApartSpec)) textApartUptoCard
end Rows
end Go.Proofs.YtkejnnnedgmhiaaDoor
