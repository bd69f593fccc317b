/-
  NARROWER THAN 'FOR EVERY INPUT', by the rows' own cells (each row's printed sentence says how): TextPlaces: laid · TextCursors: laid · TextNumbers: laid · TextQuotes: laid · TextUnquotes: laid · TextSorts: laid · TextLines: laid · TextTakes: laid · TextBytes: laid · TextApart: laid.
  DERIVED. THE GIVEN ROWS OF THIS SEAT. 10 by the template 'for every input the law returns true; each argument reads behind the call as it read before'; 0 by the template 'total and deterministic' (their statements: YtkejnnnedgmhiaaDoorTotals.lean).
  GIVEN WITH THE SEED: the statements are not yours to turn. If you find one false, say at which input.
  Laid BY PROGRAM, IN A SANDBOX (cutbox-rows.mjs): the forced cells as the released guide's own fill.sh prints them over the translation 8d217e9cb4338e84… (all of the seat's roots in one cut). By AI agents, Wed Nov 11 2026. No macro, syntax, notation, axiom, sorry.
-/
import Derived.Test.YtkejnnnedgmhiaaDoorChecked
import GoSem.Claim
import GoSem.ClaimJoined
import GoSem.ClaimMapViews
import Derived.JoinedTies
import Derived.KernelRfl
namespace Go.Proofs.YtkejnnnedgmhiaaDoor
/- THE CELL 'sum', in the pinned program and in every row, IS THE sha256 OF THE DUMP (.gsa) THAT YtkejnnnedgmhiaaDoorProg.lean LOADS. Nothing in Lean hashes anything: it is a label: what it is worth is what the hold of that sum in a sandbox is worth. -/
noncomputable def Tryd.pinned : Pinned := { name := "ytkejnnnedgmhiaadoor", sum := "8d217e9cb4338e84efd098846ea69e90c9a6641fe4d83fb954a381fea2291855", checked := Tryd.checked }
namespace Rows
def none {H : Type} : Left H := { results := [], args := [] }

/- WHAT THE LISTED PACKAGE-LEVEL VARIABLES READ AS WHEN THE CALL BEGINS. Each datum BY PROGRAM (the guide's laid-datum.mjs) off the statement by which the dump's own 'gosem.cut.vars' lays the variable. In a bare row this is a premise. The card (YtkejnnnedgmhiaaDoorCards.lean) ties it to the program's text. -/
def laid_bytes_ErrTooLarge {H : Type} : DataW H := .iface "*errors.errorString" (.ptr (.agg [.lit (.string [98, 121, 116, 101, 115, 46, 66, 117, 102, 102, 101, 114, 58, 32, 116, 111, 111, 32, 108, 97, 114, 103, 101])]))

/-- 'transhumancelaw1.TextPlaces': WHATEVER THE INPUT: true; the input reads as it did. -/
def textPlacesSpec : ChangeSpec := { name := "textPlaces", fn := fun _ => fun
  | [d1, d2, d3] => { results := [.lit (.bool true)], args := [d1, d2, d3] }
  | _ => none }
def textPlacesRow : OpenClaim := { program := "ytkejnnnedgmhiaadoor", sum := "8d217e9cb4338e84efd098846ea69e90c9a6641fe4d83fb954a381fea2291855", func := "transhumance/transhumancelaw1.TextPlaces", spec := "textPlaces", inPlace := ["internal/bytealg.IndexByteString", "internal/bytealg.CountString", "internal/bytealg.IndexString"], recurses := true, named := ["bytes.ErrTooLarge", "internal/bytealg.MaxLen"], apart := false, laid := [("bytes.ErrTooLarge", laid_bytes_ErrTooLarge)] }
def TextPlacesSaid : Prop := textPlacesRow.holds Tryd.pinned (OpenSpec.ofChange textPlacesSpec)

/-- ITS FALSE NEIGHBOUR: 'it returns false'. Refute it at one input. -/
def textPlacesWrong : ChangeSpec := { name := "textPlaces", fn := fun _ => fun
  | [d1, d2, d3] => { results := [.lit (.bool false)], args := [d1, d2, d3] }
  | _ => none }
def TextPlacesWrongFalsely : Prop := textPlacesRow.holds Tryd.pinned (OpenSpec.ofChange textPlacesWrong)

/-- 'transhumancelaw1.TextCursors': WHATEVER THE INPUT: true; the input reads as it did. -/
def textCursorsSpec : ChangeSpec := { name := "textCursors", fn := fun _ => fun
  | [d1, d2, d3] => { results := [.lit (.bool true)], args := [d1, d2, d3] }
  | _ => none }
def textCursorsRow : OpenClaim := { program := "ytkejnnnedgmhiaadoor", sum := "8d217e9cb4338e84efd098846ea69e90c9a6641fe4d83fb954a381fea2291855", func := "transhumance/transhumancelaw1.TextCursors", spec := "textCursors", inPlace := ["internal/bytealg.IndexByteString", "internal/bytealg.CountString", "internal/bytealg.IndexString"], recurses := true, named := ["bytes.ErrTooLarge", "internal/bytealg.MaxLen"], apart := false, laid := [("bytes.ErrTooLarge", laid_bytes_ErrTooLarge)] }
def TextCursorsSaid : Prop := textCursorsRow.holds Tryd.pinned (OpenSpec.ofChange textCursorsSpec)

/-- ITS FALSE NEIGHBOUR: 'it returns false'. Refute it at one input. -/
def textCursorsWrong : ChangeSpec := { name := "textCursors", fn := fun _ => fun
  | [d1, d2, d3] => { results := [.lit (.bool false)], args := [d1, d2, d3] }
  | _ => none }
def TextCursorsWrongFalsely : Prop := textCursorsRow.holds Tryd.pinned (OpenSpec.ofChange textCursorsWrong)

/-- 'transhumancelaw1.TextNumbers': WHATEVER THE INPUT: true; the input reads as it did. -/
def textNumbersSpec : ChangeSpec := { name := "textNumbers", fn := fun _ => fun
  | [d1, d2] => { results := [.lit (.bool true)], args := [d1, d2] }
  | _ => none }
def textNumbersRow : OpenClaim := { program := "ytkejnnnedgmhiaadoor", sum := "8d217e9cb4338e84efd098846ea69e90c9a6641fe4d83fb954a381fea2291855", func := "transhumance/transhumancelaw1.TextNumbers", spec := "textNumbers", inPlace := ["internal/bytealg.IndexByteString", "internal/bytealg.CountString", "internal/bytealg.IndexString"], recurses := true, named := ["bytes.ErrTooLarge", "internal/bytealg.MaxLen"], apart := false, laid := [("bytes.ErrTooLarge", laid_bytes_ErrTooLarge)] }
def TextNumbersSaid : Prop := textNumbersRow.holds Tryd.pinned (OpenSpec.ofChange textNumbersSpec)

/-- ITS FALSE NEIGHBOUR: 'it returns false'. Refute it at one input. -/
def textNumbersWrong : ChangeSpec := { name := "textNumbers", fn := fun _ => fun
  | [d1, d2] => { results := [.lit (.bool false)], args := [d1, d2] }
  | _ => none }
def TextNumbersWrongFalsely : Prop := textNumbersRow.holds Tryd.pinned (OpenSpec.ofChange textNumbersWrong)

/-- 'transhumancelaw1.TextQuotes': WHATEVER THE INPUT: true; the input reads as it did. -/
def textQuotesSpec : ChangeSpec := { name := "textQuotes", fn := fun _ => fun
  | [d1, d2] => { results := [.lit (.bool true)], args := [d1, d2] }
  | _ => none }
def textQuotesRow : OpenClaim := { program := "ytkejnnnedgmhiaadoor", sum := "8d217e9cb4338e84efd098846ea69e90c9a6641fe4d83fb954a381fea2291855", func := "transhumance/transhumancelaw1.TextQuotes", spec := "textQuotes", inPlace := ["internal/bytealg.IndexByteString", "internal/bytealg.CountString", "internal/bytealg.IndexString"], recurses := true, named := ["bytes.ErrTooLarge", "internal/bytealg.MaxLen"], apart := false, laid := [("bytes.ErrTooLarge", laid_bytes_ErrTooLarge)] }
def TextQuotesSaid : Prop := textQuotesRow.holds Tryd.pinned (OpenSpec.ofChange textQuotesSpec)

/-- ITS FALSE NEIGHBOUR: 'it returns false'. Refute it at one input. -/
def textQuotesWrong : ChangeSpec := { name := "textQuotes", fn := fun _ => fun
  | [d1, d2] => { results := [.lit (.bool false)], args := [d1, d2] }
  | _ => none }
def TextQuotesWrongFalsely : Prop := textQuotesRow.holds Tryd.pinned (OpenSpec.ofChange textQuotesWrong)

/-- 'transhumancelaw1.TextUnquotes': WHATEVER THE INPUT: true; the input reads as it did. -/
def textUnquotesSpec : ChangeSpec := { name := "textUnquotes", fn := fun _ => fun
  | [d1, d2, d3, d4, d5] => { results := [.lit (.bool true)], args := [d1, d2, d3, d4, d5] }
  | _ => none }
def textUnquotesRow : OpenClaim := { program := "ytkejnnnedgmhiaadoor", sum := "8d217e9cb4338e84efd098846ea69e90c9a6641fe4d83fb954a381fea2291855", func := "transhumance/transhumancelaw1.TextUnquotes", spec := "textUnquotes", inPlace := ["internal/bytealg.IndexByteString", "internal/bytealg.CountString", "internal/bytealg.IndexString"], recurses := true, named := ["bytes.ErrTooLarge", "internal/bytealg.MaxLen"], apart := false, laid := [("bytes.ErrTooLarge", laid_bytes_ErrTooLarge)] }
def TextUnquotesSaid : Prop := textUnquotesRow.holds Tryd.pinned (OpenSpec.ofChange textUnquotesSpec)

/-- ITS FALSE NEIGHBOUR: 'it returns false'. Refute it at one input. -/
def textUnquotesWrong : ChangeSpec := { name := "textUnquotes", fn := fun _ => fun
  | [d1, d2, d3, d4, d5] => { results := [.lit (.bool false)], args := [d1, d2, d3, d4, d5] }
  | _ => none }
def TextUnquotesWrongFalsely : Prop := textUnquotesRow.holds Tryd.pinned (OpenSpec.ofChange textUnquotesWrong)

/-- 'transhumancelaw1.TextSorts': WHATEVER THE INPUT: true; the input reads as it did. -/
def textSortsSpec : ChangeSpec := { name := "textSorts", fn := fun _ => fun
  | [d1, d2, d3] => { results := [.lit (.bool true)], args := [d1, d2, d3] }
  | _ => none }
def textSortsRow : OpenClaim := { program := "ytkejnnnedgmhiaadoor", sum := "8d217e9cb4338e84efd098846ea69e90c9a6641fe4d83fb954a381fea2291855", func := "transhumance/transhumancelaw1.TextSorts", spec := "textSorts", inPlace := ["internal/bytealg.IndexByteString", "internal/bytealg.CountString", "internal/bytealg.IndexString"], recurses := true, named := ["bytes.ErrTooLarge", "internal/bytealg.MaxLen"], apart := false, laid := [("bytes.ErrTooLarge", laid_bytes_ErrTooLarge)] }
def TextSortsSaid : Prop := textSortsRow.holds Tryd.pinned (OpenSpec.ofChange textSortsSpec)

/-- ITS FALSE NEIGHBOUR: 'it returns false'. Refute it at one input. -/
def textSortsWrong : ChangeSpec := { name := "textSorts", fn := fun _ => fun
  | [d1, d2, d3] => { results := [.lit (.bool false)], args := [d1, d2, d3] }
  | _ => none }
def TextSortsWrongFalsely : Prop := textSortsRow.holds Tryd.pinned (OpenSpec.ofChange textSortsWrong)

/-- 'transhumancelaw1.TextLines': WHATEVER THE INPUT: true; the input reads as it did. -/
def textLinesSpec : ChangeSpec := { name := "textLines", fn := fun _ => fun
  | [d] => { results := [.lit (.bool true)], args := [d] }
  | _ => none }
def textLinesRow : OpenClaim := { program := "ytkejnnnedgmhiaadoor", sum := "8d217e9cb4338e84efd098846ea69e90c9a6641fe4d83fb954a381fea2291855", func := "transhumance/transhumancelaw1.TextLines", spec := "textLines", inPlace := ["internal/bytealg.IndexByteString", "internal/bytealg.CountString", "internal/bytealg.IndexString"], recurses := true, named := ["bytes.ErrTooLarge", "internal/bytealg.MaxLen"], apart := false, laid := [("bytes.ErrTooLarge", laid_bytes_ErrTooLarge)] }
def TextLinesSaid : Prop := textLinesRow.holds Tryd.pinned (OpenSpec.ofChange textLinesSpec)

/-- ITS FALSE NEIGHBOUR: 'it returns false'. Refute it at one input. -/
def textLinesWrong : ChangeSpec := { name := "textLines", fn := fun _ => fun
  | [d] => { results := [.lit (.bool false)], args := [d] }
  | _ => none }
def TextLinesWrongFalsely : Prop := textLinesRow.holds Tryd.pinned (OpenSpec.ofChange textLinesWrong)

/-- 'transhumancelaw1.TextTakes': WHATEVER THE INPUT: true; the input reads as it did. -/
def textTakesSpec : ChangeSpec := { name := "textTakes", fn := fun _ => fun
  | [d1, d2] => { results := [.lit (.bool true)], args := [d1, d2] }
  | _ => none }
def textTakesRow : OpenClaim := { program := "ytkejnnnedgmhiaadoor", sum := "8d217e9cb4338e84efd098846ea69e90c9a6641fe4d83fb954a381fea2291855", func := "transhumance/transhumancelaw1.TextTakes", spec := "textTakes", inPlace := ["internal/bytealg.IndexByteString", "internal/bytealg.CountString", "internal/bytealg.IndexString"], recurses := true, named := ["bytes.ErrTooLarge", "internal/bytealg.MaxLen"], apart := false, laid := [("bytes.ErrTooLarge", laid_bytes_ErrTooLarge)] }
def TextTakesSaid : Prop := textTakesRow.holds Tryd.pinned (OpenSpec.ofChange textTakesSpec)

/-- ITS FALSE NEIGHBOUR: 'it returns false'. Refute it at one input. -/
def textTakesWrong : ChangeSpec := { name := "textTakes", fn := fun _ => fun
  | [d1, d2] => { results := [.lit (.bool false)], args := [d1, d2] }
  | _ => none }
def TextTakesWrongFalsely : Prop := textTakesRow.holds Tryd.pinned (OpenSpec.ofChange textTakesWrong)

/-- 'transhumancelaw1.TextBytes': WHATEVER THE INPUT: true; the input reads as it did. -/
def textBytesSpec : ChangeSpec := { name := "textBytes", fn := fun _ => fun
  | [d1, d2, d3] => { results := [.lit (.bool true)], args := [d1, d2, d3] }
  | _ => none }
def textBytesRow : OpenClaim := { program := "ytkejnnnedgmhiaadoor", sum := "8d217e9cb4338e84efd098846ea69e90c9a6641fe4d83fb954a381fea2291855", func := "transhumance/transhumancelaw1.TextBytes", spec := "textBytes", inPlace := ["internal/bytealg.IndexByteString", "internal/bytealg.CountString", "internal/bytealg.IndexString"], recurses := true, named := ["bytes.ErrTooLarge", "internal/bytealg.MaxLen"], apart := false, laid := [("bytes.ErrTooLarge", laid_bytes_ErrTooLarge)] }
def TextBytesSaid : Prop := textBytesRow.holds Tryd.pinned (OpenSpec.ofChange textBytesSpec)

/-- ITS FALSE NEIGHBOUR: 'it returns false'. Refute it at one input. -/
def textBytesWrong : ChangeSpec := { name := "textBytes", fn := fun _ => fun
  | [d1, d2, d3] => { results := [.lit (.bool false)], args := [d1, d2, d3] }
  | _ => none }
def TextBytesWrongFalsely : Prop := textBytesRow.holds Tryd.pinned (OpenSpec.ofChange textBytesWrong)

/-- 'transhumancelaw1.TextApart': WHATEVER THE INPUT: true; the input reads as it did. -/
def textApartSpec : ChangeSpec := { name := "textApart", fn := fun _ => fun
  | [d1, d2] => { results := [.lit (.bool true)], args := [d1, d2] }
  | _ => none }
def textApartRow : OpenClaim := { program := "ytkejnnnedgmhiaadoor", sum := "8d217e9cb4338e84efd098846ea69e90c9a6641fe4d83fb954a381fea2291855", func := "transhumance/transhumancelaw1.TextApart", spec := "textApart", inPlace := ["internal/bytealg.IndexByteString", "internal/bytealg.CountString", "internal/bytealg.IndexString"], recurses := true, named := ["bytes.ErrTooLarge", "internal/bytealg.MaxLen"], apart := false, laid := [("bytes.ErrTooLarge", laid_bytes_ErrTooLarge)] }
def TextApartSaid : Prop := textApartRow.holds Tryd.pinned (OpenSpec.ofChange textApartSpec)

/-- ITS FALSE NEIGHBOUR: 'it returns false'. Refute it at one input. -/
def textApartWrong : ChangeSpec := { name := "textApart", fn := fun _ => fun
  | [d1, d2] => { results := [.lit (.bool false)], args := [d1, d2] }
  | _ => none }
def TextApartWrongFalsely : Prop := textApartRow.holds Tryd.pinned (OpenSpec.ofChange textApartWrong)

/- THE SECOND FORM. 'bulk': how many values and letters a reading holds, each counted each time it is reached (what is shared counts as often as it is met; a slice's spare places count too). A statement '..UptoSaid' is the law's where the arguments, and the package variables that the reading takes, are together of bulk at most 1048576: NARROWER than '..Said'. Prove '..Said' where nothing that the law and all that it calls make is longer than what came in: it says more and counts as full. Else prove '..UptoSaid'. A law counts once. -/
mutual
def uptoBulk {H : Type} : DataW H → Nat
  | .lit (.string bytes) => bytes.length + 1
  | .lit _ => 1
  | .nil => 1
  | .ptr d => uptoBulk d + 1
  | .slice elems spare => uptoBulkAll elems + uptoBulkAll spare + 1
  | .agg parts => uptoBulkAll parts + 1
  | .iface _ d => uptoBulk d + 1
  | .map entries => uptoBulkEntries entries + 1
  | .held _ => 1
def uptoBulkAll {H : Type} : List (DataW H) → Nat
  | [] => 0
  | d :: r => uptoBulk d + uptoBulkAll r
def uptoBulkEntries {H : Type} : List (Lit × DataW H) → Nat
  | [] => 0
  | x :: r => uptoBulkEntry x + uptoBulkEntries r
def uptoBulkEntry {H : Type} : Lit × DataW H → Nat
  | (.string bytes, d) => bytes.length + uptoBulk d + 1
  | (_, d) => uptoBulk d + 1
 end
def uptoSmall : (H : Type) → List (DataW H) → Bool := fun _ ds => decide (uptoBulkAll ds ≤ 1048576)
def OpenSpec.upto (s : _root_.Go.ChangeSpec) : _root_.Go.OpenSpec := { _root_.Go.OpenSpec.ofChange s with cond := some uptoSmall }

/-- 'transhumancelaw1.TextPlaces', WHERE WHAT IT READS IS OF BULK AT MOST 1048576: true; the input reads as it did. -/
def textPlacesUptoRow : OpenClaim := { program := "ytkejnnnedgmhiaadoor", sum := "8d217e9cb4338e84efd098846ea69e90c9a6641fe4d83fb954a381fea2291855", func := "transhumance/transhumancelaw1.TextPlaces", spec := "textPlaces", inPlace := ["internal/bytealg.IndexByteString", "internal/bytealg.CountString", "internal/bytealg.IndexString"], recurses := true, named := ["bytes.ErrTooLarge", "internal/bytealg.MaxLen"], apart := false, laid := [("bytes.ErrTooLarge", laid_bytes_ErrTooLarge)], narrowed := true }
def TextPlacesUptoSaid : Prop := textPlacesUptoRow.holds Tryd.pinned (OpenSpec.upto textPlacesSpec)

/-- 'transhumancelaw1.TextCursors', WHERE WHAT IT READS IS OF BULK AT MOST 1048576: true; the input reads as it did. -/
def textCursorsUptoRow : OpenClaim := { program := "ytkejnnnedgmhiaadoor", sum := "8d217e9cb4338e84efd098846ea69e90c9a6641fe4d83fb954a381fea2291855", func := "transhumance/transhumancelaw1.TextCursors", spec := "textCursors", inPlace := ["internal/bytealg.IndexByteString", "internal/bytealg.CountString", "internal/bytealg.IndexString"], recurses := true, named := ["bytes.ErrTooLarge", "internal/bytealg.MaxLen"], apart := false, laid := [("bytes.ErrTooLarge", laid_bytes_ErrTooLarge)], narrowed := true }
def TextCursorsUptoSaid : Prop := textCursorsUptoRow.holds Tryd.pinned (OpenSpec.upto textCursorsSpec)

/-- 'transhumancelaw1.TextNumbers', WHERE WHAT IT READS IS OF BULK AT MOST 1048576: true; the input reads as it did. -/
def textNumbersUptoRow : OpenClaim := { program := "ytkejnnnedgmhiaadoor", sum := "8d217e9cb4338e84efd098846ea69e90c9a6641fe4d83fb954a381fea2291855", func := "transhumance/transhumancelaw1.TextNumbers", spec := "textNumbers", inPlace := ["internal/bytealg.IndexByteString", "internal/bytealg.CountString", "internal/bytealg.IndexString"], recurses := true, named := ["bytes.ErrTooLarge", "internal/bytealg.MaxLen"], apart := false, laid := [("bytes.ErrTooLarge", laid_bytes_ErrTooLarge)], narrowed := true }
def TextNumbersUptoSaid : Prop := textNumbersUptoRow.holds Tryd.pinned (OpenSpec.upto textNumbersSpec)

/-- 'transhumancelaw1.TextQuotes', WHERE WHAT IT READS IS OF BULK AT MOST 1048576: true; the input reads as it did. -/
def textQuotesUptoRow : OpenClaim := { program := "ytkejnnnedgmhiaadoor", sum := "8d217e9cb4338e84efd098846ea69e90c9a6641fe4d83fb954a381fea2291855", func := "transhumance/transhumancelaw1.TextQuotes", spec := "textQuotes", inPlace := ["internal/bytealg.IndexByteString", "internal/bytealg.CountString", "internal/bytealg.IndexString"], recurses := true, named := ["bytes.ErrTooLarge", "internal/bytealg.MaxLen"], apart := false, laid := [("bytes.ErrTooLarge", laid_bytes_ErrTooLarge)], narrowed := true }
def TextQuotesUptoSaid : Prop := textQuotesUptoRow.holds Tryd.pinned (OpenSpec.upto textQuotesSpec)

/-- 'transhumancelaw1.TextUnquotes', WHERE WHAT IT READS IS OF BULK AT MOST 1048576: true; the input reads as it did. -/
def textUnquotesUptoRow : OpenClaim := { program := "ytkejnnnedgmhiaadoor", sum := "8d217e9cb4338e84efd098846ea69e90c9a6641fe4d83fb954a381fea2291855", func := "transhumance/transhumancelaw1.TextUnquotes", spec := "textUnquotes", inPlace := ["internal/bytealg.IndexByteString", "internal/bytealg.CountString", "internal/bytealg.IndexString"], recurses := true, named := ["bytes.ErrTooLarge", "internal/bytealg.MaxLen"], apart := false, laid := [("bytes.ErrTooLarge", laid_bytes_ErrTooLarge)], narrowed := true }
def TextUnquotesUptoSaid : Prop := textUnquotesUptoRow.holds Tryd.pinned (OpenSpec.upto textUnquotesSpec)

/-- 'transhumancelaw1.TextSorts', WHERE WHAT IT READS IS OF BULK AT MOST 1048576: true; the input reads as it did. -/
def textSortsUptoRow : OpenClaim := { program := "ytkejnnnedgmhiaadoor", sum := "8d217e9cb4338e84efd098846ea69e90c9a6641fe4d83fb954a381fea2291855", func := "transhumance/transhumancelaw1.TextSorts", spec := "textSorts", inPlace := ["internal/bytealg.IndexByteString", "internal/bytealg.CountString", "internal/bytealg.IndexString"], recurses := true, named := ["bytes.ErrTooLarge", "internal/bytealg.MaxLen"], apart := false, laid := [("bytes.ErrTooLarge", laid_bytes_ErrTooLarge)], narrowed := true }
def TextSortsUptoSaid : Prop := textSortsUptoRow.holds Tryd.pinned (OpenSpec.upto textSortsSpec)

/-- 'transhumancelaw1.TextLines', WHERE WHAT IT READS IS OF BULK AT MOST 1048576: true; the input reads as it did. -/
def textLinesUptoRow : OpenClaim := { program := "ytkejnnnedgmhiaadoor", sum := "8d217e9cb4338e84efd098846ea69e90c9a6641fe4d83fb954a381fea2291855", func := "transhumance/transhumancelaw1.TextLines", spec := "textLines", inPlace := ["internal/bytealg.IndexByteString", "internal/bytealg.CountString", "internal/bytealg.IndexString"], recurses := true, named := ["bytes.ErrTooLarge", "internal/bytealg.MaxLen"], apart := false, laid := [("bytes.ErrTooLarge", laid_bytes_ErrTooLarge)], narrowed := true }
def TextLinesUptoSaid : Prop := textLinesUptoRow.holds Tryd.pinned (OpenSpec.upto textLinesSpec)

/-- 'transhumancelaw1.TextTakes', WHERE WHAT IT READS IS OF BULK AT MOST 1048576: true; the input reads as it did. -/
def textTakesUptoRow : OpenClaim := { program := "ytkejnnnedgmhiaadoor", sum := "8d217e9cb4338e84efd098846ea69e90c9a6641fe4d83fb954a381fea2291855", func := "transhumance/transhumancelaw1.TextTakes", spec := "textTakes", inPlace := ["internal/bytealg.IndexByteString", "internal/bytealg.CountString", "internal/bytealg.IndexString"], recurses := true, named := ["bytes.ErrTooLarge", "internal/bytealg.MaxLen"], apart := false, laid := [("bytes.ErrTooLarge", laid_bytes_ErrTooLarge)], narrowed := true }
def TextTakesUptoSaid : Prop := textTakesUptoRow.holds Tryd.pinned (OpenSpec.upto textTakesSpec)

/-- 'transhumancelaw1.TextBytes', WHERE WHAT IT READS IS OF BULK AT MOST 1048576: true; the input reads as it did. -/
def textBytesUptoRow : OpenClaim := { program := "ytkejnnnedgmhiaadoor", sum := "8d217e9cb4338e84efd098846ea69e90c9a6641fe4d83fb954a381fea2291855", func := "transhumance/transhumancelaw1.TextBytes", spec := "textBytes", inPlace := ["internal/bytealg.IndexByteString", "internal/bytealg.CountString", "internal/bytealg.IndexString"], recurses := true, named := ["bytes.ErrTooLarge", "internal/bytealg.MaxLen"], apart := false, laid := [("bytes.ErrTooLarge", laid_bytes_ErrTooLarge)], narrowed := true }
def TextBytesUptoSaid : Prop := textBytesUptoRow.holds Tryd.pinned (OpenSpec.upto textBytesSpec)

/-- 'transhumancelaw1.TextApart', WHERE WHAT IT READS IS OF BULK AT MOST 1048576: true; the input reads as it did. -/
def textApartUptoRow : OpenClaim := { program := "ytkejnnnedgmhiaadoor", sum := "8d217e9cb4338e84efd098846ea69e90c9a6641fe4d83fb954a381fea2291855", func := "transhumance/transhumancelaw1.TextApart", spec := "textApart", inPlace := ["internal/bytealg.IndexByteString", "internal/bytealg.CountString", "internal/bytealg.IndexString"], recurses := true, named := ["bytes.ErrTooLarge", "internal/bytealg.MaxLen"], apart := false, laid := [("bytes.ErrTooLarge", laid_bytes_ErrTooLarge)], narrowed := true }
def TextApartUptoSaid : Prop := textApartUptoRow.holds Tryd.pinned (OpenSpec.upto textApartSpec)

end Rows
end Go.Proofs.YtkejnnnedgmhiaaDoor
