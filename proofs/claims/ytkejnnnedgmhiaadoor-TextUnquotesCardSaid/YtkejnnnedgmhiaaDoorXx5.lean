-- Laid by this session's own program (wip/xprint.py). Not trusted: Lean checks it.
import Derived.Test.YtkejnnnedgmhiaaDoorXx0
import Derived.Test.YtkejnnnedgmhiaaDoorXx1
import Derived.Test.YtkejnnnedgmhiaaDoorXx2
import Derived.Test.YtkejnnnedgmhiaaDoorXx3
import Derived.Test.YtkejnnnedgmhiaaDoorXx4
namespace Go.Proofs.YtkejnnnedgmhiaaDoor.X
open Go.RowKit Go.Proofs.YtkejnnnedgmhiaaDoorW.PrintWords Go.Proofs.YtkejnnnedgmhiaaDoorW.PrintLast Go.Proofs.YtkejnnnedgmhiaaDoorW.PrintMore
attribute [local go_sem] max2_int min2_int max_two min_two max_three min_three max_four min_four   -- for this text's walks alone
set_option linter.unusedVariables false
set_option linter.unusedSimpArgs false

attribute [local go_sem high] eqA28
/-! ### transhumancelaw1_known: function 13 -/
def transhumancelaw1_known.f (k : Nat)  : Option (Bool) := (text_New.f (⟨#[97, 98, 32, 49]⟩ : ByteArray)).bind fun bt126 => ((text_front_Peek.f bt126.1 bt126.2).bind fun bt129 => ((text_Cursor_While.f k bt129.2.2.1 bt129.2.2.2 (⟨#[97, 98, 99]⟩ : ByteArray)).bind fun bt133 => ((text_Number.f k (⟨#[49, 50]⟩ : ByteArray)).bind fun bt136 => ((text_Unquote.f k (⟨#[34, 97, 92, 110, 34, 120]⟩ : ByteArray)).bind fun bt138 => ((text_Quote.f k (⟨#[97]⟩ : ByteArray)).bind fun t141 => (if t141.toList = ([34, 97, 34] : List UInt8) then (if bt129.2.1 = true then (if bt129.1 = 97 then (if bt133.1.toList = ([97, 98] : List UInt8) then ((text_front_At.f bt133.2.1 bt133.2.2).bind fun bt142 => (if bt142.1 = 2 then ((text_Cursor_Take.f bt142.2.1 bt142.2.2 (⟨#[32]⟩ : ByteArray)).bind fun bt145 => (if bt145.1 = true then ((text_Cursor_Take.f bt145.2.1 bt145.2.2 (⟨#[50]⟩ : ByteArray)).bind fun bt148 => (if bt148.1 = true then none else ((text_front_Place.f k bt148.2.1 bt148.2.2).bind fun bt151 => (if (bt151.1 == 1 && (bt151.2.1 == 4)) = true then (if bt136.2 = true then (if bt136.1 = 12 then (if bt138.2.2 = true then (if bt138.1.toList = ([97, 10] : List UInt8) then (if bt138.2.1 = 5 then ((text_Plain.f k (⟨#[97, 10]⟩ : ByteArray)).bind fun t155 => (if t155 = true then ((text_Sorted.f (([(⟨#[98]⟩ : ByteArray), (⟨#[97]⟩ : ByteArray), (⟨#[98]⟩ : ByteArray)] : List ByteArray))).bind fun t159 => (some ((t159.length : Int) == 2))) else none)) else none) else none) else none) else none) else none) else none)))) else none)) else none)) else none) else none) else none) else none))))))
theorem transhumancelaw1_known.mono : ∀ k, LeO (transhumancelaw1_known.f k ) (transhumancelaw1_known.f (k + 1) ) := by
  intro  k
  unfold transhumancelaw1_known.f
  repeat' first
      | (with_reducible exact text_Cursor_While.mono _ _ _ _)
      | (with_reducible exact text_Number.mono _ _)
      | (with_reducible exact text_Plain.mono _ _)
      | (with_reducible exact text_Quote.mono _ _)
      | (with_reducible exact text_Unquote.mono _ _)
      | (with_reducible exact text_front_Place.mono _ _ _)
      | (with_reducible exact LeO.refl _)
      | (with_reducible exact LeO.none _)
      | (with_reducible refine LeO.ite ?_ ?_)
      | (with_reducible refine LeO.bind ?_ (fun _ => ?_))
      | exact text_Cursor_While.mono _ _ _ _
      | exact text_Number.mono _ _
      | exact text_Plain.mono _ _
      | exact text_Quote.mono _ _
      | exact text_Unquote.mono _ _
      | exact text_front_Place.mono _ _ _
      | exact LeO.none _
      | refine LeO.ite ?_ ?_
      | refine LeO.bind ?_ (fun _ => ?_)
set_option maxHeartbeats 8000000 in
set_option maxRecDepth 100000 in
theorem transhumancelaw1_known.calls (k : Nat)  (r : Bool) (w : World) (h : transhumancelaw1_known.f k  = some r) :
    Calls Tryd.prog 13 #[] w fun e w' => e = .returned (.bool r) ∧ Below w.heap.size w w' := by
  have hu28 := Tryd.underlying28
  have HB := Aside0.mk (Below.refl w.heap.size w)
  have H : ((text_New.f (⟨#[97, 98, 32, 49]⟩ : ByteArray)).bind fun bt126 => ((text_front_Peek.f bt126.1 bt126.2).bind fun bt129 => ((text_Cursor_While.f k bt129.2.2.1 bt129.2.2.2 (⟨#[97, 98, 99]⟩ : ByteArray)).bind fun bt133 => ((text_Number.f k (⟨#[49, 50]⟩ : ByteArray)).bind fun bt136 => ((text_Unquote.f k (⟨#[34, 97, 92, 110, 34, 120]⟩ : ByteArray)).bind fun bt138 => ((text_Quote.f k (⟨#[97]⟩ : ByteArray)).bind fun t141 => (if t141.toList = ([34, 97, 34] : List UInt8) then (if bt129.2.1 = true then (if bt129.1 = 97 then (if bt133.1.toList = ([97, 98] : List UInt8) then ((text_front_At.f bt133.2.1 bt133.2.2).bind fun bt142 => (if bt142.1 = 2 then ((text_Cursor_Take.f bt142.2.1 bt142.2.2 (⟨#[32]⟩ : ByteArray)).bind fun bt145 => (if bt145.1 = true then ((text_Cursor_Take.f bt145.2.1 bt145.2.2 (⟨#[50]⟩ : ByteArray)).bind fun bt148 => (if bt148.1 = true then none else ((text_front_Place.f k bt148.2.1 bt148.2.2).bind fun bt151 => (if (bt151.1 == 1 && (bt151.2.1 == 4)) = true then (if bt136.2 = true then (if bt136.1 = 12 then (if bt138.2.2 = true then (if bt138.1.toList = ([97, 10] : List UInt8) then (if bt138.2.1 = 5 then ((text_Plain.f k (⟨#[97, 10]⟩ : ByteArray)).bind fun t155 => (if t155 = true then ((text_Sorted.f (([(⟨#[98]⟩ : ByteArray), (⟨#[97]⟩ : ByteArray), (⟨#[98]⟩ : ByteArray)] : List ByteArray))).bind fun t159 => (some ((t159.length : Int) == 2))) else none)) else none) else none) else none) else none) else none) else none)))) else none)) else none)) else none) else none) else none) else none))))))) = some r := h
  clear h
  replace H := Option.bind_eq_some_iff.mp H
  obtain ⟨⟨t126, t127⟩, A10, H⟩ := H
  replace H : ((text_front_Peek.f t126 t127).bind fun bt129 => ((text_Cursor_While.f k bt129.2.2.1 bt129.2.2.2 (⟨#[97, 98, 99]⟩ : ByteArray)).bind fun bt133 => ((text_Number.f k (⟨#[49, 50]⟩ : ByteArray)).bind fun bt136 => ((text_Unquote.f k (⟨#[34, 97, 92, 110, 34, 120]⟩ : ByteArray)).bind fun bt138 => ((text_Quote.f k (⟨#[97]⟩ : ByteArray)).bind fun t141 => (if t141.toList = ([34, 97, 34] : List UInt8) then (if bt129.2.1 = true then (if bt129.1 = 97 then (if bt133.1.toList = ([97, 98] : List UInt8) then ((text_front_At.f bt133.2.1 bt133.2.2).bind fun bt142 => (if bt142.1 = 2 then ((text_Cursor_Take.f bt142.2.1 bt142.2.2 (⟨#[32]⟩ : ByteArray)).bind fun bt145 => (if bt145.1 = true then ((text_Cursor_Take.f bt145.2.1 bt145.2.2 (⟨#[50]⟩ : ByteArray)).bind fun bt148 => (if bt148.1 = true then none else ((text_front_Place.f k bt148.2.1 bt148.2.2).bind fun bt151 => (if (bt151.1 == 1 && (bt151.2.1 == 4)) = true then (if bt136.2 = true then (if bt136.1 = 12 then (if bt138.2.2 = true then (if bt138.1.toList = ([97, 10] : List UInt8) then (if bt138.2.1 = 5 then ((text_Plain.f k (⟨#[97, 10]⟩ : ByteArray)).bind fun t155 => (if t155 = true then ((text_Sorted.f (([(⟨#[98]⟩ : ByteArray), (⟨#[97]⟩ : ByteArray), (⟨#[98]⟩ : ByteArray)] : List ByteArray))).bind fun t159 => (some ((t159.length : Int) == 2))) else none)) else none) else none) else none) else none) else none) else none)))) else none)) else none)) else none) else none) else none) else none)))))) = some r := H
  have A1 := Aside0.mk A10
  clear A10
  replace H := Option.bind_eq_some_iff.mp H
  obtain ⟨⟨t129, t130, t131, t132⟩, A20, H⟩ := H
  replace H : ((text_Cursor_While.f k t131 t132 (⟨#[97, 98, 99]⟩ : ByteArray)).bind fun bt133 => ((text_Number.f k (⟨#[49, 50]⟩ : ByteArray)).bind fun bt136 => ((text_Unquote.f k (⟨#[34, 97, 92, 110, 34, 120]⟩ : ByteArray)).bind fun bt138 => ((text_Quote.f k (⟨#[97]⟩ : ByteArray)).bind fun t141 => (if t141.toList = ([34, 97, 34] : List UInt8) then (if t130 = true then (if t129 = 97 then (if bt133.1.toList = ([97, 98] : List UInt8) then ((text_front_At.f bt133.2.1 bt133.2.2).bind fun bt142 => (if bt142.1 = 2 then ((text_Cursor_Take.f bt142.2.1 bt142.2.2 (⟨#[32]⟩ : ByteArray)).bind fun bt145 => (if bt145.1 = true then ((text_Cursor_Take.f bt145.2.1 bt145.2.2 (⟨#[50]⟩ : ByteArray)).bind fun bt148 => (if bt148.1 = true then none else ((text_front_Place.f k bt148.2.1 bt148.2.2).bind fun bt151 => (if (bt151.1 == 1 && (bt151.2.1 == 4)) = true then (if bt136.2 = true then (if bt136.1 = 12 then (if bt138.2.2 = true then (if bt138.1.toList = ([97, 10] : List UInt8) then (if bt138.2.1 = 5 then ((text_Plain.f k (⟨#[97, 10]⟩ : ByteArray)).bind fun t155 => (if t155 = true then ((text_Sorted.f (([(⟨#[98]⟩ : ByteArray), (⟨#[97]⟩ : ByteArray), (⟨#[98]⟩ : ByteArray)] : List ByteArray))).bind fun t159 => (some ((t159.length : Int) == 2))) else none)) else none) else none) else none) else none) else none) else none)))) else none)) else none)) else none) else none) else none) else none))))) = some r := H
  have A2 := Aside0.mk A20
  clear A20
  replace H := Option.bind_eq_some_iff.mp H
  obtain ⟨⟨t133, t134, t135⟩, A30, H⟩ := H
  replace H : ((text_Number.f k (⟨#[49, 50]⟩ : ByteArray)).bind fun bt136 => ((text_Unquote.f k (⟨#[34, 97, 92, 110, 34, 120]⟩ : ByteArray)).bind fun bt138 => ((text_Quote.f k (⟨#[97]⟩ : ByteArray)).bind fun t141 => (if t141.toList = ([34, 97, 34] : List UInt8) then (if t130 = true then (if t129 = 97 then (if t133.toList = ([97, 98] : List UInt8) then ((text_front_At.f t134 t135).bind fun bt142 => (if bt142.1 = 2 then ((text_Cursor_Take.f bt142.2.1 bt142.2.2 (⟨#[32]⟩ : ByteArray)).bind fun bt145 => (if bt145.1 = true then ((text_Cursor_Take.f bt145.2.1 bt145.2.2 (⟨#[50]⟩ : ByteArray)).bind fun bt148 => (if bt148.1 = true then none else ((text_front_Place.f k bt148.2.1 bt148.2.2).bind fun bt151 => (if (bt151.1 == 1 && (bt151.2.1 == 4)) = true then (if bt136.2 = true then (if bt136.1 = 12 then (if bt138.2.2 = true then (if bt138.1.toList = ([97, 10] : List UInt8) then (if bt138.2.1 = 5 then ((text_Plain.f k (⟨#[97, 10]⟩ : ByteArray)).bind fun t155 => (if t155 = true then ((text_Sorted.f (([(⟨#[98]⟩ : ByteArray), (⟨#[97]⟩ : ByteArray), (⟨#[98]⟩ : ByteArray)] : List ByteArray))).bind fun t159 => (some ((t159.length : Int) == 2))) else none)) else none) else none) else none) else none) else none) else none)))) else none)) else none)) else none) else none) else none) else none)))) = some r := H
  have A3 := Aside0.mk A30
  clear A30
  replace H := Option.bind_eq_some_iff.mp H
  obtain ⟨⟨t136, t137⟩, A40, H⟩ := H
  replace H : ((text_Unquote.f k (⟨#[34, 97, 92, 110, 34, 120]⟩ : ByteArray)).bind fun bt138 => ((text_Quote.f k (⟨#[97]⟩ : ByteArray)).bind fun t141 => (if t141.toList = ([34, 97, 34] : List UInt8) then (if t130 = true then (if t129 = 97 then (if t133.toList = ([97, 98] : List UInt8) then ((text_front_At.f t134 t135).bind fun bt142 => (if bt142.1 = 2 then ((text_Cursor_Take.f bt142.2.1 bt142.2.2 (⟨#[32]⟩ : ByteArray)).bind fun bt145 => (if bt145.1 = true then ((text_Cursor_Take.f bt145.2.1 bt145.2.2 (⟨#[50]⟩ : ByteArray)).bind fun bt148 => (if bt148.1 = true then none else ((text_front_Place.f k bt148.2.1 bt148.2.2).bind fun bt151 => (if (bt151.1 == 1 && (bt151.2.1 == 4)) = true then (if t137 = true then (if t136 = 12 then (if bt138.2.2 = true then (if bt138.1.toList = ([97, 10] : List UInt8) then (if bt138.2.1 = 5 then ((text_Plain.f k (⟨#[97, 10]⟩ : ByteArray)).bind fun t155 => (if t155 = true then ((text_Sorted.f (([(⟨#[98]⟩ : ByteArray), (⟨#[97]⟩ : ByteArray), (⟨#[98]⟩ : ByteArray)] : List ByteArray))).bind fun t159 => (some ((t159.length : Int) == 2))) else none)) else none) else none) else none) else none) else none) else none)))) else none)) else none)) else none) else none) else none) else none))) = some r := H
  have A4 := Aside0.mk A40
  clear A40
  replace H := Option.bind_eq_some_iff.mp H
  obtain ⟨⟨t138, t139, t140⟩, A50, H⟩ := H
  replace H : ((text_Quote.f k (⟨#[97]⟩ : ByteArray)).bind fun t141 => (if t141.toList = ([34, 97, 34] : List UInt8) then (if t130 = true then (if t129 = 97 then (if t133.toList = ([97, 98] : List UInt8) then ((text_front_At.f t134 t135).bind fun bt142 => (if bt142.1 = 2 then ((text_Cursor_Take.f bt142.2.1 bt142.2.2 (⟨#[32]⟩ : ByteArray)).bind fun bt145 => (if bt145.1 = true then ((text_Cursor_Take.f bt145.2.1 bt145.2.2 (⟨#[50]⟩ : ByteArray)).bind fun bt148 => (if bt148.1 = true then none else ((text_front_Place.f k bt148.2.1 bt148.2.2).bind fun bt151 => (if (bt151.1 == 1 && (bt151.2.1 == 4)) = true then (if t137 = true then (if t136 = 12 then (if t140 = true then (if t138.toList = ([97, 10] : List UInt8) then (if t139 = 5 then ((text_Plain.f k (⟨#[97, 10]⟩ : ByteArray)).bind fun t155 => (if t155 = true then ((text_Sorted.f (([(⟨#[98]⟩ : ByteArray), (⟨#[97]⟩ : ByteArray), (⟨#[98]⟩ : ByteArray)] : List ByteArray))).bind fun t159 => (some ((t159.length : Int) == 2))) else none)) else none) else none) else none) else none) else none) else none)))) else none)) else none)) else none) else none) else none) else none)) = some r := H
  have A5 := Aside0.mk A50
  clear A50
  replace H := Option.bind_eq_some_iff.mp H
  obtain ⟨t141, A60, H⟩ := H
  replace H : (if t141.toList = ([34, 97, 34] : List UInt8) then (if t130 = true then (if t129 = 97 then (if t133.toList = ([97, 98] : List UInt8) then ((text_front_At.f t134 t135).bind fun bt142 => (if bt142.1 = 2 then ((text_Cursor_Take.f bt142.2.1 bt142.2.2 (⟨#[32]⟩ : ByteArray)).bind fun bt145 => (if bt145.1 = true then ((text_Cursor_Take.f bt145.2.1 bt145.2.2 (⟨#[50]⟩ : ByteArray)).bind fun bt148 => (if bt148.1 = true then none else ((text_front_Place.f k bt148.2.1 bt148.2.2).bind fun bt151 => (if (bt151.1 == 1 && (bt151.2.1 == 4)) = true then (if t137 = true then (if t136 = 12 then (if t140 = true then (if t138.toList = ([97, 10] : List UInt8) then (if t139 = 5 then ((text_Plain.f k (⟨#[97, 10]⟩ : ByteArray)).bind fun t155 => (if t155 = true then ((text_Sorted.f (([(⟨#[98]⟩ : ByteArray), (⟨#[97]⟩ : ByteArray), (⟨#[98]⟩ : ByteArray)] : List ByteArray))).bind fun t159 => (some ((t159.length : Int) == 2))) else none)) else none) else none) else none) else none) else none) else none)))) else none)) else none)) else none) else none) else none) else none) = some r := H
  have A6 := Aside0.mk A60
  clear A60
  by_cases c7 : t141.toList = ([34, 97, 34] : List UInt8)
  · rw [if_pos c7] at H
    have c7b0 : (t141.toList == ([34, 97, 34] : List UInt8)) = true := beq_iff_eq.mpr c7
    have c7b1 : (t141.toList != ([34, 97, 34] : List UInt8)) = false := bne_eq_false_iff_eq.mpr c7
    clear c7
    by_cases c8 : t130 = true
    · subst c8
      have H1 : (if t129 = 97 then (if t133.toList = ([97, 98] : List UInt8) then ((text_front_At.f t134 t135).bind fun bt142 => (if bt142.1 = 2 then ((text_Cursor_Take.f bt142.2.1 bt142.2.2 (⟨#[32]⟩ : ByteArray)).bind fun bt145 => (if bt145.1 = true then ((text_Cursor_Take.f bt145.2.1 bt145.2.2 (⟨#[50]⟩ : ByteArray)).bind fun bt148 => (if bt148.1 = true then none else ((text_front_Place.f k bt148.2.1 bt148.2.2).bind fun bt151 => (if (bt151.1 == 1 && (bt151.2.1 == 4)) = true then (if t137 = true then (if t136 = 12 then (if t140 = true then (if t138.toList = ([97, 10] : List UInt8) then (if t139 = 5 then ((text_Plain.f k (⟨#[97, 10]⟩ : ByteArray)).bind fun t155 => (if t155 = true then ((text_Sorted.f (([(⟨#[98]⟩ : ByteArray), (⟨#[97]⟩ : ByteArray), (⟨#[98]⟩ : ByteArray)] : List ByteArray))).bind fun t159 => (some ((t159.length : Int) == 2))) else none)) else none) else none) else none) else none) else none) else none)))) else none)) else none)) else none) else none) = some r := by rw [if_pos rfl] at H; exact H
      clear H
      have H := H1
      clear H1
      by_cases c9 : t129 = 97
      · rw [if_pos c9] at H
        have c9b0 : (t129 == 97) = true := beq_iff_eq.mpr c9
        have c9b1 : (t129 != 97) = false := bne_eq_false_iff_eq.mpr c9
        clear c9
        by_cases c10 : t133.toList = ([97, 98] : List UInt8)
        · rw [if_pos c10] at H
          have c10b0 : (t133.toList == ([97, 98] : List UInt8)) = true := beq_iff_eq.mpr c10
          have c10b1 : (t133.toList != ([97, 98] : List UInt8)) = false := bne_eq_false_iff_eq.mpr c10
          clear c10
          replace H := Option.bind_eq_some_iff.mp H
          obtain ⟨⟨t142, t143, t144⟩, A110, H⟩ := H
          replace H : (if t142 = 2 then ((text_Cursor_Take.f t143 t144 (⟨#[32]⟩ : ByteArray)).bind fun bt145 => (if bt145.1 = true then ((text_Cursor_Take.f bt145.2.1 bt145.2.2 (⟨#[50]⟩ : ByteArray)).bind fun bt148 => (if bt148.1 = true then none else ((text_front_Place.f k bt148.2.1 bt148.2.2).bind fun bt151 => (if (bt151.1 == 1 && (bt151.2.1 == 4)) = true then (if t137 = true then (if t136 = 12 then (if t140 = true then (if t138.toList = ([97, 10] : List UInt8) then (if t139 = 5 then ((text_Plain.f k (⟨#[97, 10]⟩ : ByteArray)).bind fun t155 => (if t155 = true then ((text_Sorted.f (([(⟨#[98]⟩ : ByteArray), (⟨#[97]⟩ : ByteArray), (⟨#[98]⟩ : ByteArray)] : List ByteArray))).bind fun t159 => (some ((t159.length : Int) == 2))) else none)) else none) else none) else none) else none) else none) else none)))) else none)) else none) = some r := H
          have A11 := Aside0.mk A110
          clear A110
          by_cases c12 : t142 = 2
          · rw [if_pos c12] at H
            have c12b0 : (t142 == 2) = true := beq_iff_eq.mpr c12
            have c12b1 : (t142 != 2) = false := bne_eq_false_iff_eq.mpr c12
            clear c12
            replace H := Option.bind_eq_some_iff.mp H
            obtain ⟨⟨t145, t146, t147⟩, A130, H⟩ := H
            replace H : (if t145 = true then ((text_Cursor_Take.f t146 t147 (⟨#[50]⟩ : ByteArray)).bind fun bt148 => (if bt148.1 = true then none else ((text_front_Place.f k bt148.2.1 bt148.2.2).bind fun bt151 => (if (bt151.1 == 1 && (bt151.2.1 == 4)) = true then (if t137 = true then (if t136 = 12 then (if t140 = true then (if t138.toList = ([97, 10] : List UInt8) then (if t139 = 5 then ((text_Plain.f k (⟨#[97, 10]⟩ : ByteArray)).bind fun t155 => (if t155 = true then ((text_Sorted.f (([(⟨#[98]⟩ : ByteArray), (⟨#[97]⟩ : ByteArray), (⟨#[98]⟩ : ByteArray)] : List ByteArray))).bind fun t159 => (some ((t159.length : Int) == 2))) else none)) else none) else none) else none) else none) else none) else none)))) else none) = some r := H
            have A13 := Aside0.mk A130
            clear A130
            by_cases c14 : t145 = true
            · subst c14
              have H1 : ((text_Cursor_Take.f t146 t147 (⟨#[50]⟩ : ByteArray)).bind fun bt148 => (if bt148.1 = true then none else ((text_front_Place.f k bt148.2.1 bt148.2.2).bind fun bt151 => (if (bt151.1 == 1 && (bt151.2.1 == 4)) = true then (if t137 = true then (if t136 = 12 then (if t140 = true then (if t138.toList = ([97, 10] : List UInt8) then (if t139 = 5 then ((text_Plain.f k (⟨#[97, 10]⟩ : ByteArray)).bind fun t155 => (if t155 = true then ((text_Sorted.f (([(⟨#[98]⟩ : ByteArray), (⟨#[97]⟩ : ByteArray), (⟨#[98]⟩ : ByteArray)] : List ByteArray))).bind fun t159 => (some ((t159.length : Int) == 2))) else none)) else none) else none) else none) else none) else none) else none)))) = some r := by rw [if_pos rfl] at H; exact H
              clear H
              have H := H1
              clear H1
              replace H := Option.bind_eq_some_iff.mp H
              obtain ⟨⟨t148, t149, t150⟩, A150, H⟩ := H
              replace H : (if t148 = true then none else ((text_front_Place.f k t149 t150).bind fun bt151 => (if (bt151.1 == 1 && (bt151.2.1 == 4)) = true then (if t137 = true then (if t136 = 12 then (if t140 = true then (if t138.toList = ([97, 10] : List UInt8) then (if t139 = 5 then ((text_Plain.f k (⟨#[97, 10]⟩ : ByteArray)).bind fun t155 => (if t155 = true then ((text_Sorted.f (([(⟨#[98]⟩ : ByteArray), (⟨#[97]⟩ : ByteArray), (⟨#[98]⟩ : ByteArray)] : List ByteArray))).bind fun t159 => (some ((t159.length : Int) == 2))) else none)) else none) else none) else none) else none) else none) else none))) = some r := H
              have A15 := Aside0.mk A150
              clear A150
              by_cases c16 : t148 = true
              · subst c16
                have H1 : none = some r := by rw [if_pos rfl] at H; exact H
                clear H
                have H := H1
                clear H1
                cases H
              · replace c16 := Bool.eq_false_iff.mpr c16
                subst c16
                have H1 : ((text_front_Place.f k t149 t150).bind fun bt151 => (if (bt151.1 == 1 && (bt151.2.1 == 4)) = true then (if t137 = true then (if t136 = 12 then (if t140 = true then (if t138.toList = ([97, 10] : List UInt8) then (if t139 = 5 then ((text_Plain.f k (⟨#[97, 10]⟩ : ByteArray)).bind fun t155 => (if t155 = true then ((text_Sorted.f (([(⟨#[98]⟩ : ByteArray), (⟨#[97]⟩ : ByteArray), (⟨#[98]⟩ : ByteArray)] : List ByteArray))).bind fun t159 => (some ((t159.length : Int) == 2))) else none)) else none) else none) else none) else none) else none) else none)) = some r := by rw [if_neg (show ¬ (false = true) by decide)] at H; exact H
                clear H
                have H := H1
                clear H1
                replace H := Option.bind_eq_some_iff.mp H
                obtain ⟨⟨t151, t152, t153, t154⟩, A250, H⟩ := H
                replace H : (if (t151 == 1 && (t152 == 4)) = true then (if t137 = true then (if t136 = 12 then (if t140 = true then (if t138.toList = ([97, 10] : List UInt8) then (if t139 = 5 then ((text_Plain.f k (⟨#[97, 10]⟩ : ByteArray)).bind fun t155 => (if t155 = true then ((text_Sorted.f (([(⟨#[98]⟩ : ByteArray), (⟨#[97]⟩ : ByteArray), (⟨#[98]⟩ : ByteArray)] : List ByteArray))).bind fun t159 => (some ((t159.length : Int) == 2))) else none)) else none) else none) else none) else none) else none) else none) = some r := H
                have A25 := Aside0.mk A250
                clear A250
                by_cases c26 : (t151 == 1 && (t152 == 4)) = true
                · rw [if_pos c26] at H
                  have c26b0 : (t151 == 1 && (t152 == 4)) = true := c26
                  (try (have c26b1 : decide (t151 = 1 && (t152 == 4)) = true := by simpa using c26))
                  (try (have c26b2 : (t151 == 1 && (t152 == 4)) = true := by simpa using c26))
                  clear c26
                  by_cases c27 : t137 = true
                  · subst c27
                    have H1 : (if t136 = 12 then (if t140 = true then (if t138.toList = ([97, 10] : List UInt8) then (if t139 = 5 then ((text_Plain.f k (⟨#[97, 10]⟩ : ByteArray)).bind fun t155 => (if t155 = true then ((text_Sorted.f (([(⟨#[98]⟩ : ByteArray), (⟨#[97]⟩ : ByteArray), (⟨#[98]⟩ : ByteArray)] : List ByteArray))).bind fun t159 => (some ((t159.length : Int) == 2))) else none)) else none) else none) else none) else none) = some r := by rw [if_pos rfl] at H; exact H
                    clear H
                    have H := H1
                    clear H1
                    by_cases c28 : t136 = 12
                    · rw [if_pos c28] at H
                      have c28b0 : (t136 == 12) = true := beq_iff_eq.mpr c28
                      have c28b1 : (t136 != 12) = false := bne_eq_false_iff_eq.mpr c28
                      clear c28
                      by_cases c29 : t140 = true
                      · subst c29
                        have H1 : (if t138.toList = ([97, 10] : List UInt8) then (if t139 = 5 then ((text_Plain.f k (⟨#[97, 10]⟩ : ByteArray)).bind fun t155 => (if t155 = true then ((text_Sorted.f (([(⟨#[98]⟩ : ByteArray), (⟨#[97]⟩ : ByteArray), (⟨#[98]⟩ : ByteArray)] : List ByteArray))).bind fun t159 => (some ((t159.length : Int) == 2))) else none)) else none) else none) = some r := by rw [if_pos rfl] at H; exact H
                        clear H
                        have H := H1
                        clear H1
                        by_cases c30 : t138.toList = ([97, 10] : List UInt8)
                        · rw [if_pos c30] at H
                          have c30b0 : (t138.toList == ([97, 10] : List UInt8)) = true := beq_iff_eq.mpr c30
                          have c30b1 : (t138.toList != ([97, 10] : List UInt8)) = false := bne_eq_false_iff_eq.mpr c30
                          clear c30
                          by_cases c31 : t139 = 5
                          · rw [if_pos c31] at H
                            have c31b0 : (t139 == 5) = true := beq_iff_eq.mpr c31
                            have c31b1 : (t139 != 5) = false := bne_eq_false_iff_eq.mpr c31
                            clear c31
                            replace H := Option.bind_eq_some_iff.mp H
                            obtain ⟨t155, A320, H⟩ := H
                            replace H : (if t155 = true then ((text_Sorted.f (([(⟨#[98]⟩ : ByteArray), (⟨#[97]⟩ : ByteArray), (⟨#[98]⟩ : ByteArray)] : List ByteArray))).bind fun t159 => (some ((t159.length : Int) == 2))) else none) = some r := H
                            have A32 := Aside0.mk A320
                            clear A320
                            by_cases c33 : t155 = true
                            · subst c33
                              have H1 : ((text_Sorted.f (([(⟨#[98]⟩ : ByteArray), (⟨#[97]⟩ : ByteArray), (⟨#[98]⟩ : ByteArray)] : List ByteArray))).bind fun t159 => (some ((t159.length : Int) == 2))) = some r := by rw [if_pos rfl] at H; exact H
                              clear H
                              have H := H1
                              clear H1
                              obtain ⟨y156, hy156⟩ : ∃ y_ : List ByteArray, y_ = (([(⟨#[98]⟩ : ByteArray), (⟨#[97]⟩ : ByteArray), (⟨#[98]⟩ : ByteArray)] : List ByteArray)) := ⟨_, rfl⟩
                              replace H : ((text_Sorted.f y156).bind fun t159 => (some ((t159.length : Int) == 2))) = some r := by first | (rw [hy156]; with_reducible exact H) | (have H2_ := (Option.bind_some _ _).symm.trans H; rw [hy156]; with_reducible exact H2_) | (have H2_ := (Option.bind_some _ _).symm.trans H; with_reducible exact H2_) | with_reducible exact H | (rw [hy156]; exact H) | exact H
                              have Ny156 := Aside0.mk hy156
                              clear hy156
                              replace H := Option.bind_eq_some_iff.mp H
                              obtain ⟨t159, A340, H⟩ := H
                              replace H : (some ((t159.length : Int) == 2)) = some r := H
                              have A34 := Aside0.mk A340
                              clear A340
                              obtain rfl := Option.some.inj H
                              go_enter Tryd.func13, Tryd.ntmps13
                              go_wp2_with (first | ((with_reducible refine gate_callee (f := 18) rfl ?_); refine goesL_ (some 10) rfl rfl Tryd.func18 (by kernel_rfl) rfl #[.string (⟨#[97, 98, 32, 49]⟩ : ByteArray)] rfl (by (try simp only [List.map_toArray, List.map_cons, List.map_nil]); first | done | rfl | (simp only [List.length_drop, List.length_take]; rfl)) ?_; (with_reducible refine (text_New.calls (⟨#[97, 98, 32, 49]⟩ : ByteArray) t126 t127 w _ ?side1 A1.out).mono ?_); (case side1 => repeat (first | (with_reducible first | exact HB.out | apply below_alloc | apply pw_below_drewN | apply below_drew1) | exact HB.out)); rintro e w35 ⟨g128, rfl, hi, hb, hb2⟩; refine ⟨_, rfl, ?_⟩; have n0_ := Aside0.mk (hb); have n1_ := Aside0.mk (hi); clear HB; have HB := n0_; have HI128 := n1_; clear n0_ n1_; (try clear hb); (try clear hb2); (try clear hk); (try clear hi)) | ((with_reducible refine gate_callee (f := 20) rfl ?_); refine goesL_ (some 17) rfl rfl Tryd.func20 (by kernel_rfl) rfl #[.pointer (some ⟨g128, 0, none⟩)] rfl (by (try simp only [List.map_toArray, List.map_cons, List.map_nil]); first | done | rfl | (simp only [List.length_drop, List.length_take]; rfl)) ?_; (with_reducible refine (text_front_Peek.calls g128 t126 t127 t129 true t131 t132 w _ ?side1 ?side2 A2.out).mono ?_); (case side1 => repeat (first | (with_reducible first | exact HI128.out | apply IsS41.alloc | apply IsS41.drewN | apply IsS41.drew | apply IsS41.set_0 | apply IsS41.set_1) | exact HI128.out)); (case side2 => repeat (first | (with_reducible first | exact HB.out | apply below_alloc | apply pw_below_drewN | apply below_drew1 | refine below_set ?_ (IsS41.ge HI128.out)) | exact HB.out)); rintro e w36 ⟨rfl, hi, hb, hk⟩; refine ⟨_, rfl, ?_⟩; have n0_ := Aside0.mk (hb); have n1_ := Aside0.mk (hi); clear HB; clear HI128; have HB := n0_; have HI128 := n1_; clear n0_ n1_; (try clear hb); (try clear hb2); (try clear hk); (try clear hi)) | ((with_reducible refine gate_callee (f := 24) rfl ?_); refine goesL_ (some 21) rfl rfl Tryd.func24 (by kernel_rfl) rfl #[.pointer (some ⟨g128, 0, none⟩), .string (⟨#[97, 98, 99]⟩ : ByteArray)] rfl (by (try simp only [List.map_toArray, List.map_cons, List.map_nil]); first | done | rfl | (simp only [List.length_drop, List.length_take]; rfl)) ?_; (with_reducible refine (text_Cursor_While.calls k g128 t131 t132 (⟨#[97, 98, 99]⟩ : ByteArray) t133 t134 t135 w _ ?side1 ?side2 A3.out).mono ?_); (case side1 => repeat (first | (with_reducible first | exact HI128.out | apply IsS41.alloc | apply IsS41.drewN | apply IsS41.drew | apply IsS41.set_0 | apply IsS41.set_1) | exact HI128.out)); (case side2 => repeat (first | (with_reducible first | exact HB.out | apply below_alloc | apply pw_below_drewN | apply below_drew1 | refine below_set ?_ (IsS41.ge HI128.out)) | exact HB.out)); rintro e w37 ⟨rfl, hi, hb, hk⟩; refine ⟨_, rfl, ?_⟩; have n0_ := Aside0.mk (hb); have n1_ := Aside0.mk (hi); clear HB; clear HI128; have HB := n0_; have HI128 := n1_; clear n0_ n1_; (try clear hb); (try clear hb2); (try clear hk); (try clear hi)) | ((with_reducible refine gate_callee (f := 30) rfl ?_); refine goesL_ (some 23) rfl rfl Tryd.func30 (by kernel_rfl) rfl #[.string (⟨#[49, 50]⟩ : ByteArray)] rfl (by (try simp only [List.map_toArray, List.map_cons, List.map_nil]); first | done | rfl | (simp only [List.length_drop, List.length_take]; rfl)) ?_; (with_reducible refine (text_Number.calls k (⟨#[49, 50]⟩ : ByteArray) t136 true _ A4.out).mono ?_); rintro e w' ⟨rfl, ⟨nd, rfl⟩⟩; refine ⟨_, rfl, ?_⟩) | ((with_reducible refine gate_callee (f := 34) rfl ?_); refine goesL_ (some 27) rfl rfl Tryd.func34 (by kernel_rfl) rfl #[.string (⟨#[34, 97, 92, 110, 34, 120]⟩ : ByteArray)] rfl (by (try simp only [List.map_toArray, List.map_cons, List.map_nil]); first | done | rfl | (simp only [List.length_drop, List.length_take]; rfl)) ?_; (with_reducible refine (text_Unquote.calls k (⟨#[34, 97, 92, 110, 34, 120]⟩ : ByteArray) t138 t139 true _ A5.out).mono ?_); rintro e w38 ⟨rfl, hb⟩; refine ⟨_, rfl, ?_⟩; have n0_ := Aside0.mk (IsS41.below (by repeat (first | (with_reducible first | exact HI128.out | apply IsS41.alloc | apply IsS41.drewN | apply IsS41.drew | apply IsS41.set_0 | apply IsS41.set_1) | exact HI128.out)) hb); have n1_ := Aside0.mk (below_step (by repeat (first | (with_reducible first | exact HB.out | apply below_alloc | apply pw_below_drewN | apply below_drew1 | refine below_set ?_ (IsS41.ge HI128.out)) | exact HB.out)) hb); clear HI128; clear HB; have HI128 := n0_; have HB := n1_; clear n0_ n1_; (try clear hb); (try clear hb2); (try clear hk); (try clear hi)) | (go_at_call 33; (with_reducible refine (text_Quote.calls k (⟨#[97]⟩ : ByteArray) t141 _ A6.out).mono ?_); rintro e w39 ⟨rfl, hb⟩; have n0_ := Aside0.mk (IsS41.below (by repeat (first | (with_reducible first | exact HI128.out | apply IsS41.alloc | apply IsS41.drewN | apply IsS41.drew | apply IsS41.set_0 | apply IsS41.set_1) | exact HI128.out)) hb); have n1_ := Aside0.mk (below_step (by repeat (first | (with_reducible first | exact HB.out | apply below_alloc | apply pw_below_drewN | apply below_drew1 | refine below_set ?_ (IsS41.ge HI128.out)) | exact HB.out)) hb); clear HI128; clear HB; have HI128 := n0_; have HB := n1_; clear n0_ n1_; (try clear hb); (try clear hb2); (try clear hk); (try clear hi)) | (go_at_call 26; (with_reducible refine (text_front_At.calls g128 t134 t135 t142 t143 t144 w _ ?side1 ?side2 A11.out).mono ?_); (case side1 => repeat (first | (with_reducible first | exact HI128.out | apply IsS41.alloc | apply IsS41.drewN | apply IsS41.drew | apply IsS41.set_0 | apply IsS41.set_1) | exact HI128.out)); (case side2 => repeat (first | (with_reducible first | exact HB.out | apply below_alloc | apply pw_below_drewN | apply below_drew1 | refine below_set ?_ (IsS41.ge HI128.out)) | exact HB.out)); rintro e w40 ⟨rfl, hi, hb, hk⟩; have n0_ := Aside0.mk (hb); have n1_ := Aside0.mk (hi); clear HB; clear HI128; have HB := n0_; have HI128 := n1_; clear n0_ n1_; (try clear hb); (try clear hb2); (try clear hk); (try clear hi)) | (go_at_call 22; (with_reducible refine (text_Cursor_Take.calls g128 t143 t144 (⟨#[32]⟩ : ByteArray) true t146 t147 w _ ?side1 ?side2 A13.out).mono ?_); (case side1 => repeat (first | (with_reducible first | exact HI128.out | apply IsS41.alloc | apply IsS41.drewN | apply IsS41.drew | apply IsS41.set_0 | apply IsS41.set_1) | exact HI128.out)); (case side2 => repeat (first | (with_reducible first | exact HB.out | apply below_alloc | apply pw_below_drewN | apply below_drew1 | refine below_set ?_ (IsS41.ge HI128.out)) | exact HB.out)); rintro e w41 ⟨rfl, hi, hb, hk⟩; have n0_ := Aside0.mk (hb); have n1_ := Aside0.mk (hi); clear HB; clear HI128; have HB := n0_; have HI128 := n1_; clear n0_ n1_; (try clear hb); (try clear hb2); (try clear hk); (try clear hi)) | (go_at_call 22; (with_reducible refine (text_Cursor_Take.calls g128 t146 t147 (⟨#[50]⟩ : ByteArray) false t149 t150 w _ ?side1 ?side2 A15.out).mono ?_); (case side1 => repeat (first | (with_reducible first | exact HI128.out | apply IsS41.alloc | apply IsS41.drewN | apply IsS41.drew | apply IsS41.set_0 | apply IsS41.set_1) | exact HI128.out)); (case side2 => repeat (first | (with_reducible first | exact HB.out | apply below_alloc | apply pw_below_drewN | apply below_drew1 | refine below_set ?_ (IsS41.ge HI128.out)) | exact HB.out)); rintro e w42 ⟨rfl, hi, hb, hk⟩; have n0_ := Aside0.mk (hb); have n1_ := Aside0.mk (hi); clear HB; clear HI128; have HB := n0_; have HI128 := n1_; clear n0_ n1_; (try clear hb); (try clear hb2); (try clear hk); (try clear hi)) | (go_at_call 28; (with_reducible refine (text_front_Place.calls k g128 t149 t150 t151 t152 t153 t154 w _ ?side1 ?side2 A25.out).mono ?_); (case side1 => repeat (first | (with_reducible first | exact HI128.out | apply IsS41.alloc | apply IsS41.drewN | apply IsS41.drew | apply IsS41.set_0 | apply IsS41.set_1) | exact HI128.out)); (case side2 => repeat (first | (with_reducible first | exact HB.out | apply below_alloc | apply pw_below_drewN | apply below_drew1 | refine below_set ?_ (IsS41.ge HI128.out)) | exact HB.out)); rintro e w43 ⟨rfl, hi, hb, hk⟩; have n0_ := Aside0.mk (hb); have n1_ := Aside0.mk (hi); clear HB; clear HI128; have HB := n0_; have HI128 := n1_; clear n0_ n1_; (try clear hb); (try clear hb2); (try clear hk); (try clear hi)) | (go_at_call 36; (with_reducible refine (text_Plain.calls k (⟨#[97, 10]⟩ : ByteArray) true _ A32.out).mono ?_); rintro e w' ⟨rfl, ⟨nd, rfl⟩⟩) | ((with_reducible refine gate_dst (N := 90) rfl ?_); (try (refine gate_guard (by rfl) ?_; dsimp only)); refine Kd.R_lit Kd.string _ 9 ?hg (N := 90) ?hd (xs := ([(⟨#[98]⟩ : ByteArray), (⟨#[97]⟩ : ByteArray), (⟨#[98]⟩ : ByteArray)] : List ByteArray)) (inner := [.string (⟨#[98]⟩ : ByteArray), .string (⟨#[97]⟩ : ByteArray), .string (⟨#[98]⟩ : ByteArray)]) (ok := fun _ => True) (okp := fun _ => True) ?hr ?hp (fun _ hk => hk) trivial (Below.refl _ _) (Nat.le_refl _) (by simp) ?_; (case hd => rfl); (case hg => rfl); (case hr => first | (go_simp; done) | (go_simp; rfl)); (case hp => exact (Reps.one (show Kd.M Kd.string _ _ _ (⟨#[98]⟩ : ByteArray) [.string (⟨#[98]⟩ : ByteArray)] from rfl) (Reps.one (show Kd.M Kd.string _ _ _ (⟨#[97]⟩ : ByteArray) [.string (⟨#[97]⟩ : ByteArray)] from rfl) (Reps.one (show Kd.M Kd.string _ _ _ (⟨#[98]⟩ : ByteArray) [.string (⟨#[98]⟩ : ByteArray)] from rfl) (Reps.none _ _))))); intro v157 w44 ho45 hb hg_ hnew_; clear hg_ hnew_; (first | rw [← Ny156.out] at ho45 | (simp only [Int.reduceToNat] at ho45; rw [← Ny156.out] at ho45)); have n0_ := Aside0.mk (Kd.R_lower ho45 (below_size (by repeat (first | (with_reducible first | exact HB.out | apply below_alloc | apply pw_below_drewN | apply below_drew1 | refine below_set ?_ (IsS41.ge HI128.out)) | exact HB.out)))); have n1_ := Aside0.mk (IsS41.below (by repeat (first | (with_reducible first | exact HI128.out | apply IsS41.alloc | apply IsS41.drewN | apply IsS41.drew | apply IsS41.set_0 | apply IsS41.set_1) | exact HI128.out)) hb); have n2_ := Aside0.mk (below_step (by repeat (first | (with_reducible first | exact HB.out | apply below_alloc | apply pw_below_drewN | apply below_drew1 | refine below_set ?_ (IsS41.ge HI128.out)) | exact HB.out)) hb); clear HI128; clear HB; have HO158 := n0_; have HI128 := n1_; have HB := n2_; clear n0_ n1_ n2_; clear hb ho45; obtain ⟨Ao46, co46, eo46⟩ := Kd.R_slice HO158.out; subst eo46) | (go_at_call 39; (with_reducible refine (text_Sorted.calls _ _ y156 t159 _ ?side1 ?side2 A34.out).mono ?_); (case side1 => repeat (first | exact (Kd.R_reads' HO158.out).2.2 | (with_reducible refine Kd.C_alloc ?_ _) | (with_reducible refine Kd.C_drewN ?_ _) | (with_reducible refine Kd.C_drew ?_))); (case side2 => exact (Kd.R_reads' HO158.out).2.1); rintro e w47 ⟨v160, rfl, ho0, hb⟩; have n0_ := Aside0.mk trivial; have n1_ := Aside0.mk ho0; have n2_ := Aside0.mk (IsS41.below (by repeat (first | (with_reducible first | exact HI128.out | apply IsS41.alloc | apply IsS41.drewN | apply IsS41.drew | apply IsS41.set_0 | apply IsS41.set_1) | exact HI128.out)) hb); have n3_ := Aside0.mk (below_step (by repeat (first | (with_reducible first | exact HB.out | apply below_alloc | apply pw_below_drewN | apply below_drew1 | refine below_set ?_ (IsS41.ge HI128.out)) | exact HB.out)) hb); clear HO158; clear HI128; clear HB; have HO158 := n0_; have HO161 := n1_; have HI128 := n2_; have HB := n3_; clear n0_ n1_ n2_ n3_; (try clear hb); (try clear hb2); (try clear hk); (try clear hi); (try clear ho0); obtain ⟨Ao48, co48, eo48⟩ := text_Sorted.Rw.form HO161.out; subst eo48))
                              go_ret
                              exact ⟨by first | rfl | (simp [errW_none, errW_some] <;> rfl) | (simp [*, errW_none, errW_some] <;> rfl), by repeat (first | (with_reducible first | exact HB.out | apply below_alloc | apply pw_below_drewN | apply below_drew1 | refine below_set ?_ (IsS41.ge HI128.out)) | exact HB.out)⟩
                            · replace c33 := Bool.eq_false_iff.mpr c33
                              subst c33
                              have H1 : none = some r := by rw [if_neg (show ¬ (false = true) by decide)] at H; exact H
                              clear H
                              have H := H1
                              clear H1
                              cases H
                          · rw [if_neg c31] at H
                            have c31b0 : (t139 == 5) = false := beq_eq_false_iff_ne.mpr c31
                            have c31b1 : (t139 != 5) = true := bne_iff_ne.mpr c31
                            cases H
                        · rw [if_neg c30] at H
                          have c30b0 : (t138.toList == ([97, 10] : List UInt8)) = false := beq_eq_false_iff_ne.mpr c30
                          have c30b1 : (t138.toList != ([97, 10] : List UInt8)) = true := bne_iff_ne.mpr c30
                          cases H
                      · replace c29 := Bool.eq_false_iff.mpr c29
                        subst c29
                        have H1 : none = some r := by rw [if_neg (show ¬ (false = true) by decide)] at H; exact H
                        clear H
                        have H := H1
                        clear H1
                        cases H
                    · rw [if_neg c28] at H
                      have c28b0 : (t136 == 12) = false := beq_eq_false_iff_ne.mpr c28
                      have c28b1 : (t136 != 12) = true := bne_iff_ne.mpr c28
                      cases H
                  · replace c27 := Bool.eq_false_iff.mpr c27
                    subst c27
                    have H1 : none = some r := by rw [if_neg (show ¬ (false = true) by decide)] at H; exact H
                    clear H
                    have H := H1
                    clear H1
                    cases H
                · rw [if_neg c26] at H
                  have c26b0 : (t151 == 1 && (t152 == 4)) = false := by simpa using c26
                  (try (have c26b1 : decide (t151 = 1 && (t152 == 4)) = false := by simpa using c26))
                  (try (have c26b2 : (t151 == 1 && (t152 == 4)) = false := by simpa using c26))
                  (try (have c26b3 : ¬ (t151 = 1 && (t152 == 4)) := by simpa using c26))
                  clear c26
                  cases H
            · replace c14 := Bool.eq_false_iff.mpr c14
              subst c14
              have H1 : none = some r := by rw [if_neg (show ¬ (false = true) by decide)] at H; exact H
              clear H
              have H := H1
              clear H1
              cases H
          · rw [if_neg c12] at H
            have c12b0 : (t142 == 2) = false := beq_eq_false_iff_ne.mpr c12
            have c12b1 : (t142 != 2) = true := bne_iff_ne.mpr c12
            cases H
        · rw [if_neg c10] at H
          have c10b0 : (t133.toList == ([97, 98] : List UInt8)) = false := beq_eq_false_iff_ne.mpr c10
          have c10b1 : (t133.toList != ([97, 98] : List UInt8)) = true := bne_iff_ne.mpr c10
          cases H
      · rw [if_neg c9] at H
        have c9b0 : (t129 == 97) = false := beq_eq_false_iff_ne.mpr c9
        have c9b1 : (t129 != 97) = true := bne_iff_ne.mpr c9
        cases H
    · replace c8 := Bool.eq_false_iff.mpr c8
      subst c8
      have H1 : none = some r := by rw [if_neg (show ¬ (false = true) by decide)] at H; exact H
      clear H
      have H := H1
      clear H1
      cases H
  · rw [if_neg c7] at H
    have c7b0 : (t141.toList == ([34, 97, 34] : List UInt8)) = false := beq_eq_false_iff_ne.mpr c7
    have c7b1 : (t141.toList != ([34, 97, 34] : List UInt8)) = true := bne_iff_ne.mpr c7
    cases H

end Go.Proofs.YtkejnnnedgmhiaaDoor.X
