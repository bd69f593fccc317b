/- The cursors of the text statements: what the program's and the document's Peek, Take, While, Place compute, in plain Lean. Conditions: sizes as stated. -/
import Derived.Test.YtkejnnnedgmhiaaDoorXx8
import Derived.Test.YtkejnnnedgmhiaaDoorTQuote
namespace Go.Proofs.YtkejnnnedgmhiaaDoor.M
set_option linter.unusedVariables false
set_option linter.unusedSimpArgs false
open Go.RowKit Go.Proofs.YtkejnnnedgmhiaaDoorW.PrintWords Go.Proofs.YtkejnnnedgmhiaaDoor.X
def Tk (s t : ByteArray) (p : Nat) : Bool := decide (t.size ≤ s.size - p) && ((L s).drop p).take t.size == L t
def tkR (s t : ByteArray) (p : Nat) : Bool × ByteArray × Int := (Tk s t p, s, ((if Tk s t p = true then p + t.size else p : Nat) : Int))
theorem take_text (s t : ByteArray) (p : Nat) (hp : p ≤ s.size) (hs : s.size ≤ 1000000) : text_Cursor_Take.f s (p : Int) t = some (tkR s t p) := by
  unfold text_Cursor_Take.f tkR
  have hz : (s.extract p s.size).size = s.size - p := by rw [L_size, L_drop, List.length_drop, ← L_size]
  rw [if_pos (by omega), if_pos (by omega), hasPre, Int.toNat_natCast, L_drop, hz, Option.bind_some]
  change (if Tk s t p = true then _ else _) = _
  by_cases h : Tk s t p = true
  · have hle : t.size ≤ s.size - p := by
      unfold Tk at h
      rw [Bool.and_eq_true, decide_eq_true_iff] at h
      exact h.1
    rw [if_pos h, if_pos h, h, wrap64_id (by omega) (by omega)]
    congr 3
  · rw [if_neg h, if_neg h, show Tk s t p = false by simpa using h]
theorem take_ref (s t : ByteArray) (p : Nat) (hp : p ≤ s.size) (hs : s.size ≤ 1000000) (ht : t.size ≤ 1000000) : transhumanceref1_Cursor_Take.f s (p : Int) t = some (tkR s t p) := by
  unfold transhumanceref1_Cursor_Take.f tkR
  rw [wrap64_id (show -9223372036854775808 ≤ (s.size : Int) - (p : Int) by omega) (by omega), wrap64_id (show -9223372036854775808 ≤ (p : Int) + (t.size : Int) by omega) (by omega)]
  by_cases h1 : (t.size : Int) > (s.size : Int) - (p : Int)
  · have e : Tk s t p = false := by
      unfold Tk
      rw [decide_eq_false (by omega), Bool.false_and]
    rw [if_pos h1, e]
    rfl
  · rw [if_neg h1, if_pos (by omega), if_pos (by omega), if_pos (by omega)]
    have e1 : ((p : Int) + (t.size : Int)).toNat = p + t.size := by omega
    rw [e1, Int.toNat_natCast, L_toList, L_toList, L_extract, show p + t.size - p = t.size by omega]
    by_cases h2 : ((L s).drop p).take t.size = L t
    · have e : Tk s t p = true := by
        unfold Tk
        rw [decide_eq_true (by omega), h2, Bool.true_and]
        exact beq_self_eq_true _
      rw [if_pos h2, e, if_pos rfl]
      congr 3
    · have e : Tk s t p = false := by
        unfold Tk
        rw [show (((L s).drop p).take t.size == L t) = false by simpa using h2, Bool.and_false]
      rw [if_neg h2, e]
      rfl
theorem tk_le (s t : ByteArray) (p : Nat) (hp : p ≤ s.size) : (if Tk s t p = true then p + t.size else p) ≤ s.size := by
  by_cases h : Tk s t p = true
  · have hle : t.size ≤ s.size - p := by
      unfold Tk at h
      rw [Bool.and_eq_true, decide_eq_true_iff] at h
      exact h.1
    rw [if_pos h]; omega
  · rw [if_neg h]; exact hp
theorem peek_both (s : ByteArray) (p : Nat) (hp : p ≤ s.size) : ∃ c b, text_front_Peek.f s (p : Int) = some (c, b, s, (p : Int)) ∧ transhumanceref1_Cursor_Peek.f s (p : Int) = some (c, b, s, (p : Int)) := by
  unfold text_front_Peek.f transhumanceref1_Cursor_Peek.f
  by_cases h : (p : Int) ≥ (s.size : Int)
  · exact ⟨0, false, by rw [if_pos h], by rw [if_pos h]⟩
  · exact ⟨bt s p, true, by rw [if_neg h, if_pos (by omega), if_pos (by omega)], by rw [if_neg h, if_pos (by omega), if_pos (by omega)]⟩
/-- How many bytes ahead are of a set. -/
def spn (set : List UInt8) : List UInt8 → Nat
  | [] => 0
  | c :: t => if set.contains c = true then spn set t + 1 else 0
theorem spn_le (set l : List UInt8) : spn set l ≤ l.length := by
  induction l with
  | nil => exact Nat.le_refl _
  | cons c t ih =>
    unfold spn
    split
    · rw [List.length_cons]; omega
    · omega
theorem idx_contains (l : List UInt8) (c : UInt8) : 0 ≤ Lib.indexByte l c ↔ l.contains c = true := by
  induction l with
  | nil => simp [Lib.indexByte]
  | cons d l ih =>
    have hge := Lib.indexByte_ge l c
    unfold Lib.indexByte
    rw [List.contains_cons]
    by_cases h : d = c
    · subst h; simp
    · have h1 : (d == c) = false := by simpa using h
      have h2 : (c == d) = false := by simpa using fun e => h e.symm
      rw [h1, h2, Bool.false_or, ← ih]
      by_cases h3 : Lib.indexByte l c = -1
      · rw [h3]; simp
      · have h4 : (Lib.indexByte l c == -1) = false := by simpa using h3
        rw [h4]
        simp only [Bool.false_eq_true, if_false]
        omega
def whR (set : List UInt8) (s : ByteArray) (a i : Nat) : ByteArray × ByteArray × Int := (s.extract a (i + spn set ((L s).drop i)), s, ((i + spn set ((L s).drop i) : Nat) : Int))
theorem extract_size_le (s : ByteArray) (a b : Nat) (hs : s.size ≤ 1000000) : (s.extract a b).size ≤ 1000000 := by
  rw [L_size, L_extract, List.length_take, List.length_drop, ← L_size]; omega
theorem while_text_loop (s set : ByteArray) (hs : s.size ≤ 1000000) (a : Nat) (d : Nat) : ∀ i : Nat, i + d = s.size → a ≤ i → Ev (fun k => text_Cursor_While.l0 k set (a : Int) s (i : Int)) (whR (L set) s a i) := by
  have hcl : ∀ i : Nat, strings_Clone.f (s.extract a i) = some (s.extract a i) := by
    intro i
    have := extract_size_le s a i hs
    unfold strings_Clone.f stringslite_Clone.f
    rw [if_pos (by omega)]; rfl
  induction d with
  | zero =>
    intro i hi ha
    have e : (L s).drop i = [] := List.drop_of_length_le (by rw [← L_size]; omega)
    unfold whR
    rw [e, spn, Nat.add_zero]
    refine evShift ?_
    simp only [text_Cursor_While.l0, Int.toNat_natCast]
    exact evN (by omega) (evP (by omega) (evP (by omega) (evBind (hcl i) (Ev.now _))))
  | succ d ih =>
    intro i hi ha
    have hl : i < (L s).length := by rw [← L_size]; omega
    have hw : wrap64 ((i : Int) + 1) = ((i + 1 : Nat) : Int) := by rw [wrap64_id (by omega) (by omega)]; omega
    have hg := getD_drop hl
    have hI := ih (i + 1) (by omega) (by omega)
    unfold whR at hI ⊢
    refine evShift ?_
    simp only [text_Cursor_While.l0, bt_nat, hw, Int.toNat_natCast]
    rw [hg]
    generalize (L s).getD i 0 = c at *
    refine evP (by omega) (evP (by omega) (evBind (idx_ok _ c) (evIf (fun h => ?_) (fun h => ?_))))
    · rw [spn, if_pos ((idx_contains _ _).mp h), show i + (spn (L set) ((L s).drop (i + 1)) + 1) = i + 1 + spn (L set) ((L s).drop (i + 1)) by omega]
      exact evP (by omega) hI
    · rw [spn, if_neg (fun h2 => h ((idx_contains _ _).mpr h2)), Nat.add_zero]
      exact evP (by omega) (evBind (hcl i) (Ev.now _))
theorem while_text (s set : ByteArray) (hs : s.size ≤ 1000000) (p : Nat) (hp : p ≤ s.size) : Ev (fun k => text_Cursor_While.f k s (p : Int) set) (whR (L set) s p p) := by
  unfold text_Cursor_While.f
  exact evP (by omega) (while_text_loop s set hs p (s.size - p) p (by omega) (Nat.le_refl _))
theorem in_loop (set : ByteArray) (hs : set.size ≤ 1000000) (c : UInt8) (d : Nat) : ∀ i : Nat, i + d = set.size → Ev (fun k => transhumanceref1_in.l0 k set (c.toNat : Int) (i : Int)) (((L set).drop i).contains c) := by
  induction d with
  | zero =>
    intro i hi
    have e : (L set).drop i = [] := List.drop_of_length_le (by rw [← L_size]; omega)
    rw [e]
    refine evShift ?_
    simp only [transhumanceref1_in.l0]
    exact evN (by omega) (Ev.now _)
  | succ d ih =>
    intro i hi
    have hl : i < (L set).length := by rw [← L_size]; omega
    have hw : wrap64 ((i : Int) + 1) = ((i + 1 : Nat) : Int) := by rw [wrap64_id (by omega) (by omega)]; omega
    have hI := ih (i + 1) (by omega)
    rw [getD_drop hl, List.contains_cons]
    refine evShift ?_
    simp only [transhumanceref1_in.l0, bt_nat, hw]
    refine evP (by omega) (evP (by omega) (evIf (fun h => ?_) (fun h => ?_)))
    · have e : (L set).getD i 0 = c := u8_int.mp h
      rw [e, beq_self_eq_true, Bool.true_or]
      exact Ev.now _
    · have e : (c == (L set).getD i 0) = false := by
        rw [beq_eq_false_iff_ne]
        exact fun e => h (by rw [e])
      rw [e, Bool.false_or]
      exact hI
theorem in_ev (set : ByteArray) (hs : set.size ≤ 1000000) (c : UInt8) : Ev (fun k => transhumanceref1_in.f k set (c.toNat : Int)) ((L set).contains c) := by
  unfold transhumanceref1_in.f
  exact in_loop set hs c set.size 0 (by omega)
theorem while_ref_loop (s set : ByteArray) (hs : s.size ≤ 1000000) (hset : set.size ≤ 1000000) (a : Nat) (d : Nat) : ∀ i : Nat, i + d = s.size → a ≤ i → Ev (fun k => transhumanceref1_Cursor_While.l0 k set (a : Int) s (i : Int)) (whR (L set) s a i) := by
  induction d with
  | zero =>
    intro i hi ha
    have e : (L s).drop i = [] := List.drop_of_length_le (by rw [← L_size]; omega)
    unfold whR
    rw [e, spn, Nat.add_zero]
    refine evShift ?_
    simp only [transhumanceref1_Cursor_While.l0, Int.toNat_natCast]
    exact evN (by omega) (evP (by omega) (evP (by omega) (evP (by omega) (Ev.now _))))
  | succ d ih =>
    intro i hi ha
    have hl : i < (L s).length := by rw [← L_size]; omega
    have hw : wrap64 ((i : Int) + 1) = ((i + 1 : Nat) : Int) := by rw [wrap64_id (by omega) (by omega)]; omega
    have hg := getD_drop hl
    have hI := ih (i + 1) (by omega) (by omega)
    unfold whR at hI ⊢
    refine evShift ?_
    simp only [transhumanceref1_Cursor_While.l0, bt_nat, hw, Int.toNat_natCast]
    rw [hg]
    generalize (L s).getD i 0 = c at *
    refine evP (by omega) (evP (by omega) (Ev.bind (in_ev set hset c) (evIf (fun h => ?_) (fun h => ?_))))
    · rw [spn, if_pos h, show i + (spn (L set) ((L s).drop (i + 1)) + 1) = i + 1 + spn (L set) ((L s).drop (i + 1)) by omega]
      exact hI
    · rw [spn, if_neg h, Nat.add_zero]
      exact evP (by omega) (evP (by omega) (evP (by omega) (Ev.now _)))
theorem while_ref (s set : ByteArray) (hs : s.size ≤ 1000000) (hset : set.size ≤ 1000000) (p : Nat) (hp : p ≤ s.size) : Ev (fun k => transhumanceref1_Cursor_While.f k s (p : Int) set) (whR (L set) s p p) := by
  unfold transhumanceref1_Cursor_While.f
  exact while_ref_loop s set hs hset p (s.size - p) p (by omega) (Nat.le_refl _)
theorem wh_le (set : List UInt8) (s : ByteArray) (p : Nat) (hp : p ≤ s.size) : p + spn set ((L s).drop p) ≤ s.size := by
  have := spn_le set ((L s).drop p)
  rw [List.length_drop, ← L_size] at this
  omega
end Go.Proofs.YtkejnnnedgmhiaaDoor.M
