/- What the shared functions of the path statements compute, in plain Lean: the document's words, Right, Major; made paths; known. Conditions: sizes as stated. -/
import Derived.Test.YtelommablohfoaaPaths2
import Derived.Test.YtelommablohfoaaXx6
namespace Go.Proofs.Ytelommablohfoaa.M
set_option linter.unusedVariables false
set_option linter.unusedSimpArgs false
open Go.RowKit Go.Proofs.Ytelommablohfoaa.X Go.Proofs.YtelommablohfoaaW.PrintWords Go.Proofs.YtelommablohfoaaW.PrintLast

/-! ### the document's words -/
theorem take_snoc {l : List UInt8} {f i : Nat} (h : i < l.length) (hf : f ≤ i) : (l.drop f).take (i + 1 - f) = (l.drop f).take (i - f) ++ [l.getD i 0] := by
  have e : i + 1 - f = (i - f) + 1 := by omega
  rw [e, List.take_succ_eq_append_getElem (by rw [List.length_drop]; omega), List.getElem_drop]
  congr 2
  rw [List.getD_eq_getElem?_getD, List.getElem?_eq_getElem h]
  simp only [Option.getD_some]
  congr 1
  omega
theorem words_loop (s : ByteArray) (hs : s.size ≤ 140737488351232) (d : Nat) : ∀ (i f : Nat) (out : List ByteArray), i + d = s.size → f ≤ i → out.length + d ≤ 1000000000000 →
    Ev (fun k => transhumanceref4_words.l0 k s out f i) (out ++ (wgo (((L s).drop f).take (i - f)) ((L s).drop i)).map B) := by
  induction d with
  | zero =>
    intro i f out hi hf ho
    have hw : wrap64 ((i : Int) + 1) = ((i + 1 : Nat) : Int) := by rw [wrap64_id (by omega) (by omega)]; omega
    have e : (L s).drop i = [] := List.drop_of_length_le (by rw [← L_size]; omega)
    have e2 : s.extract f i = B (((L s).drop f).take (i - f)) := L_inj (by rw [L_extract, L_B])
    rw [e]
    refine evShift ?_
    simp only [transhumanceref4_words.l0]
    refine evP (by omega) (evP (by omega) (evShift ?_))
    simp only [transhumanceref4_words.j1, hw, Int.toNat_natCast, e2]
    refine evP trivial (evP (by omega) (evP (by omega) (evP (by omega) (evP (by omega) (evShift ?_)))))
    simp only [transhumanceref4_words.l0]
    exact evN (by omega) (evNow (by simp [wgo]))
  | succ d ih =>
    intro i f out hi hf ho
    have hw : wrap64 ((i : Int) + 1) = ((i + 1 : Nat) : Int) := by rw [wrap64_id (by omega) (by omega)]; omega
    have hl : i < (L s).length := by rw [← L_size]; omega
    have e2 : s.extract f i = B (((L s).drop f).take (i - f)) := L_inj (by rw [L_extract, L_B])
    refine evShift ?_
    simp only [transhumanceref4_words.l0]
    refine evP (by omega) (evN (by omega) (evP (by omega) (evP (by omega) (evShift ?_))))
    simp only [transhumanceref4_words.j1, hw, Int.toNat_natCast, e2]
    rw [getD_drop hl, wgo]
    refine evIf (fun h => ?_) (fun h => ?_)
    · have hc : (L s).getD i 0 = 47 := by
        rw [beq_iff_eq, bt_nat] at h
        exact u8_int.mp h
      rw [if_pos hc]
      refine evP (by omega) (evP (by omega) (evP (by omega) (evP (by omega) ?_)))
      have := ih (i + 1) (i + 1) (out ++ [B (((L s).drop f).take (i - f))]) (by omega) (Nat.le_refl _) (by simp; omega)
      simpa using this
    · have hc : ¬ (L s).getD i 0 = 47 := by
        intro h2
        refine h ?_
        rw [beq_iff_eq, bt_nat, h2]
        rfl
      rw [if_neg hc]
      have := ih (i + 1) f out (by omega) (by omega) (by omega)
      rw [take_snoc hl hf] at this
      exact this
theorem words_ev (s : ByteArray) (hs : s.size ≤ 1000000000) : Ev (fun k => transhumanceref4_words.f k s) ((wgo [] (L s)).map B) := by
  have := words_loop s (by omega) s.size 0 0 [] (by omega) (Nat.le_refl _) (by simp; omega)
  unfold transhumanceref4_words.f
  simpa using this

/-! ### the document's Right -/
def okB (c : UInt8) : Bool := okc c || c == 47
def okE (w : List UInt8) : Bool := !(w == []) && !(w == [46]) && !(w == [46, 46])
theorem right_eq (l : List UInt8) : right l = (l.all okB && ((wgo [] l).all okE && decide (l.length ≤ 40))) := by
  have h := wgo_all l []
  unfold right
  have e : ∀ ws : List (List UInt8), ws.all okW = (ws.all okE && ws.all (fun w => w.all okc)) := by
    intro ws
    induction ws with
    | nil => rfl
    | cons w ws ih =>
      rw [List.all_cons, List.all_cons, List.all_cons, ih]
      unfold okW okE
      cases (w == []) <;> cases (w == [46]) <;> cases (w == [46, 46]) <;> cases (w.all okc) <;> cases (ws.all okE) <;> simp
  rw [e, h, List.all_nil, Bool.true_and]
  show (decide (l.length ≤ 40) && ((wgo [] l).all okE && l.all okB)) = _
  cases decide (l.length ≤ 40) <;> cases (wgo [] l).all okE <;> cases l.all okB <;> rfl
theorem rdOf_map (ws : List (List UInt8)) (i : Nat) (h : i < ws.length) : rdOf ByteArray.empty (ws.map B) (i : Int) = B (ws.getD i []) := by
  rw [rdOf_nat, List.getD_eq_getElem?_getD, List.getElem?_map, List.getD_eq_getElem?_getD, List.getElem?_eq_getElem h]
  rfl
theorem drop_getD {α : Type} {l : List α} {i : Nat} (d : α) (h : i < l.length) : l.drop i = l.getD i d :: l.drop (i + 1) := by
  rw [List.drop_eq_getElem_cons h, List.getD_eq_getElem?_getD, List.getElem?_eq_getElem h]; rfl
theorem ref_right_words (s : ByteArray) (ws : List (List UInt8)) (hw : ws.length ≤ 1000000000000) (d : Nat) : ∀ i : Nat, i + d = ws.length →
    Ev (fun k => transhumanceref4_Right.l1 k s (ws.map B) i) ((ws.drop i).all okE && decide ((L s).length ≤ 40)) := by
  induction d with
  | zero =>
    intro i hi
    rw [List.drop_of_length_le (by omega)]
    refine evShift ?_
    simp only [transhumanceref4_Right.l1, List.length_map]
    refine evN (by omega) (evNow ?_)
    rw [L_size]
    simp
    omega
  | succ d ih =>
    intro i hi
    have hl : i < ws.length := by omega
    have hww : wrap64 ((i : Int) + 1) = ((i + 1 : Nat) : Int) := by rw [wrap64_id (by omega) (by omega)]; omega
    have hj : ∀ x : Bool, x = !(okE (ws.getD i [])) → Ev (fun k => transhumanceref4_Right.j3 k s (ws.map B) i x) ((ws.drop i).all okE && decide ((L s).length ≤ 40)) := by
      intro x hx
      rw [drop_getD [] hl, List.all_cons]
      refine evShift ?_
      simp only [transhumanceref4_Right.j3, hww]
      cases ho : okE (ws.getD i []) with
      | true =>
        rw [ho] at hx; subst hx
        refine evN (by decide) ?_
        simpa using ih (i + 1) (by omega)
      | false =>
        rw [ho] at hx; subst hx
        exact evP (by decide) (Ev.now _)
    refine evShift ?_
    simp only [transhumanceref4_Right.l1, List.length_map, rdOf_map ws i hl, L_toList, L_B]
    refine evP (by omega) (evP (by omega) (evIf (fun h => hj _ ?_) (fun h => evIf (fun h2 => hj _ ?_) (fun h2 => hj _ ?_))))
    · unfold okE; rw [h]; rfl
    · unfold okE; rw [h2]; rfl
    · unfold okE
      rw [show (ws.getD i [] == []) = false by simpa using h, show (ws.getD i [] == [46]) = false by simpa using h2]
      simp
theorem wgo_len (l : List UInt8) : ∀ cur, (wgo cur l).length ≤ l.length + 1 := by
  induction l with
  | nil => intro cur; simp [wgo]
  | cons c t ih =>
    intro cur
    rw [wgo]
    split
    · have := ih []; simp; omega
    · have := ih (cur ++ [c]); simp; omega
theorem okB_int (c : UInt8) : okB c = true ↔ ((97 ≤ (c.toNat : Int) ∧ (c.toNat : Int) ≤ 122) ∨ (48 ≤ (c.toNat : Int) ∧ (c.toNat : Int) ≤ 57) ∨ (c.toNat : Int) = 46 ∨ (c.toNat : Int) = 45 ∨ (c.toNat : Int) = 95 ∨ (c.toNat : Int) = 47) := by
  unfold okB
  have h := okc_int c
  have h2 : (c == 47) = true ↔ (c.toNat : Int) = 47 := by rw [beq_iff_eq]; exact (u8_int (b := 47)).symm
  rw [Bool.or_eq_true, h, h2]
  omega
theorem ref_right_loop (s : ByteArray) (hs : s.size ≤ 1000000000) (d : Nat) : ∀ i : Nat, i + d = s.size →
    Ev (fun k => transhumanceref4_Right.l0 k s i) (((L s).drop i).all okB && ((wgo [] (L s)).all okE && decide ((L s).length ≤ 40))) := by
  induction d with
  | zero =>
    intro i hi
    have e : (L s).drop i = [] := List.drop_of_length_le (by rw [← L_size]; omega)
    rw [e]
    refine evShift ?_
    simp only [transhumanceref4_Right.l0]
    refine evN (by omega) (Ev.bind (words_ev s hs) ?_)
    have hz := wgo_len (L s) []
    rw [← L_size] at hz
    have := ref_right_words s (wgo [] (L s)) (by omega) (wgo [] (L s)).length 0 (by omega)
    simpa using this
  | succ d ih =>
    intro i hi
    have hl : i < (L s).length := by rw [← L_size]; omega
    have hw : wrap64 ((i : Int) + 1) = ((i + 1 : Nat) : Int) := by rw [wrap64_id (by omega) (by omega)]; omega
    have hj : ∀ x : Bool, x = !(okB ((L s).getD i 0)) → Ev (fun k => transhumanceref4_Right.j1 k s i x) (((L s).drop i).all okB && ((wgo [] (L s)).all okE && decide ((L s).length ≤ 40))) := by
      intro x hx
      rw [getD_drop hl, List.all_cons]
      refine evShift ?_
      simp only [transhumanceref4_Right.j1, hw]
      cases ho : okB ((L s).getD i 0) with
      | true =>
        rw [ho] at hx; subst hx
        refine evN (by decide) ?_
        simpa using ih (i + 1) (by omega)
      | false =>
        rw [ho] at hx; subst hx
        exact evP (by decide) (Ev.now _)
    have hb := okB_int ((L s).getD i 0)
    rw [← bt_nat] at hb
    refine evShift ?_
    simp only [transhumanceref4_Right.l0]
    refine evP (by omega) (evP (by omega) ?_)
    generalize bt s i = b at *
    repeat' (refine evIf (fun _ => ?_) (fun _ => ?_))
    all_goals
      refine hj _ ?_
      cases hc : okB ((L s).getD i 0) with
      | true =>
        have h2 := hb.mp hc
        first
          | rfl
          | (rw [show (b != 47) = false from bne_eq_false_iff_eq.mpr (by omega)]; rfl)
          | (exfalso; omega)
      | false =>
        have h2 := mt hb.mpr (by rw [hc]; decide)
        first
          | (exfalso; omega)
          | (rw [show (b != 47) = true from bne_iff_ne.mpr (by omega)]; rfl)
theorem ref_right_ev (s : ByteArray) (hs : s.size ≤ 1000000000) : Ev (fun k => transhumanceref4_Right.f k s) (right (L s)) := by
  have := ref_right_loop s hs s.size 0 (by omega)
  unfold transhumanceref4_Right.f
  rw [right_eq]
  simpa using this

/-! ### the document's Major -/
theorem getD_last {α : Type} (xs : List α) (y d : α) : (xs ++ [y]).getD xs.length d = y := by simp [List.getD]
theorem ref_major_ev (s : ByteArray) (hs : s.size ≤ 1000000000) : Ev (fun k => transhumanceref4_Major.f k s) (B (major (L s)).1, (major (L s)).2) := by
  unfold transhumanceref4_Major.f
  refine Ev.bind (words_ev s hs) ?_
  have hlen := wgo_len (L s) []
  rw [← L_size] at hlen
  have hno : ∀ w : ByteArray, major (L s) = (L s, 0) → Ev (fun k => transhumanceref4_Major.j0 k s w true) (B (major (L s)).1, (major (L s)).2) := by
    intro t ht
    rw [ht]
    refine evShift ?_
    simp only [transhumanceref4_Major.j0]
    exact evP trivial (evNow (by rw [B_L]))
  have hlast : ∀ (ws : List (List UInt8)) (w : List UInt8), wgo [] (L s) = ws ++ [w] → wrap64 ((((wgo [] (L s)).map B).length : Int) - 1) = (ws.length : Int) ∧ rdOf ByteArray.empty ((wgo [] (L s)).map B) (ws.length : Int) = B w ∧ (((wgo [] (L s)).map B).length : Int) = (ws.length : Int) + 1 := by
    intro ws w e
    rw [e] at hlen ⊢
    simp only [List.length_append, List.length_cons, List.length_nil] at hlen
    refine ⟨?_, ?_, ?_⟩
    · rw [wrap64_id] <;> simp <;> omega
    · rw [rdOf_map _ _ (by simp), getD_last]
    · simp
  cases hl : lastSplit (L s) with
  | none =>
    have hn := lastSplit_none hl
    obtain ⟨h1, h2, h3⟩ := hlast [] (L s) (by rw [wgo_noSl hn]; rfl)
    simp only [h1, h2]
    simp only [h3]
    refine evP (by simp) (evP (by simp) (evP (by simp) (hno _ (major_none hn))))
  | some q =>
    obtain ⟨a, w⟩ := q
    obtain ⟨e, hn⟩ := lastSplit_some hl
    have hsz : s.size = a.length + w.length + 1 := by rw [L_size, e]; simp; omega
    have hne : (wgo [] a).length ≠ 0 := by
      intro h
      exact wgo_ne a [] (List.eq_nil_of_length_eq_zero h)
    obtain ⟨h1, h2, h3⟩ := hlast (wgo [] a) w (by rw [e, wgo_append, wgo_noSl hn]; rfl)
    simp only [h1, h2]
    simp only [h3]
    have hM := major_some (a := a) hn
    rw [← e] at hM
    refine evP (by omega) (evP (by omega) (evN (by omega) ?_))
    simp only [L_toList, L_B]
    refine evIf (fun h => hno _ ?_) (fun h => ?_)
    · rw [hM, if_neg (by rw [h]; simp)]
    · have hwl : (B w).size = w.length := by rw [L_size, L_B]
      obtain ⟨c, d, rfl⟩ : ∃ c d, w = c :: d := by
        rcases w with _ | ⟨c, d⟩
        · exact absurd rfl h
        · exact ⟨c, d, rfl⟩
      refine evP (by rw [hwl]; simp) ?_
      have hb := bt_nat (B (c :: d)) 0
      rw [L_B] at hb
      have hb2 : bt (B (c :: d)) 0 = (c.toNat : Int) := hb
      rw [hb2]
      by_cases hc : c = 118
      · subst hc
        have hf : ((((118 : UInt8).toNat : Int)) != 118) = false := by decide
        rw [hf]
        refine evShift ?_
        simp only [transhumanceref4_Major.j0, hwl]
        have e2 : L ((B (118 :: d)).extract 1 (118 :: d).length) = d := by rw [← hwl, L_drop, L_B]; rfl
        refine evN (by decide) (evP (by simp only [List.length_cons]; omega) (Ev.bind (ref_num _) ?_))
        rw [e2]
        simp only [List.drop_one, List.tail_cons, List.head?_cons, true_and] at hM
        simp only [List.length_cons] at hsz hwl
        have hj : ∀ x : Bool, (x = true ↔ ¬ ((num d).2 = true ∧ 2 ≤ (num d).1 ∧ (num d).1 ≤ 999999)) → Ev (fun k => transhumanceref4_Major.j1 k s (B (118 :: d)) (num d).1 x) (B (major (L s)).1, (major (L s)).2) := by
          intro x hx
          rw [hM]
          refine evShift ?_
          have hw1 : wrap64 ((s.size : Int) - ((B (118 :: d)).size : Int)) = (a.length : Int) + 1 := by rw [hwl, wrap64_id (by omega) (by omega)]; omega
          have hw2 : wrap64 ((a.length : Int) + 1 - 1) = (a.length : Int) := by rw [wrap64_id (by omega) (by omega)]; omega
          simp only [transhumanceref4_Major.j1, hw1, hw2]
          refine evIf (fun h => ?_) (fun h => ?_)
          · rw [if_neg (hx.mp h)]
            exact evNow (by rw [B_L])
          · rw [if_pos (Classical.byContradiction (fun h5 => h (hx.mpr h5)))]
            have e3 : s.extract 0 ((a.length : Int) : Int).toNat = B a := L_inj (by rw [L_take, L_B, e, Int.toNat_natCast, List.take_left])
            exact evP (by omega) (evP (by omega) (evNow (by rw [e3])))
        refine evIf (fun h1 => evIf (fun h2 => hj _ ?_) (fun h2 => hj _ ?_)) (fun h1 => hj _ ?_)
        · exact ⟨fun _ h => by omega, fun _ => rfl⟩
        · rw [decide_eq_true_eq]; exact ⟨fun h h3 => by omega, fun h => by
            rcases Int.lt_or_le 999999 (num d).1 with h3 | h3
            · exact h3
            · exact absurd ⟨h1, by omega, h3⟩ h⟩
        · exact ⟨fun _ h => h1 h.1, fun _ => rfl⟩
      · have hf : (((c.toNat : Int)) != 118) = true := bne_iff_ne.mpr (fun h5 => hc ((u8_int (b := 118)).mp h5))
        rw [hf]
        refine hno _ ?_
        rw [hM, if_neg (by rintro ⟨h5, _⟩; simp at h5; exact hc h5)]
end Go.Proofs.Ytelommablohfoaa.M
