/- What the shared functions of the path statements compute, in plain Lean: the last slash, numbers, roots and majors, within. Conditions: sizes as stated. -/
import Derived.Test.YtelommablohfoaaPaths
import Derived.Test.YtelommablohfoaaXx7
import Derived.Test.YtelommablohfoaaXx11
namespace Go.Proofs.Ytelommablohfoaa.M
set_option linter.unusedVariables false
set_option linter.unusedSimpArgs false
open Go.RowKit Go.Proofs.Ytelommablohfoaa.X Go.Proofs.YtelommablohfoaaW.PrintWords Go.Proofs.YtelommablohfoaaW.PrintLast

theorem getD_drop {l : List UInt8} {i : Nat} (h : i < l.length) : l.drop i = l.getD i 0 :: l.drop (i + 1) := by
  rw [List.drop_eq_getElem_cons h, List.getD_eq_getElem?_getD, List.getElem?_eq_getElem h]; rfl

/-! ### the last slash -/
theorem lastIdx_miss (s : ByteArray) (hs : s.size ≤ 4611686018427387904) (n : Nat) : n ≤ s.size → (∀ j, j < n → (L s).getD j 0 ≠ 47) →
    Ev (fun k => bytealg_LastIndexByteString.l0 k s 47 ((n : Int) - 1)) (-1) := by
  induction n with
  | zero =>
    intro _ _
    refine evShift ?_
    simp only [bytealg_LastIndexByteString.l0]
    exact evN (by omega) (Ev.now _)
  | succ n ih =>
    intro hn hj
    refine evShift ?_
    have e : ((n + 1 : Nat) : Int) - 1 = (n : Int) := by omega
    rw [e]
    simp only [bytealg_LastIndexByteString.l0]
    have hb : bt s n ≠ 47 := by
      rw [bt_nat]
      intro h
      exact hj n (by omega) (u8_int.mp h)
    have hw : wrap64 ((n : Int) - 1) = (n : Int) - 1 := wrap64_id (by omega) (by omega)
    refine evP (by omega) (evP (by omega) (evP (by omega) (evN hb ?_)))
    rw [hw]
    exact ih (by omega) (fun j hj2 => hj j (by omega))
theorem lastIdx_hit (s : ByteArray) (hs : s.size ≤ 4611686018427387904) (p : Nat) (hp : (L s).getD p 0 = 47) (d : Nat) : p + d < s.size → (∀ j, p < j → j ≤ p + d → (L s).getD j 0 ≠ 47) →
    Ev (fun k => bytealg_LastIndexByteString.l0 k s 47 ((p + d : Nat) : Int)) (p : Int) := by
  induction d with
  | zero =>
    intro h _
    refine evShift ?_
    simp only [bytealg_LastIndexByteString.l0, Nat.add_zero]
    refine evP (by omega) (evP (by omega) (evP (by omega) (evP ?_ (Ev.now _))))
    rw [bt_nat, hp]; rfl
  | succ d ih =>
    intro h hj
    refine evShift ?_
    simp only [bytealg_LastIndexByteString.l0]
    have hb : bt s ((p + (d + 1) : Nat) : Int) ≠ 47 := by
      rw [bt_nat]
      intro h2
      exact hj _ (by omega) (by omega) (u8_int.mp h2)
    have hw : wrap64 (((p + (d + 1) : Nat) : Int) - 1) = ((p + d : Nat) : Int) := by rw [wrap64_id (by omega) (by omega)]; omega
    refine evP (by omega) (evP (by omega) (evP (by omega) (evN hb ?_)))
    rw [hw]
    exact ih (by omega) (fun j h1 h2 => hj j h1 (by omega))
theorem noSl_getD {l : List UInt8} (h : NoSl l) (j : Nat) : l.getD j 0 ≠ 47 := by
  rw [List.getD_eq_getElem?_getD]
  cases e : l[j]? with
  | none => simp
  | some c => simpa using h c (List.mem_of_getElem? e)
theorem lastIdx_none (s : ByteArray) (hs : s.size ≤ 4611686018427387904) (h : NoSl (L s)) : Ev (fun k => strings_LastIndexByte.f k s 47) (-1) := by
  unfold strings_LastIndexByte.f bytealg_LastIndexByteString.f
  rw [wrap64_id (by omega) (by omega)]
  refine Ev.bind (lastIdx_miss s hs s.size (Nat.le_refl _) (fun j _ => noSl_getD h j)) (Ev.now _)
theorem getD_at {a w : List UInt8} : (a ++ 47 :: w).getD a.length 0 = 47 := by simp [List.getD]
theorem getD_behind {a w : List UInt8} {j : Nat} (h : NoSl w) (hj : a.length < j) : (a ++ 47 :: w).getD j 0 ≠ 47 := by
  have : (a ++ 47 :: w).getD j 0 = w.getD (j - a.length - 1) 0 := by
    obtain ⟨i, rfl⟩ : ∃ i, j = a.length + 1 + i := ⟨j - a.length - 1, by omega⟩
    have e : a ++ 47 :: w = (a ++ [47]) ++ w := by simp
    rw [e]
    simp only [List.getD_eq_getElem?_getD]
    rw [List.getElem?_append_right (by simp)]
    congr 2
    simp
    omega
  rw [this]
  exact noSl_getD h _
theorem lastIdx_some (s : ByteArray) (hs : s.size ≤ 4611686018427387904) (a w : List UInt8) (e : L s = a ++ 47 :: w) (h : NoSl w) : Ev (fun k => strings_LastIndexByte.f k s 47) (a.length : Int) := by
  unfold strings_LastIndexByte.f bytealg_LastIndexByteString.f
  have hl : s.size = a.length + w.length + 1 := by rw [L_size, e]; simp; omega
  have hw : wrap64 ((s.size : Int) - 1) = ((a.length + w.length : Nat) : Int) := by rw [wrap64_id (by omega) (by omega)]; omega
  rw [hw]
  refine Ev.bind (lastIdx_hit s hs a.length (by rw [e]; exact getD_at) w.length (by omega) (fun j h1 h2 => by rw [e]; exact getD_behind h h1)) (Ev.now _)

/-! ### numbers -/
theorem numGo_digit {l : List UInt8} {i : Nat} {n : Int} (h : i < l.length) (h1 : 48 ≤ ((l.getD i 0).toNat : Int)) (h2 : ((l.getD i 0).toNat : Int) ≤ 57) :
    numGo (l.drop i) n = numGo (l.drop (i + 1)) (10 * n + (((l.getD i 0).toNat : Int) - 48)) := by
  rw [getD_drop h, numGo, if_neg (by omega), if_neg (by omega)]
theorem numGo_bad {l : List UInt8} {i : Nat} {n : Int} (h : i < l.length) (h1 : ((l.getD i 0).toNat : Int) < 48 ∨ ((l.getD i 0).toNat : Int) > 57) : numGo (l.drop i) n = (0, false) := by
  rw [getD_drop h, numGo]
  by_cases h2 : ((l.getD i 0).toNat : Int) < 48
  · rw [if_pos h2]
  · rw [if_neg h2, if_pos (by omega)]
theorem pow10 (i : Nat) (h : i ≤ 9) : (10 : Int) ^ i ≤ 1000000000 := by
  rcases i with _ | _ | _ | _ | _ | _ | _ | _ | _ | _ | i <;> first | decide | omega
theorem num_wrap {n c : Int} (h0 : 0 ≤ n) (h1 : n < 1000000000) (h2 : 48 ≤ c) (h3 : c ≤ 57) : wrap64 ((wrap64 (10 * n)) + ((c - 48) % 256)) = 10 * n + (c - 48) := by
  unfold wrap64
  omega
theorem text_num_loop (s : ByteArray) (hs : s.size ≤ 9) (d : Nat) : ∀ (i : Nat) (n : Int), i + d = s.size → 0 ≤ n → n < (10 : Int) ^ i →
    Ev (fun k => text_Number.l0 k s n s.size i) (numGo ((L s).drop i) n) := by
  induction d with
  | zero =>
    intro i n hi h0 hn
    have e : (L s).drop i = [] := List.drop_of_length_le (by rw [← L_size]; omega)
    rw [e]
    refine evShift ?_
    simp only [text_Number.l0]
    exact evN (by omega) (evNow (by rw [numGo]))
  | succ d ih =>
    intro i n hi h0 hn
    have hl : i < (L s).length := by rw [← L_size]; omega
    have hp := pow10 i (by omega)
    have hw : wrap64 ((i : Int) + 1) = ((i + 1 : Nat) : Int) := by rw [wrap64_id (by omega) (by omega)]; omega
    have hj : ∀ x : Bool, (x = true ↔ (bt s i < 48 ∨ bt s i > 57)) → Ev (fun k => text_Number.j2 k s n i s.size i x) (numGo ((L s).drop i) n) := by
      intro x hx
      refine evShift ?_
      simp only [text_Number.j2]
      refine evIf (fun h => ?_) (fun h => ?_)
      · exact evNow (numGo_bad hl (by have := hx.mp h; rwa [bt_nat] at this)).symm
      · have h2 : ¬ (bt s i < 48 ∨ bt s i > 57) := fun h3 => h (hx.mpr h3)
        refine evP (by omega) (evP (by omega) ?_)
        rw [num_wrap h0 (by omega) (by omega) (by omega), hw, numGo_digit hl (by rw [← bt_nat]; omega) (by rw [← bt_nat]; omega), ← bt_nat]
        exact ih (i + 1) _ (by omega) (by omega) (by rw [Int.pow_succ]; omega)
    refine evShift ?_
    simp only [text_Number.l0]
    refine evP (by omega) (evP (by omega) (evP (by omega) (evIf (fun h => hj _ ?_) (fun h => hj _ ?_))))
    · simp; omega
    · simp; omega
theorem ref_num_loop (s : ByteArray) (hs : s.size ≤ 9) (d : Nat) : ∀ (i : Nat) (n : Int), i + d = s.size → 0 ≤ n → n < (10 : Int) ^ i →
    Ev (fun k => transhumanceref1_Number.l0 k s n i) (numGo ((L s).drop i) n) := by
  induction d with
  | zero =>
    intro i n hi h0 hn
    have e : (L s).drop i = [] := List.drop_of_length_le (by rw [← L_size]; omega)
    rw [e]
    refine evShift ?_
    simp only [transhumanceref1_Number.l0]
    exact evN (by omega) (evNow (by rw [numGo]))
  | succ d ih =>
    intro i n hi h0 hn
    have hl : i < (L s).length := by rw [← L_size]; omega
    have hp := pow10 i (by omega)
    have hw : wrap64 ((i : Int) + 1) = ((i + 1 : Nat) : Int) := by rw [wrap64_id (by omega) (by omega)]; omega
    have hj : ∀ x : Bool, (x = true ↔ (bt s i < 48 ∨ bt s i > 57)) → Ev (fun k => transhumanceref1_Number.j2 k s n i x) (numGo ((L s).drop i) n) := by
      intro x hx
      refine evShift ?_
      simp only [transhumanceref1_Number.j2]
      refine evIf (fun h => ?_) (fun h => ?_)
      · exact evNow (numGo_bad hl (by have := hx.mp h; rwa [bt_nat] at this)).symm
      · have h2 : ¬ (bt s i < 48 ∨ bt s i > 57) := fun h3 => h (hx.mpr h3)
        refine evP (by omega) (evP (by omega) ?_)
        rw [num_wrap h0 (by omega) (by omega) (by omega), hw, numGo_digit hl (by rw [← bt_nat]; omega) (by rw [← bt_nat]; omega), ← bt_nat]
        exact ih (i + 1) _ (by omega) (by omega) (by rw [Int.pow_succ]; omega)
    refine evShift ?_
    simp only [transhumanceref1_Number.l0]
    refine evP (by omega) (evP (by omega) (evIf (fun h => hj _ ?_) (fun h => hj _ ?_)))
    · simp; omega
    · simp; omega
theorem num_of {l : List UInt8} (h1 : ¬ l.length < 1) (h2 : ¬ l.length > 9) (h3 : ¬ (l.length > 1 ∧ l.getD 0 0 = 48)) : num l = numGo l 0 := by
  unfold num
  rw [if_neg (by rintro (h | h | h) <;> contradiction)]
theorem bt0_48 (s : ByteArray) : (bt s 0 == 48) = true ↔ (L s).getD 0 0 = 48 := by
  have h := bt_nat s 0
  simp only [Int.ofNat_zero, Int.natCast_zero] at h
  rw [beq_iff_eq, show bt s 0 = ((L s).getD 0 0).toNat from h]
  exact u8_int (b := 48)
theorem text_num (s : ByteArray) : Ev (fun k => text_Number.f k s) (num (L s)) := by
  have hz := L_size s
  have hj : ∀ x : Bool, (x = true ↔ ((L s).length < 1 ∨ (L s).length > 9 ∨ ((L s).length > 1 ∧ (L s).getD 0 0 = 48))) → Ev (fun k => text_Number.j0 k s x) (num (L s)) := by
    intro x hx
    refine evShift ?_
    simp only [text_Number.j0]
    refine evIf (fun h => ?_) (fun h => ?_)
    · refine evNow ?_
      unfold num
      rw [if_pos (hx.mp h)]
    · have h2 := mt hx.mpr h
      unfold num
      rw [if_neg h2]
      have := text_num_loop s (by omega) s.size 0 0 (by omega) (by omega) (by decide)
      simpa using this
  unfold text_Number.f
  refine evIf (fun h => hj _ ?_) (fun h => evIf (fun h2 => hj _ ?_) (fun h2 => evIf (fun h3 => evP (by omega) (hj _ ?_)) (fun h3 => hj _ ?_)))
  · exact ⟨fun _ => .inl (by omega), fun _ => rfl⟩
  · exact ⟨fun _ => .inr (.inl (by omega)), fun _ => rfl⟩
  · rw [bt0_48]
    exact ⟨fun h4 => .inr (.inr ⟨by omega, h4⟩), fun h4 => by
      rcases h4 with h4 | h4 | h4
      · omega
      · omega
      · exact h4.2⟩
  · exact ⟨fun h4 => absurd h4 (by decide), fun h4 => by
      rcases h4 with h4 | h4 | h4
      · omega
      · omega
      · omega⟩
theorem ref_num (s : ByteArray) : Ev (fun k => transhumanceref1_Number.f k s) (num (L s)) := by
  have hz := L_size s
  have hj : ∀ x : Bool, (x = true ↔ ((L s).length < 1 ∨ (L s).length > 9 ∨ ((L s).length > 1 ∧ (L s).getD 0 0 = 48))) → Ev (fun k => transhumanceref1_Number.j0 k s x) (num (L s)) := by
    intro x hx
    refine evShift ?_
    simp only [transhumanceref1_Number.j0]
    refine evIf (fun h => ?_) (fun h => ?_)
    · refine evNow ?_
      unfold num
      rw [if_pos (hx.mp h)]
    · have h2 := mt hx.mpr h
      unfold num
      rw [if_neg h2]
      have := ref_num_loop s (by omega) s.size 0 0 (by omega) (by omega) (by decide)
      simpa using this
  unfold transhumanceref1_Number.f
  refine evIf (fun h => hj _ ?_) (fun h => evIf (fun h2 => hj _ ?_) (fun h2 => evIf (fun h3 => evP (by omega) (hj _ ?_)) (fun h3 => hj _ ?_)))
  · exact ⟨fun _ => .inl (by omega), fun _ => rfl⟩
  · exact ⟨fun _ => .inr (.inl (by omega)), fun _ => rfl⟩
  · rw [bt0_48]
    exact ⟨fun h4 => .inr (.inr ⟨by omega, h4⟩), fun h4 => by
      rcases h4 with h4 | h4 | h4
      · omega
      · omega
      · exact h4.2⟩
  · exact ⟨fun h4 => absurd h4 (by decide), fun h4 => by
      rcases h4 with h4 | h4 | h4
      · omega
      · omega
      · omega⟩

/-! ### part, Major -/
theorem clone_ok (s : ByteArray) (hs : s.size ≤ 281474976710656) : strings_Clone.f s = some s := by
  unfold strings_Clone.f stringslite_Clone.f
  rw [if_pos hs]
  rfl
theorem hasPrefix_ok (s t : ByteArray) : strings_HasPrefix.f s t = some (decide (t.size ≤ s.size) && (L s).take t.size == L t) := by
  unfold strings_HasPrefix.f stringslite_HasPrefix.f
  by_cases h : t.size ≤ s.size
  · rw [if_pos (by omega), if_pos (by omega), if_pos (by omega)]
    simp only [Option.bind_some, L_toList, L_take, h, decide_true, Bool.true_and, Int.toNat_natCast]
  · rw [if_neg (by omega)]
    simp [h]
theorem slash_v (s : ByteArray) (a w : List UInt8) (e : L s = a ++ 47 :: w) :
    strings_HasPrefix.f (s.extract ((a.length : Int) : Int).toNat s.size) (⟨#[47, 118]⟩ : ByteArray) = some (w.head? == some 118) := by
  rw [hasPrefix_ok]
  have e2 : L (s.extract ((a.length : Int) : Int).toNat s.size) = 47 :: w := by rw [L_drop, e, Int.toNat_natCast, List.drop_left]
  have e3 : (s.extract ((a.length : Int) : Int).toNat s.size).size = w.length + 1 := by rw [L_size, e2]; rfl
  have e4 : (⟨#[47, 118]⟩ : ByteArray).size = 2 := rfl
  have e5 : L (⟨#[47, 118]⟩ : ByteArray) = [47, 118] := rfl
  rw [e2, e3, e4, e5]
  cases w with
  | nil => simp
  | cons c d =>
    simp
theorem major_none {l : List UInt8} (h : NoSl l) : major l = (l, 0) := by
  unfold major
  rw [lastSplit_noSl h]
theorem major_some {a w : List UInt8} (h : NoSl w) : major (a ++ 47 :: w) = if w.head? = some 118 ∧ (num (w.drop 1)).2 = true ∧ 2 ≤ (num (w.drop 1)).1 ∧ (num (w.drop 1)).1 ≤ 999999 then (a, (num (w.drop 1)).1) else (a ++ 47 :: w, 0) := by
  unfold major
  rw [lastSplit_of h]
  cases w with
  | nil => simp
  | cons c d =>
    simp only [List.head?_cons, Option.some.injEq, List.drop_one, List.tail_cons]
    by_cases h1 : c = 118
    · simp only [h1, if_true, true_and]
    · simp only [h1, if_false, false_and]
theorem part_ev (s : ByteArray) (hs : s.size ≤ 140737488351232) (hh : (L s).head? ≠ some 47) : Ev (fun k => path_part.f k s) (s, B (major (L s)).1, (major (L s)).2) := by
  have hno : ∀ (t : Int) , major (L s) = (L s, 0) → Ev (fun k => path_part.j0 k s t false) (s, B (major (L s)).1, (major (L s)).2) := by
    intro t ht
    rw [ht]
    refine evShift ?_
    simp only [path_part.j0]
    exact evN (by decide) (evNow (by rw [B_L]))
  unfold path_part.f
  cases hl : lastSplit (L s) with
  | none =>
    have hn := lastSplit_none hl
    refine Ev.bind (lastIdx_none s (by omega) hn) ?_
    exact evN (by decide) (hno _ (major_none hn))
  | some q =>
    obtain ⟨a, w⟩ := q
    obtain ⟨e, hn⟩ := lastSplit_some hl
    have hsz : s.size = a.length + w.length + 1 := by rw [L_size, e]; simp; omega
    have ha : 1 ≤ a.length := by
      rcases a with _ | ⟨c, a⟩
      · rw [e] at hh; simp at hh
      · simp
    refine Ev.bind (lastIdx_some s (by omega) a w e hn) ?_
    refine evP (by omega) (evP (by omega) (evP (by omega) (evBind (slash_v s a w e) ?_)))
    have hM := major_some (a := a) hn
    rw [← e] at hM
    cases hv : (w.head? == some 118) with
    | false =>
      refine hno _ ?_
      rw [hM, if_neg (by intro h; rw [h.1] at hv; simp at hv)]
    | true =>
      have hv2 : w.head? = some 118 := by simpa using hv
      obtain ⟨d, rfl⟩ : ∃ d, w = 118 :: d := by
        rcases w with _ | ⟨c, d⟩
        · simp at hv2
        · simp at hv2; exact ⟨d, by rw [hv2]⟩
      simp only [List.length_cons] at hsz
      have hw : wrap64 ((a.length : Int) + 2) = ((a.length + 2 : Nat) : Int) := by rw [wrap64_id (by omega) (by omega)]; omega
      have e2 : L (s.extract (((a.length + 2 : Nat) : Int) : Int).toNat s.size) = d := by
        rw [L_drop, e, Int.toNat_natCast]
        have : a ++ 47 :: 118 :: d = (a ++ [47, 118]) ++ d := by simp
        rw [this, List.drop_left' (by simp)]
      refine evShift ?_
      simp only [path_part.j0, hw]
      refine evP trivial (evP (by omega) (evP (by omega) (Ev.bind (text_num _) ?_)))
      rw [e2]
      have e3 : s.extract 0 ((a.length : Int) : Int).toNat = B a := L_inj (by rw [L_take, L_B, e, Int.toNat_natCast, List.take_left])
      simp only [List.drop_one, List.tail_cons, List.head?_cons, true_and] at hM
      have hj : ∀ x : Bool, (x = true ↔ ((num d).2 = true ∧ 2 ≤ (num d).1 ∧ (num d).1 ≤ 999999)) → Ev (fun k => path_part.j1 k s a.length (num d).1 x) (s, B (major (L s)).1, (major (L s)).2) := by
        intro x hx
        rw [hM]
        refine evShift ?_
        simp only [path_part.j1]
        refine evIf (fun h => ?_) (fun h => ?_)
        · rw [if_pos (hx.mp h)]
          exact evP (by omega) (evP (by omega) (evNow (by rw [e3])))
        · rw [if_neg (mt hx.mpr h)]
          exact evNow (by rw [B_L])
      refine evIf (fun h1 => evIf (fun h2 => hj _ ?_) (fun h2 => hj _ ?_)) (fun h1 => hj _ ?_)
      · rw [decide_eq_true_eq]; exact ⟨fun h => ⟨h1, h2, h⟩, fun h => h.2.2⟩
      · exact ⟨fun h => absurd h (by decide), fun h => absurd h.2.1 h2⟩
      · exact ⟨fun h => absurd h (by decide), fun h => absurd h.1 h1⟩
theorem major_len (l : List UInt8) : (major l).1.length ≤ l.length := by
  cases hl : lastSplit l with
  | none => rw [major_none (lastSplit_none hl)]; exact Nat.le_refl _
  | some q =>
    obtain ⟨e, hn⟩ := lastSplit_some (a := q.1) (w := q.2) hl
    rw [e, major_some hn]
    split <;> simp
theorem major_ev (s : ByteArray) (hs : s.size ≤ 140737488351232) (hh : (L s).head? ≠ some 47) : Ev (fun k => path_Major.f k s) (B (major (L s)).1, (major (L s)).2) := by
  unfold path_Major.f
  refine Ev.bind (part_ev s hs hh) ?_
  have h := major_len (L s)
  have hz := L_size s
  rw [clone_ok _ (by rw [L_size, L_B]; omega)]
  exact Ev.now _
theorem fits_of (a b : ByteArray) (m v x y : Int) (z : ByteArray) : path_parted_fits.f a b m v x y z = some (fits m v) := by
  unfold path_parted_fits.f fits
  by_cases h : v = m
  · rw [if_pos h]; simp [h]
  · rw [if_neg h]
    by_cases h2 : m = 0
    · rw [if_pos h2]; subst h2; simp [h]
    · rw [if_neg h2]; simp [h, h2]
theorem fits_ev (s : ByteArray) (hs : s.size ≤ 140737488351232) (hh : (L s).head? ≠ some 47) (v x y : Int) (z : ByteArray) : Ev (fun k => path_Fits.f k s v x y z) (fits (major (L s)).2 v) := by
  unfold path_Fits.f
  refine Ev.bind (part_ev s hs hh) ?_
  rw [fits_of]
  exact Ev.now _
theorem within_ok (s r : ByteArray) : path_Within.f s r = some (within (L s) (L r)) := by
  unfold path_Within.f strings_CutPrefix.f stringslite_CutPrefix.f
  have hp := hasPrefix_ok s r
  unfold strings_HasPrefix.f at hp
  have hp2 : stringslite_HasPrefix.f s r = some (decide (r.size ≤ s.size) && (L s).take r.size == L r) := by
    cases h : stringslite_HasPrefix.f s r with
    | none => rw [h] at hp; cases hp
    | some b => rw [h] at hp; simpa using hp
  rw [hp2, within_prefix, L_size s, L_size r]
  simp only [Option.bind_some]
  by_cases h1 : (decide ((L r).length ≤ (L s).length) && (L s).take (L r).length == L r) = true
  · have h0 : (L r).length ≤ (L s).length := by
      simp only [Bool.and_eq_true, decide_eq_true_eq] at h1
      exact h1.1
    rw [if_pos h1, if_pos (by omega), if_pos (by omega), h1]
    have e : L (s.extract (((L r).length : Int) : Int).toNat (L s).length) = (L s).drop (L r).length := by rw [← L_size s, L_drop, Int.toNat_natCast]
    simp only [Option.bind_some, if_true, L_toList, e, Bool.true_and]
    by_cases h2 : (L s).drop (L r).length = []
    · rw [if_pos h2]; simp [h2]
    · rw [if_neg h2]
      have h3 : (L r).length < (L s).length := by
        rcases Nat.lt_or_ge (L r).length (L s).length with h | h
        · exact h
        · exact absurd (List.drop_of_length_le h) h2
      have e4 : (s.extract (((L r).length : Int) : Int).toNat (L s).length).size = (L s).length - (L r).length := by rw [L_size, e, List.length_drop]
      rw [if_pos (by omega)]
      have hb := bt_nat (s.extract (((L r).length : Int) : Int).toNat (L s).length) 0
      rw [e] at hb
      rw [show bt (s.extract (((L r).length : Int) : Int).toNat (L s).length) 0 = _ from hb]
      rw [show ((L s).drop (L r).length == []) = false by simpa using h2, Bool.false_or]
      have e5 : ((L s).drop (L r).length).getD 0 0 = (L s).getD (L r).length 0 := by simp [List.getD]
      rw [e5]
      congr 1
      rw [Bool.eq_iff_iff, beq_iff_eq, beq_iff_eq]
      exact u8_int (b := 47)
  · rw [if_neg h1]
    simp only [Option.bind_some, Bool.false_eq_true, if_false]
    rw [show (decide ((L r).length ≤ (L s).length) && (L s).take (L r).length == L r) = false by simpa using h1, Bool.false_and]
theorem ref_within_ok (s r : ByteArray) (hr : r.size ≤ 140737488351232) : transhumanceref4_Within.f s r = some (within (L s) (L r)) := by
  unfold transhumanceref4_Within.f within
  simp only [L_toList]
  by_cases h : L s = L r
  · rw [if_pos h]; simp [h]
  · rw [if_neg h, show (L s == L r) = false by simpa using h, Bool.false_or, L_size s, L_size r] 
    have hz := L_size r
    by_cases h2 : (L r).length < (L s).length
    · have hw : wrap64 (((L r).length : Int) + 1) = (((L r).length + 1 : Nat) : Int) := by rw [wrap64_id (by omega) (by omega)]; omega
      rw [if_pos (by omega), hw, if_pos (by omega), if_pos (by omega), if_pos (by omega), L_take, L_append, Int.toNat_natCast]
      simp only [h2, decide_true, Bool.true_and]
      rfl
    · rw [if_neg (by omega)]
      simp [h2]
end Go.Proofs.Ytelommablohfoaa.M
