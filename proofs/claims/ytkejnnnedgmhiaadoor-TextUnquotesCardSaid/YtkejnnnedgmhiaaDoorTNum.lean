/- Numbers and digits of the text statements: what the program's and the document's Number, Digits compute, in plain Lean. Conditions: sizes as stated. -/
import Derived.Test.YtkejnnnedgmhiaaDoorXx10
import Derived.Test.YtkejnnnedgmhiaaDoorDigits
namespace Go.Proofs.YtkejnnnedgmhiaaDoor.M
set_option linter.unusedVariables false
set_option linter.unusedSimpArgs false
open Go.RowKit Go.Proofs.YtkejnnnedgmhiaaDoorW.PrintWords Go.Proofs.YtkejnnnedgmhiaaDoor.X
theorem getD_drop {l : List UInt8} {i : Nat} (h : i < l.length) : l.drop i = l.getD i 0 :: l.drop (i + 1) := by
  rw [List.drop_eq_getElem_cons h, List.getD_eq_getElem?_getD, List.getElem?_eq_getElem h]; rfl

/-! ### the last slash -/
theorem numGo_digit {l : List UInt8} {i : Nat} {n : Int} (h : i < l.length) (h1 : 48 ≤ ((l.getD i 0).toNat : Int)) (h2 : ((l.getD i 0).toNat : Int) ≤ 57) :
    numGo (l.drop i) n = numGo (l.drop (i + 1)) (10 * n + (((l.getD i 0).toNat : Int) - 48)) := by
  rw [getD_drop h, numGo, if_neg (by omega), if_neg (by omega)]
theorem numGo_bad {l : List UInt8} {i : Nat} {n : Int} (h : i < l.length) (h1 : ((l.getD i 0).toNat : Int) < 48 ∨ ((l.getD i 0).toNat : Int) > 57) : numGo (l.drop i) n = (0, false) := by
  rw [getD_drop h, numGo]
  by_cases h2 : ((l.getD i 0).toNat : Int) < 48
  · rw [if_pos h2]
  · rw [if_neg h2, if_pos (by omega)]
theorem pow10 (i : Nat) (h : i ≤ 9) : (10 : Int) ^ i ≤ 1000000000 := by
  rcases i with _ | _ | _ | _ | _ | _ | _ | _ | _ | _ | i <;> first | decide | omega
theorem num_wrap {n c : Int} (h0 : 0 ≤ n) (h1 : n < 1000000000) (h2 : 48 ≤ c) (h3 : c ≤ 57) : wrap64 ((wrap64 (10 * n)) + ((c - 48) % 256)) = 10 * n + (c - 48) := by
  unfold wrap64
  omega
theorem text_num_loop (s : ByteArray) (hs : s.size ≤ 9) (d : Nat) : ∀ (i : Nat) (n : Int), i + d = s.size → 0 ≤ n → n < (10 : Int) ^ i →
    Ev (fun k => text_Number.l0 k s n s.size i) (numGo ((L s).drop i) n) := by
  induction d with
  | zero =>
    intro i n hi h0 hn
    have e : (L s).drop i = [] := List.drop_of_length_le (by rw [← L_size]; omega)
    rw [e]
    refine evShift ?_
    simp only [text_Number.l0]
    exact evN (by omega) (evNow (by rw [numGo]))
  | succ d ih =>
    intro i n hi h0 hn
    have hl : i < (L s).length := by rw [← L_size]; omega
    have hp := pow10 i (by omega)
    have hw : wrap64 ((i : Int) + 1) = ((i + 1 : Nat) : Int) := by rw [wrap64_id (by omega) (by omega)]; omega
    refine evShift ?_
    simp only [text_Number.l0]
    refine evP (by omega) (evP (by omega) (evP (by omega) (evIf (fun h => ?_) (fun h => evIf (fun h3 => ?_) (fun h3 => ?_)))))
    · exact evNow (numGo_bad hl (by rw [bt_nat] at h; omega)).symm
    · exact evNow (numGo_bad hl (by rw [bt_nat] at h3; omega)).symm
    · rw [num_wrap h0 (by omega) (by omega) (by omega), hw, numGo_digit hl (by rw [← bt_nat]; omega) (by rw [← bt_nat]; omega), ← bt_nat]
      exact ih (i + 1) _ (by omega) (by omega) (by rw [Int.pow_succ]; omega)
theorem ref_num_loop (s : ByteArray) (hs : s.size ≤ 9) (d : Nat) : ∀ (i : Nat) (n : Int), i + d = s.size → 0 ≤ n → n < (10 : Int) ^ i →
    Ev (fun k => transhumanceref1_Number.l0 k s n i) (numGo ((L s).drop i) n) := by
  induction d with
  | zero =>
    intro i n hi h0 hn
    have e : (L s).drop i = [] := List.drop_of_length_le (by rw [← L_size]; omega)
    rw [e]
    refine evShift ?_
    simp only [transhumanceref1_Number.l0]
    exact evN (by omega) (evNow (by rw [numGo]))
  | succ d ih =>
    intro i n hi h0 hn
    have hl : i < (L s).length := by rw [← L_size]; omega
    have hp := pow10 i (by omega)
    have hw : wrap64 ((i : Int) + 1) = ((i + 1 : Nat) : Int) := by rw [wrap64_id (by omega) (by omega)]; omega
    refine evShift ?_
    simp only [transhumanceref1_Number.l0]
    refine evP (by omega) (evP (by omega) (evIf (fun h => ?_) (fun h => evIf (fun h3 => ?_) (fun h3 => ?_))))
    · exact evNow (numGo_bad hl (by rw [bt_nat] at h; omega)).symm
    · exact evNow (numGo_bad hl (by rw [bt_nat] at h3; omega)).symm
    · rw [num_wrap h0 (by omega) (by omega) (by omega), hw, numGo_digit hl (by rw [← bt_nat]; omega) (by rw [← bt_nat]; omega), ← bt_nat]
      exact ih (i + 1) _ (by omega) (by omega) (by rw [Int.pow_succ]; omega)
theorem num_of {l : List UInt8} (h1 : ¬ l.length < 1) (h2 : ¬ l.length > 9) (h3 : ¬ (l.length > 1 ∧ l.getD 0 0 = 48)) : num l = numGo l 0 := by
  unfold num
  rw [if_neg (by rintro (h | h | h) <;> contradiction)]
theorem bt0_48 (s : ByteArray) : (bt s 0 == 48) = true ↔ (L s).getD 0 0 = 48 := by
  have h := bt_nat s 0
  simp only [Int.ofNat_zero, Int.natCast_zero] at h
  rw [beq_iff_eq, show bt s 0 = ((L s).getD 0 0).toNat from h]
  exact u8_int (b := 48)
theorem text_num (s : ByteArray) : Ev (fun k => text_Number.f k s) (num (L s)) := by
  have hz := L_size s
  have hj : ∀ x : Bool, (x = true ↔ ((L s).length < 1 ∨ (L s).length > 9 ∨ ((L s).length > 1 ∧ (L s).getD 0 0 = 48))) → Ev (fun k => text_Number.j0 k s x) (num (L s)) := by
    intro x hx
    refine evShift ?_
    simp only [text_Number.j0]
    refine evIf (fun h => ?_) (fun h => ?_)
    · refine evNow ?_
      unfold num
      rw [if_pos (hx.mp h)]
    · have h2 := mt hx.mpr h
      unfold num
      rw [if_neg h2]
      have := text_num_loop s (by omega) s.size 0 0 (by omega) (by omega) (by decide)
      simpa using this
  unfold text_Number.f
  refine evIf (fun h => hj _ ?_) (fun h => evIf (fun h2 => hj _ ?_) (fun h2 => evIf (fun h3 => evP (by omega) (hj _ ?_)) (fun h3 => hj _ ?_)))
  · exact ⟨fun _ => .inl (by omega), fun _ => rfl⟩
  · exact ⟨fun _ => .inr (.inl (by omega)), fun _ => rfl⟩
  · rw [bt0_48]
    exact ⟨fun h4 => .inr (.inr ⟨by omega, h4⟩), fun h4 => by
      rcases h4 with h4 | h4 | h4
      · omega
      · omega
      · exact h4.2⟩
  · exact ⟨fun h4 => absurd h4 (by decide), fun h4 => by
      rcases h4 with h4 | h4 | h4
      · omega
      · omega
      · omega⟩
theorem ref_num (s : ByteArray) : Ev (fun k => transhumanceref1_Number.f k s) (num (L s)) := by
  have hz := L_size s
  have hj : ∀ x : Bool, (x = true ↔ ((L s).length < 1 ∨ (L s).length > 9 ∨ ((L s).length > 1 ∧ (L s).getD 0 0 = 48))) → Ev (fun k => transhumanceref1_Number.j0 k s x) (num (L s)) := by
    intro x hx
    refine evShift ?_
    simp only [transhumanceref1_Number.j0]
    refine evIf (fun h => ?_) (fun h => ?_)
    · refine evNow ?_
      unfold num
      rw [if_pos (hx.mp h)]
    · have h2 := mt hx.mpr h
      unfold num
      rw [if_neg h2]
      have := ref_num_loop s (by omega) s.size 0 0 (by omega) (by omega) (by decide)
      simpa using this
  unfold transhumanceref1_Number.f
  refine evIf (fun h => hj _ ?_) (fun h => evIf (fun h2 => hj _ ?_) (fun h2 => evIf (fun h3 => evP (by omega) (hj _ ?_)) (fun h3 => hj _ ?_)))
  · exact ⟨fun _ => .inl (by omega), fun _ => rfl⟩
  · exact ⟨fun _ => .inr (.inl (by omega)), fun _ => rfl⟩
  · rw [bt0_48]
    exact ⟨fun h4 => .inr (.inr ⟨by omega, h4⟩), fun h4 => by
      rcases h4 with h4 | h4 | h4
      · omega
      · omega
      · exact h4.2⟩
  · exact ⟨fun h4 => absurd h4 (by decide), fun h4 => by
      rcases h4 with h4 | h4 | h4
      · omega
      · omega
      · omega⟩


theorem digits_ev (n : Nat) (hn : n ≤ 4611686018427387) : Ev (fun k => transhumanceref1_Digits.f k (n : Int)) (B (digN n)) := by
  induction n using Nat.strongRecOn with
  | _ n ih =>
    refine evShift ?_
    simp only [transhumanceref1_Digits.f]
    refine evIf (fun h => ?_) (fun h => ?_)
    · have e1 : wrap64 (Int.tdiv (n : Int) 10) = ((n / 10 : Nat) : Int) := by
        rw [Int.tdiv_eq_ediv_of_nonneg (by omega), wrap64_id (by omega) (by omega)]; omega
      have e2 : Int.tmod (n : Int) 10 = ((n % 10 : Nat) : Int) := by
        rw [Int.tmod_eq_emod_of_nonneg (by omega)]; omega
      rw [e1, e2]
      have h1 := digN_len (n / 10)
      have h2 := digN_len (n % 10)
      have z1 : (B (digN (n / 10))).size = (digN (n / 10)).length := by rw [L_size, L_B]
      have z2 : (B (digN (n % 10))).size = (digN (n % 10)).length := by rw [L_size, L_B]
      refine Ev.bind (ih (n / 10) (by omega) (by omega)) (Ev.bind (ih (n % 10) (by omega) (by omega)) (evP (by omega) (evNow ?_)))
      apply L_inj
      rw [L_append, L_B, L_B, L_B, digN_big (n := n) (by omega), digN_small (n := n % 10) (by omega)]
    · refine evNow ?_
      rw [digN_small (by omega), wrap64_id (by omega) (by omega)]
      apply L_inj
      rw [L_B]
      unfold L
      rw [strOfNums_data]
      simp only [List.map_cons, List.map_nil]
      congr 2
      omega
end Go.Proofs.YtkejnnnedgmhiaaDoor.M
