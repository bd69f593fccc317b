/- Plain lemmas on a number's digits: they are the number, and no other digits without a zero ahead are; no program in sight. No condition. -/
import Derived.Test.YtkejnnnedgmhiaaDoorBytes
namespace Go.Proofs.YtkejnnnedgmhiaaDoor.M
set_option linter.unusedVariables false
set_option linter.unusedSimpArgs false

def digN (n : Nat) : List UInt8 := if n < 10 then [UInt8.ofNat (48 + n)] else digN (n / 10) ++ [UInt8.ofNat (48 + n % 10)]
theorem digN_small {n : Nat} (h : n < 10) : digN n = [UInt8.ofNat (48 + n)] := by rw [digN, if_pos h]
theorem digN_big {n : Nat} (h : ¬ n < 10) : digN n = digN (n / 10) ++ [UInt8.ofNat (48 + n % 10)] := by rw [digN, if_neg h]
theorem digN_len (n : Nat) : (digN n).length ≤ n + 1 := by
  induction n using Nat.strongRecOn with
  | _ n ih =>
    by_cases h : n < 10
    · rw [digN_small h]; simp
    · have := ih (n / 10) (by omega)
      rw [digN_big h]
      simp
      omega
theorem digN_pos (n : Nat) : 1 ≤ (digN n).length := by
  by_cases h : n < 10
  · rw [digN_small h]; simp
  · rw [digN_big h]; simp
theorem dig_nat {d : Nat} (h : d < 10) : (UInt8.ofNat (48 + d)).toNat = 48 + d := by
  rw [UInt8.toNat_ofNat']
  omega
theorem digN_digit (n : Nat) : ∀ c ∈ digN n, 48 ≤ c.toNat ∧ c.toNat ≤ 57 := by
  induction n using Nat.strongRecOn with
  | _ n ih =>
    intro c hc
    by_cases h : n < 10
    · rw [digN_small h, List.mem_singleton] at hc
      subst hc
      rw [dig_nat h]
      omega
    · rw [digN_big h, List.mem_append, List.mem_singleton] at hc
      rcases hc with hc | rfl
      · exact ih (n / 10) (by omega) c hc
      · rw [dig_nat (by omega)]
        omega
theorem digN_noSl (n : Nat) : NoSl (digN n) := by
  intro c hc h
  have := digN_digit n c hc
  subst h
  exact absurd this.1 (by decide)
theorem numGo_snoc (d : List UInt8) (c : UInt8) : ∀ n : Int, numGo (d ++ [c]) n = if (numGo d n).2 = true then (if (c.toNat : Int) < 48 then (0, false) else if (c.toNat : Int) > 57 then (0, false) else (10 * (numGo d n).1 + ((c.toNat : Int) - 48), true)) else (0, false) := by
  induction d with
  | nil =>
    intro n
    simp [numGo]
  | cons x d ih =>
    intro n
    rw [List.cons_append, numGo, numGo]
    by_cases h1 : (x.toNat : Int) < 48
    · simp only [if_pos h1]; rfl
    · by_cases h2 : (x.toNat : Int) > 57
      · simp only [if_neg h1, if_pos h2]; rfl
      · simp only [if_neg h1, if_neg h2]
        exact ih _
theorem numGo_digN (n : Nat) : numGo (digN n) 0 = ((n : Int), true) := by
  induction n using Nat.strongRecOn with
  | _ n ih =>
    by_cases h : n < 10
    · rw [digN_small h]
      have e := dig_nat h
      rw [numGo, e, if_neg (by omega), if_neg (by omega), numGo]
      congr 1
      omega
    · have e := dig_nat (show n % 10 < 10 by omega)
      rw [digN_big h, numGo_snoc, ih (n / 10) (by omega), e]
      simp only [if_true]
      rw [if_neg (by omega), if_neg (by omega)]
      congr 1
      omega
theorem digN_short (k : Nat) : ∀ n : Nat, n < 10 ^ (k + 1) → (digN n).length ≤ k + 1 := by
  induction k with
  | zero => intro n h; rw [digN_small (by omega)]; simp
  | succ k ih =>
    intro n h
    by_cases h2 : n < 10
    · rw [digN_small h2]; simp
    · rw [digN_big h2]
      have := ih (n / 10) (by rw [Nat.pow_succ] at h; omega)
      simp
      omega
theorem digN_head (n : Nat) : 1 ≤ n → (digN n).getD 0 0 ≠ 48 := by
  induction n using Nat.strongRecOn with
  | _ n ih =>
    intro h1
    by_cases h : n < 10
    · rw [digN_small h]
      intro e
      have := dig_nat h
      have e2 : (UInt8.ofNat (48 + n)) = 48 := e
      rw [e2] at this
      have : (48 : UInt8).toNat = 48 := rfl
      omega
    · rw [digN_big h]
      have hp := digN_pos (n / 10)
      have e : (digN (n / 10) ++ [UInt8.ofNat (48 + n % 10)]).getD 0 0 = (digN (n / 10)).getD 0 0 := by
        rw [List.getD_eq_getElem?_getD, List.getElem?_append_left (by omega), List.getD_eq_getElem?_getD]
      rw [e]
      exact ih (n / 10) (by omega) (by omega)
theorem num_digN (n : Nat) (h : n < 1000000000) : num (digN n) = ((n : Int), true) := by
  have h1 := digN_pos n
  have h2 := digN_short 8 n (by omega)
  unfold num
  rw [if_neg, numGo_digN]
  rintro (h3 | h3 | ⟨h3, h4⟩)
  · omega
  · omega
  · refine digN_head n ?_ h4
    rcases Nat.eq_zero_or_pos n with h5 | h5
    · subst h5
      rw [digN_small (by decide)] at h3
      simp at h3
    · exact h5
theorem numGo_ge (d : List UInt8) : ∀ n : Int, 0 ≤ n → (numGo d n).2 = true → n ≤ (numGo d n).1 := by
  induction d with
  | nil => intro n _ _; exact Int.le_refl _
  | cons x d ih =>
    intro n h0 h
    rw [numGo] at h ⊢
    by_cases h1 : (x.toNat : Int) < 48
    · rw [if_pos h1] at h; cases h
    · by_cases h2 : (x.toNat : Int) > 57
      · rw [if_neg h1, if_pos h2] at h; cases h
      · rw [if_neg h1, if_neg h2] at h ⊢
        have := ih _ (by omega) h
        omega
theorem digN_canon (k : Nat) : ∀ d : List UInt8, d.length = k + 1 → (k = 0 ∨ d.getD 0 0 ≠ 48) → (numGo d 0).2 = true → digN (numGo d 0).1.toNat = d := by
  induction k with
  | zero =>
    intro d hl _ h
    rcases d with _ | ⟨c, _ | ⟨c2, d⟩⟩
    · cases hl
    · rw [numGo] at h ⊢
      by_cases h1 : (c.toNat : Int) < 48
      · rw [if_pos h1] at h; cases h
      · by_cases h2 : (c.toNat : Int) > 57
        · rw [if_neg h1, if_pos h2] at h; cases h
        · rw [if_neg h1, if_neg h2, numGo]
          have e : (10 * (0 : Int) + ((c.toNat : Int) - 48)).toNat = c.toNat - 48 := by omega
          simp only
          rw [e, digN_small (by omega), show 48 + (c.toNat - 48) = c.toNat by omega, UInt8.ofNat_toNat]
    · simp at hl
  | succ k ih =>
    intro d hl hh h
    obtain ⟨e, c, rfl⟩ : ∃ e c, d = e ++ [c] := ⟨d.dropLast, d.getLast (by rintro rfl; cases hl), (List.dropLast_concat_getLast _).symm⟩
    have hel : e.length = k + 1 := by simp at hl; exact hl
    rw [numGo_snoc] at h ⊢
    by_cases he : (numGo e 0).2 = true
    · rw [if_pos he] at h ⊢
      by_cases h1 : (c.toNat : Int) < 48
      · rw [if_pos h1] at h; cases h
      · by_cases h2 : (c.toNat : Int) > 57
        · rw [if_neg h1, if_pos h2] at h; cases h
        · rw [if_neg h1, if_neg h2]
          have hh2 : e.getD 0 0 ≠ 48 := by
            have e1 : (e ++ [c]).getD 0 0 = e.getD 0 0 := by
              rw [List.getD_eq_getElem?_getD, List.getElem?_append_left (by omega), List.getD_eq_getElem?_getD]
            rw [← e1]
            exact hh.resolve_left (by omega)
          have hc := ih e hel (.inr hh2) he
          have h0 := numGo_ge e 0 (by omega) he
          have hpos : 1 ≤ (numGo e 0).1 := by
            rcases e with _ | ⟨x, e⟩
            · cases hel
            · rw [numGo] at he ⊢
              by_cases h3 : (x.toNat : Int) < 48
              · rw [if_pos h3] at he; cases he
              · by_cases h4 : (x.toNat : Int) > 57
                · rw [if_neg h3, if_pos h4] at he; cases he
                · rw [if_neg h3, if_neg h4] at he ⊢
                  have h5 := numGo_ge e _ (by omega) he
                  have h6 : (x.toNat : Int) ≠ 48 := fun h7 => hh2 ((u8_int (b := 48)).mp h7)
                  omega
          have e2 : (10 * (numGo e 0).1 + ((c.toNat : Int) - 48)).toNat = 10 * (numGo e 0).1.toNat + (c.toNat - 48) := by omega
          simp only
          rw [e2, digN_big (by omega)]
          have e3 : (10 * (numGo e 0).1.toNat + (c.toNat - 48)) / 10 = (numGo e 0).1.toNat := by omega
          have e4 : 48 + (10 * (numGo e 0).1.toNat + (c.toNat - 48)) % 10 = c.toNat := by omega
          rw [e3, e4, hc, UInt8.ofNat_toNat]
    · rw [if_neg he] at h; cases h
theorem num_canon {d : List UInt8} (h : (num d).2 = true) : digN (num d).1.toNat = d ∧ 0 ≤ (num d).1 := by
  unfold num at h ⊢
  by_cases h1 : d.length < 1 ∨ d.length > 9 ∨ (d.length > 1 ∧ d.getD 0 0 = 48)
  · rw [if_pos h1] at h; cases h
  · rw [if_neg h1] at h ⊢
    refine ⟨digN_canon (d.length - 1) d (by omega) ?_ h, numGo_ge d 0 (by omega) h⟩
    by_cases h2 : d.length > 1
    · right
      intro h3
      exact h1 (.inr (.inr ⟨h2, h3⟩))
    · left; omega

/-! ### a path's root and its major -/
theorem major_none {l : List UInt8} (h : NoSl l) : major l = (l, 0) := by
  unfold major
  rw [lastSplit_noSl h]
theorem major_some {a w : List UInt8} (h : NoSl w) : major (a ++ 47 :: w) = if w.head? = some 118 ∧ (num (w.drop 1)).2 = true ∧ 2 ≤ (num (w.drop 1)).1 ∧ (num (w.drop 1)).1 ≤ 999999 then (a, (num (w.drop 1)).1) else (a ++ 47 :: w, 0) := by
  unfold major
  rw [lastSplit_of h]
  cases w with
  | nil => simp
  | cons c d =>
    simp only [List.head?_cons, Option.some.injEq, List.drop_one, List.tail_cons]
    by_cases h1 : c = 118
    · simp only [h1, if_true, true_and]
    · simp only [h1, if_false, false_and]
theorem major_back {l : List UInt8} (h : (major l).2 > 0) : (major l).1 ++ [47, 118] ++ digN (major l).2.toNat = l ∧ (major l).2 ≤ 999999 := by
  cases hl : lastSplit l with
  | none => rw [major_none (lastSplit_none hl)] at h; exact absurd h (by simp)
  | some q =>
    obtain ⟨a, w⟩ := q
    obtain ⟨e, hn⟩ := lastSplit_some hl
    rw [e, major_some hn] at h ⊢
    by_cases hc : w.head? = some 118 ∧ (num (w.drop 1)).2 = true ∧ 2 ≤ (num (w.drop 1)).1 ∧ (num (w.drop 1)).1 ≤ 999999
    · rw [if_pos hc] at h ⊢
      obtain ⟨d, rfl⟩ : ∃ d, w = 118 :: d := by
        rcases w with _ | ⟨c, d⟩
        · simp at hc
        · have := hc.1; simp at this; exact ⟨d, by rw [this]⟩
      have := num_canon (d := d) hc.2.1
      refine ⟨?_, hc.2.2.2⟩
      simp only [List.drop_one, List.tail_cons]
      rw [this.1]
      simp
    · rw [if_neg hc] at h
      exact absurd h (by simp)
theorem major_zero {l : List UInt8} (h : (major l).2 = 0) : (major l).1 = l := by
  cases hl : lastSplit l with
  | none => rw [major_none (lastSplit_none hl)]
  | some q =>
    obtain ⟨a, w⟩ := q
    obtain ⟨e, hn⟩ := lastSplit_some hl
    rw [e, major_some hn] at h ⊢
    by_cases hc : w.head? = some 118 ∧ (num (w.drop 1)).2 = true ∧ 2 ≤ (num (w.drop 1)).1 ∧ (num (w.drop 1)).1 ≤ 999999
    · rw [if_pos hc] at h
      have := hc.2.2.1
      simp only at h
      omega
    · rw [if_neg hc]
theorem major_nn (l : List UInt8) : 0 ≤ (major l).2 := by
  cases hl : lastSplit l with
  | none => rw [major_none (lastSplit_none hl)]; exact Int.le_refl _
  | some q =>
    obtain ⟨a, w⟩ := q
    obtain ⟨e, hn⟩ := lastSplit_some hl
    rw [e, major_some hn]
    split
    · rename_i hc; have := hc.2.2.1; simp only; omega
    · exact Int.le_refl _
theorem major_two (l : List UInt8) : (major l).2 = 0 ∨ 2 ≤ (major l).2 := by
  cases hl : lastSplit l with
  | none => exact .inl (by rw [major_none (lastSplit_none hl)])
  | some q =>
    obtain ⟨e, hn⟩ := lastSplit_some (a := q.1) (w := q.2) hl
    rw [e, major_some hn]
    split
    · rename_i h; exact .inr h.2.2.1
    · exact .inl rfl
end Go.Proofs.YtkejnnnedgmhiaaDoor.M
