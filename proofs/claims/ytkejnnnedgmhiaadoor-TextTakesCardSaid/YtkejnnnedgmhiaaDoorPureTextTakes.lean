/- What is taken, byte by byte, is the text; behind it nothing is: the pure law of TextTakes. No condition beside the arguments' kinds and the lengths that the reading gives. -/
import Derived.Test.YtkejnnnedgmhiaaDoorXx16
import Derived.Test.YtkejnnnedgmhiaaDoorTQuote
namespace Go.Proofs.YtkejnnnedgmhiaaDoor.Pure
set_option linter.unusedVariables false
set_option linter.unusedSimpArgs false
open Go.RowKit Go.Proofs.YtkejnnnedgmhiaaDoorW.PrintWords Go.Proofs.YtkejnnnedgmhiaaDoor.X Go.Proofs.YtkejnnnedgmhiaaDoor.M
theorem take_ok (s t : ByteArray) (p : Nat) (hp : p ≤ s.size) : text_Cursor_Take.f s (p : Int) t = some (if (decide (t.size ≤ s.size - p) && ((L s).drop p).take t.size == L t) = true then (true, s, wrap64 ((p : Int) + (t.size : Int))) else (false, s, (p : Int))) := by
  unfold text_Cursor_Take.f
  have hz : (s.extract p s.size).size = s.size - p := by rw [L_size, L_drop, List.length_drop, ← L_size]
  rw [if_pos (by omega), if_pos (by omega), hasPre, Int.toNat_natCast, L_drop, hz, Option.bind_some]
  split <;> rfl
theorem peek_ok (s : ByteArray) (p : Nat) (hp : p < s.size) : text_front_Peek.f s (p : Int) = some (bt s p, true, s, (p : Int)) := by
  unfold text_front_Peek.f
  rw [if_neg (by omega), if_pos (by omega), if_pos (by omega)]
theorem peek_end (s : ByteArray) : text_front_Peek.f s (s.size : Int) = some (0, false, s, (s.size : Int)) := by
  unfold text_front_Peek.f
  rw [if_pos (by omega)]
theorem takes_loop (s : ByteArray) (hs : s.size ≤ 1000) (l : List Int) (hl : l.length ≤ 140737488351232) (d : Nat) : ∀ (p i : Nat), p ≤ s.size → (l.length - i) + (s.size - p) = d → i + d ≤ 4611686018427387 →
    Ev (fun k => transhumancelaw1_TextTakes.l0 k l s (p : Int) (i : Int) s (p : Int)) true := by
  induction d using Nat.strongRecOn with
  | _ d ih =>
    intro p i hp hd hi
    refine evShift ?_
    simp only [transhumancelaw1_TextTakes.l0]
    refine evIf (fun h => ?_) (fun h => ?_)
    · have hj : ∀ n : Nat, (n : Int) ≤ (s.size : Int) - p → (n = 1 ∨ i < l.length) → Ev (fun k => transhumancelaw1_TextTakes.j1 k l s (p : Int) (i : Int) (n : Int) s (p : Int)) true := by
        intro n hn hor
        have hw : wrap64 ((p : Int) + (n : Int)) = ((p + n : Nat) : Int) := by rw [wrap64_id (by omega) (by omega)]; omega
        have hw1 : wrap64 ((i : Int) + 1) = ((i + 1 : Nat) : Int) := by rw [wrap64_id (by omega) (by omega)]; omega
        have hxz : (s.extract p s.size).size = s.size - p := by rw [L_size, L_drop, List.length_drop, ← L_size]
        have hxn : (s.extract p (p + n)).size = n := by rw [L_size, L_extract, List.length_take, List.length_drop, ← L_size]; omega
        refine evShift ?_
        simp only [transhumancelaw1_TextTakes.j1]
        refine evBind (peek_ok s p (by omega)) (evP rfl (evP (by omega) (evP (by omega) (evP rfl (evP (by omega) (evP ?_ ?_))))))
        · rw [Int.toNat_natCast, hxz]; omega
        · refine evBind (take_ok s _ p hp) ?_
          have hf : (decide (((s.extract (p : Int).toNat s.size) ++ (⟨#[120]⟩ : ByteArray)).size ≤ s.size - p) && ((L s).drop p).take ((s.extract (p : Int).toNat s.size) ++ (⟨#[120]⟩ : ByteArray)).size == L ((s.extract (p : Int).toNat s.size) ++ (⟨#[120]⟩ : ByteArray))) = false := by
            rw [Int.toNat_natCast, ByteArray.size_append, hxz, show (⟨#[120]⟩ : ByteArray).size = 1 from rfl, decide_eq_false (by omega), Bool.false_and]
          simp only [hf, Bool.false_eq_true, if_false]
          refine evBind rfl (evShift ?_)
          simp only [transhumancelaw1_TextTakes.j2, bne_self_eq_false, Bool.false_eq_true, if_false]
          refine evP (by omega) (evP (by omega) (evP (by omega) (evBind (take_ok s _ p hp) ?_)))
          have ht : (decide ((s.extract (p : Int).toNat (wrap64 ((p : Int) + (n : Int))).toNat).size ≤ s.size - p) && ((L s).drop p).take (s.extract (p : Int).toNat (wrap64 ((p : Int) + (n : Int))).toNat).size == L (s.extract (p : Int).toNat (wrap64 ((p : Int) + (n : Int))).toNat)) = true := by
            rw [hw, Int.toNat_natCast, Int.toNat_natCast, hxn, decide_eq_true (by omega), L_extract, Bool.true_and, show p + n - p = n by omega]
            exact beq_self_eq_true _
          simp only [ht, if_true]
          rw [hw, Int.toNat_natCast, Int.toNat_natCast, hxn, hw]
          refine evBind rfl (evP rfl ?_)
          rw [hw1]
          exact ih ((l.length - (i + 1)) + (s.size - (p + n))) (by omega) (p + n) (i + 1) (by omega) rfl (by omega)
      refine evIf (fun h2 => evP (by omega) ?_) (fun h2 => ?_)
      · have hm : mn 9 (wrap64 ((s.size : Int) - (p : Int))) = if (s.size : Int) - (p : Int) < 9 then (s.size : Int) - (p : Int) else 9 := by
          rw [wrap64_id (by omega) (by omega)]; rfl
        have hm1 : 1 ≤ mn 9 (wrap64 ((s.size : Int) - (p : Int))) ∧ mn 9 (wrap64 ((s.size : Int) - (p : Int))) ≤ (s.size : Int) - p ∧ mn 9 (wrap64 ((s.size : Int) - (p : Int))) ≤ 9 := by
          rw [hm]; split <;> omega
        generalize mn 9 (wrap64 ((s.size : Int) - (p : Int))) = m at *
        rw [wrap64_id (show -9223372036854775808 ≤ m + 1 by omega) (by omega)]
        obtain ⟨y, hy, y0, y1⟩ := twithin_ok (rd l (i : Int)) (m + 1) (by omega) (by omega)
        refine evBind hy ?_
        have e : y = ((y.toNat : Nat) : Int) := by omega
        rw [e]
        exact hj y.toNat (by omega) (.inr (by omega))
      · exact hj 1 (by omega) (.inl rfl)
    · have e : p = s.size := by omega
      subst e
      refine evBind (peek_end s) (evN Bool.false_ne_true (evBind (take_ok s _ s.size (Nat.le_refl _)) ?_))
      have hf : (decide ((⟨#[120]⟩ : ByteArray).size ≤ s.size - s.size) && ((L s).drop s.size).take (⟨#[120]⟩ : ByteArray).size == L (⟨#[120]⟩ : ByteArray)) = false := by
        rw [show (⟨#[120]⟩ : ByteArray).size = 1 from rfl, decide_eq_false (by omega), Bool.false_and]
      simp only [hf, Bool.false_eq_true, if_false]
      refine evBind (take_ok s _ s.size (Nat.le_refl _)) ?_
      have ht : (decide ((⟨#[]⟩ : ByteArray).size ≤ s.size - s.size) && ((L s).drop s.size).take (⟨#[]⟩ : ByteArray).size == L (⟨#[]⟩ : ByteArray)) = true := by
        rw [show (⟨#[]⟩ : ByteArray).size = 0 from rfl, decide_eq_true (by omega), List.take_zero]; rfl
      simp only [ht, if_true]
      have hw : wrap64 ((s.size : Int) + ((⟨#[]⟩ : ByteArray).size : Int)) = (s.size : Int) := by
        rw [show (⟨#[]⟩ : ByteArray).size = 0 from rfl, wrap64_id (by omega) (by omega)]; omega
      rw [hw]
      have hx : s.extract s.size s.size = (⟨#[]⟩ : ByteArray) := by
        apply L_inj
        rw [L_drop, List.drop_of_length_le (by rw [← L_size]; omega)]; rfl
      have hW : Ev (fun k => text_Cursor_While.f k s (s.size : Int) (⟨#[97, 98, 99]⟩ : ByteArray)) ((⟨#[]⟩ : ByteArray), s, (s.size : Int)) := by
        unfold text_Cursor_While.f
        refine evP (by omega) (evShift ?_)
        simp only [text_Cursor_While.l0, Int.toNat_natCast, hx]
        exact evN (by omega) (evP (by omega) (evP (by omega) (evBind rfl (Ev.now _))))
      refine Ev.bind hW (evP (by rw [L_toList]; rfl) (evBind rfl (evNow (beq_self_eq_true _))))
theorem TextTakes : transhumancelaw1_TextTakes.Pure := by
  intro l0 l1 hmax hsz hwf hmax1 hsz1 hwf1
  have hz := strOfNums_size l0
  have h : Ev (fun k => transhumancelaw1_TextTakes.f k l0 l1) true := by
    unfold transhumancelaw1_TextTakes.f
    refine Ev.bind known_ev (evP rfl (evIf (fun _ => Ev.now _) (fun hl => evBind rfl ?_)))
    exact takes_loop (strOfNums l0) (by omega) l1 (by omega) _ 0 0 (by omega) rfl (by omega)
  exact h.rounds
end Go.Proofs.YtkejnnnedgmhiaaDoor.Pure
