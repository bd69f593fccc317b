/- Any bytes, a quoted text's with bytes turned, cut off, are unquoted, or none, as the document says: the pure law of TextUnquotes. No condition beside the arguments' kinds and the lengths that the reading gives. -/
import Derived.Test.YtkejnnnedgmhiaaDoorXv
import Derived.Test.YtkejnnnedgmhiaaDoorTUnq
namespace Go.Proofs.YtkejnnnedgmhiaaDoor.Pure
set_option linter.unusedVariables false
set_option linter.unusedSimpArgs false
open Go.RowKit Go.Proofs.YtkejnnnedgmhiaaDoorW.PrintWords Go.Proofs.YtkejnnnedgmhiaaDoor.X Go.Proofs.YtkejnnnedgmhiaaDoor.M
theorem unquotes_loop (l : List ByteArray) (hl : l.length ≤ 1000) (hz : ∀ i (h : i < l.length), l[i].size ≤ 1000000) (d : Nat) : ∀ i : Nat, i + d = l.length → Ev (fun k => transhumancelaw1_TextUnquotes.l0 k l (i : Int)) true := by
  induction d with
  | zero =>
    intro i hi
    refine evShift ?_
    simp only [transhumancelaw1_TextUnquotes.l0]
    exact evN (by omega) (Ev.now _)
  | succ d ih =>
    intro i hi
    have hil : i < l.length := by omega
    have hw : wrap64 ((i : Int) + 1) = ((i + 1 : Nat) : Int) := by rw [wrap64_id (by omega) (by omega)]; omega
    have e : rdOf ByteArray.empty l (i : Int) = l[i] := by rw [rdOf_nat, List.getD_eq_getElem?_getD, List.getElem?_eq_getElem hil]; rfl
    have hsz := hz i hil
    refine evShift ?_
    simp only [transhumancelaw1_TextUnquotes.l0, hw, e]
    refine evP (by omega) (evP (by omega) (Ev.bind (text_unquote _ (by omega)) (Ev.bind (ref_unquote _ (by omega)) ?_)))
    simp only [bne_self_eq_false, Bool.false_eq_true, if_false]
    exact evP (by trivial) (evP (by trivial) (ih (i + 1) (by omega)))
theorem TextUnquotes : transhumancelaw1_TextUnquotes.Pure := by
  intro l0 a1 a2 a3 a4 hmax hsz hwf hw1 hw2 hw3 hs4
  have h : Ev (fun k => transhumancelaw1_TextUnquotes.f k l0 a1 a2 a3 a4) true := by
    unfold transhumancelaw1_TextUnquotes.f
    have hj1 : Ev (fun k => transhumancelaw1_TextUnquotes.j0 k l0 a1 a2 a3 a4 true) true := by
      refine evShift ?_
      simp only [transhumancelaw1_TextUnquotes.j0]
      exact evP (by trivial) (Ev.now _)
    refine Ev.bind known_ev (evP rfl (evIf (fun _ => hj1) (fun hl => ?_)))
    by_cases h100 : (a4.size : Int) > 100
    · rw [decide_eq_true h100]; exact hj1
    · rw [decide_eq_false h100]
      obtain ⟨s, hE, z1, z2, hO⟩ := plain_ev l0 100 (by omega) (by omega)
      have hq := quote_len (L s)
      have hq2 : 2 ≤ (quote (L s)).length := by
        unfold quote
        rw [List.length_cons, List.length_append, List.length_singleton]; omega
      have hz := L_size s
      have hqz := B_size (quote (L s))
      have hbl : (bytesI (B (quote (L s)))).length = (quote (L s)).length := by
        unfold bytesI
        rw [List.length_map, Array.length_toList]
        exact hqz
      obtain ⟨y, hy, y0, y1⟩ := twithin_ok a1 ((bytesI (B (quote (L s)))).length : Int) (by omega) (by omega)
      obtain ⟨z, hz2, z0, z3⟩ := twithin_ok a3 (((B (quote (L s))).size : Int) + 1) (by omega) (by omega)
      refine evShift ?_
      simp only [transhumancelaw1_TextUnquotes.j0]
      refine evN (by decide) (Ev.bind hE (Ev.bind (ref_quote s (by omega)) (evBind rfl (evBind hy (evP y0 (evP y1 ?_))))))
      rw [wrap64_id (show -9223372036854775808 ≤ (((B (quote (L s))).size : Int) + 1) by omega) (by omega)]
      refine evBind hz2 (evP z0 (evP (by omega) (evP (by omega) (evP (by omega) ?_))))
      refine unquotes_loop _ (by simp) ?_ 5 0 rfl
      intro i hi
      have h1 := strOfNums_size ((bytesI (B (quote (L s)))).set y.toNat ((rd (bytesI (B (quote (L s)))) y + a2) % 256))
      rw [List.length_set] at h1
      have h2 : ((B (quote (L s))).extract 0 z.toNat).size ≤ 1000000 := by
        rw [L_size, L_take, List.length_take, ← L_size]; omega
      simp only [List.length_cons, List.length_nil] at hi
      match i, hi with
      | 0, _ => show (strOfNums _).size ≤ 1000000; omega
      | 1, _ => exact h2
      | 2, _ => show a4.size ≤ 1000000; omega
      | 3, _ => show ((⟨#[34]⟩ : ByteArray) ++ a4).size ≤ 1000000; rw [ByteArray.size_append, show (⟨#[34]⟩ : ByteArray).size = 1 from rfl]; omega
      | 4, _ => show ((⟨#[34, 92]⟩ : ByteArray) ++ a4).size ≤ 1000000; rw [ByteArray.size_append, show (⟨#[34, 92]⟩ : ByteArray).size = 2 from rfl]; omega
  exact h.rounds
end Go.Proofs.YtkejnnnedgmhiaaDoor.Pure
