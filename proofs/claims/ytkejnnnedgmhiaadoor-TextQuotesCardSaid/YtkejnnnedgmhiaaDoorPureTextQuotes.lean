/- Plain bytes are quoted as the document says, and unquoted as they were, whatever is behind: the pure law of TextQuotes. No condition beside the arguments' kinds and the lengths that the reading gives. -/
import Derived.Test.YtkejnnnedgmhiaaDoorXx12
import Derived.Test.YtkejnnnedgmhiaaDoorTQuote
namespace Go.Proofs.YtkejnnnedgmhiaaDoor.Pure
set_option linter.unusedVariables false
set_option linter.unusedSimpArgs false
open Go.RowKit Go.Proofs.YtkejnnnedgmhiaaDoorW.PrintWords Go.Proofs.YtkejnnnedgmhiaaDoor.X Go.Proofs.YtkejnnnedgmhiaaDoor.M
theorem TextQuotes : transhumancelaw1_TextQuotes.Pure := by
  intro l0 more hmax hsz hwf hm
  have h : Ev (fun k => transhumancelaw1_TextQuotes.f k l0 more) true := by
    unfold transhumancelaw1_TextQuotes.f
    have hj1 : Ev (fun k => transhumancelaw1_TextQuotes.j0 k l0 more true) true := by
      refine evShift ?_
      simp only [transhumancelaw1_TextQuotes.j0]
      exact evP (by trivial) (Ev.now _)
    refine Ev.bind known_ev (evP rfl (evIf (fun _ => hj1) (fun hl => ?_)))
    by_cases h60 : (more.size : Int) > 60
    · rw [decide_eq_true h60]; exact hj1
    · rw [decide_eq_false h60]
      obtain ⟨s, hE, z1, z2, hO⟩ := plain_ev l0 200 (by omega) (by omega)
      refine evShift ?_
      simp only [transhumancelaw1_TextQuotes.j0]
      have hq := quote_len (L s)
      have hz := L_size s
      have hqz := B_size (quote (L s))
      have hu := text_unquote (B (quote (L s)) ++ more) (by rw [ByteArray.size_append]; omega)
      rw [L_append, L_B, unquote_quote _ _ hO] at hu
      have hstr := strOfNums_size l0
      refine evN (by decide) (Ev.bind hE (Ev.bind (text_quote s (by omega)) (evP (by omega) (Ev.bind hu (Ev.bind (ref_quote s (by omega)) (evP rfl (evP rfl (evP ?_ (evP ?_ (Ev.bind (text_all s (by omega)) ?_))))))))))
      · show (B (L s)).toList = s.toList
        rw [B_L]
      · show ((quote (L s)).length : Int) = ((B (quote (L s))).size : Int)
        rw [hqz]
      · rw [okay_all hO]
        exact evP rfl (Ev.bind (text_all _ (by omega)) (Ev.bind (ref_all _ (by omega)) (evNow (beq_self_eq_true _))))
  exact h.rounds
end Go.Proofs.YtkejnnnedgmhiaaDoor.Pure
