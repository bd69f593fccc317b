/- Of any made path and any made version the statement PathFits holds: whether the version fits the path is what the document says, the part Pre does not matter, the path's own major fits, and major 1 fits just where the path's major is 0. No condition beside the arguments' kinds. -/
import Derived.Test.YtelommablohfoaaPaths4
import Derived.Test.YtelommablohfoaaXx10
namespace Go.Proofs.Ytelommablohfoaa.Pure
set_option linter.unusedVariables false
set_option linter.unusedSimpArgs false
open Go.RowKit Go.Proofs.Ytelommablohfoaa.X Go.Proofs.Ytelommablohfoaa.M Go.Proofs.YtelommablohfoaaW.PrintWords Go.Proofs.YtelommablohfoaaW.PrintLast

theorem major_two (l : List UInt8) : (major l).2 = 0 ∨ 2 ≤ (major l).2 := by
  cases hl : lastSplit l with
  | none => exact .inl (by rw [major_none (lastSplit_none hl)])
  | some q =>
    obtain ⟨e, hn⟩ := lastSplit_some (a := q.1) (w := q.2) hl
    rw [e, major_some hn]
    split
    · rename_i h; exact .inr h.2.2.1
    · exact .inl rfl
theorem PathFits : transhumancelaw4_PathFits.Pure := by
  intro n a b _ _ _
  refine Ev.rounds ?_
  have hz := mk_size n
  have hh := mk_head n
  obtain ⟨va, vb, vc, vp, hv⟩ := make2_ev a b
  unfold transhumancelaw4_PathFits.f
  refine Ev.bind known_ev (evP rfl (Ev.bind (make_ev n) (Ev.bind hv (Ev.bind (ref_major_ev _ (by omega)) ?_))))
  simp only
  refine Ev.bind (fits_ev _ (by omega) hh _ _ _ _) (Ev.bind (ref_fits_ev _ (by omega) _ _ _ _) (evP (by simp) ?_))
  refine Ev.bind (fits_ev _ (by omega) hh _ _ _ _) (evP (by simp) ?_)
  refine Ev.bind (fits_ev _ (by omega) hh _ _ _ _) (evP (by simp [fits]) ?_)
  refine Ev.bind (fits_ev _ (by omega) hh _ _ _ _) (evNow ?_)
  unfold fits
  rcases major_two (L (B (mk n))) with h | h
  · rw [h]; rfl
  · have h1 : ((1 : Int) == (major (L (B (mk n)))).2) = false := by rw [beq_eq_false_iff_ne]; omega
    have h2 : ((major (L (B (mk n)))).2 == 0) = false := by rw [beq_eq_false_iff_ne]; omega
    rw [h1, h2]
    rfl
end Go.Proofs.Ytelommablohfoaa.Pure
