/- Of any made paths and any two texts of at most 60 bytes the statement PathWithin holds: whether one is within the other is what the document says, with a slash between, or none more. No condition beside the arguments' kinds. -/
import Derived.Test.YtelommablohfoaaPaths4
import Derived.Test.YtelommablohfoaaXx12
namespace Go.Proofs.Ytelommablohfoaa.Pure
set_option linter.unusedVariables false
set_option linter.unusedSimpArgs false
open Go.RowKit Go.Proofs.Ytelommablohfoaa.X Go.Proofs.Ytelommablohfoaa.M Go.Proofs.YtelommablohfoaaW.PrintWords Go.Proofs.YtelommablohfoaaW.PrintLast

theorem within_self (a : List UInt8) : within a a = true := by simp [within]
theorem within_more (a b : List UInt8) : within (a ++ 47 :: b) a = true := by
  have e : (a ++ 47 :: b).take (a.length + 1) = a ++ [47] := by
    have : a ++ 47 :: b = (a ++ [47]) ++ b := by simp
    rw [this, List.take_left' (by simp)]
  unfold within
  rw [e]
  simp
theorem within_less (a b : List UInt8) : within a (a ++ 47 :: b) = false := by
  unfold within
  have h1 : (a == a ++ 47 :: b) = false := by
    rw [beq_eq_false_iff_ne]
    intro h
    have := congrArg List.length h
    simp at this
  rw [h1]
  simp
  omega
theorem within_x (a : List UInt8) : within (a ++ [120]) a = false := by
  unfold within
  have h1 : (a ++ [120] == a) = false := by
    rw [beq_eq_false_iff_ne]
    intro h
    have := congrArg List.length h
    simp at this
  have h2 : ((a ++ [120]).take (a.length + 1) == a ++ [47]) = false := by
    rw [List.take_of_length_le (by simp), beq_eq_false_iff_ne]
    intro h
    have := List.append_cancel_left h
    simp at this
  rw [h1, h2]
  simp
theorem PathWithin : transhumancelaw4_PathWithin.Pure := by
  intro n m s t _ _ hs ht
  refine Ev.rounds ?_
  have hz := mk_size n
  have hy := mk_size m
  have hj : ∀ x : Bool, Ev (fun k => transhumancelaw4_PathWithin.j0 k n m s t x) true := by
    intro x
    refine evShift ?_
    simp only [transhumancelaw4_PathWithin.j0]
    refine evIf (fun _ => Ev.now _) (fun _ => ?_)
    have ec : (B (mk n) ++ (⟨#[47]⟩ : ByteArray)) ++ B (mk m) = B (mk n ++ 47 :: mk m) := L_inj (by simp only [L_append, L_B]; simp [L])
    have ex : B (mk n) ++ (⟨#[120]⟩ : ByteArray) = B (mk n ++ [120]) := L_inj (by simp only [L_append, L_B]; simp [L])
    refine Ev.bind (make_ev n) (Ev.bind (make_ev m) (evBind (within_ok _ _) (evBind (ref_within_ok _ _ (by omega)) (evP (by simp) ?_))))
    refine evBind (within_ok _ _) (evBind (ref_within_ok _ _ (by omega)) (evP (by simp) (evP (by omega) (evP (by omega) ?_))))
    rw [ec, ex]
    refine evBind (within_ok _ _) ?_
    rw [L_B, L_B, within_more]
    refine evP rfl (evBind (within_ok _ _) ?_)
    rw [L_B, within_self]
    refine evP rfl (evBind (within_ok _ _) ?_)
    rw [L_B, L_B, within_less]
    refine evN (by decide) (evBind (within_ok _ _) ?_)
    rw [L_B, L_B, within_x]
    exact Ev.now _
  unfold transhumancelaw4_PathWithin.f
  exact Ev.bind known_ev (evP rfl (evIf (fun _ => hj _) (fun _ => hj _)))
end Go.Proofs.Ytelommablohfoaa.Pure
