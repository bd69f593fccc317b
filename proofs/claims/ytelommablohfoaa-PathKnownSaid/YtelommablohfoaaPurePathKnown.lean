/- The statement PathKnown holds: of fourteen texts, that are paths, the roots and the majors are as they are written there; of twelve texts none is a path. No condition beside the argument's kind. -/
import Derived.Test.YtelommablohfoaaPaths4
import Derived.Test.YtelommablohfoaaXx15
namespace Go.Proofs.Ytelommablohfoaa.Pure
set_option linter.unusedVariables false
set_option linter.unusedSimpArgs false
open Go.RowKit Go.Proofs.Ytelommablohfoaa.X Go.Proofs.Ytelommablohfoaa.M Go.Proofs.YtelommablohfoaaW.PrintWords Go.Proofs.YtelommablohfoaaW.PrintLast

def ps : List (List UInt8) := [[97], [97, 47, 118, 50], [118, 50], [97, 47, 118, 49], [97, 47, 118, 48], [97, 47, 118, 48, 50], [97, 47, 118, 50, 47, 98], [97, 47, 118, 57, 57, 57, 57, 57, 57], [97, 47, 118, 49, 48, 48, 48, 48, 48, 48], [97, 47, 118], [97, 47, 118, 118, 50], [97, 46, 98, 47, 99, 45, 100, 95, 101], [46, 46, 46], [97, 47, 118, 49, 48, 47, 118, 50]]
def rs : List (List UInt8) := [[97], [97], [118, 50], [97, 47, 118, 49], [97, 47, 118, 48], [97, 47, 118, 48, 50], [97, 47, 118, 50, 47, 98], [97], [97, 47, 118, 49, 48, 48, 48, 48, 48, 48], [97, 47, 118], [97, 47, 118, 118, 50], [97, 46, 98, 47, 99, 45, 100, 95, 101], [46, 46, 46], [97, 47, 118, 49, 48]]
def ns : List Int := [0, 2, 0, 0, 0, 0, 0, 999999, 0, 0, 0, 0, 0, 2]
def bs : List (List UInt8) := [[], [46], [46, 46], [97, 47], [47, 97], [97, 47, 47, 98], [65], [97, 32, 98], [97, 47, 46, 46], [97, 47, 46, 47, 98], [97, 64, 98], [97, 92, 98]]
theorem ps_ok : ∀ i, i < 14 → right (ps.getD i []) = true ∧ major (ps.getD i []) = (rs.getD i [], ns.getD i 0) := by decide
theorem bs_ok : ∀ i, i < 12 → right (bs.getD i []) = false := by decide
theorem PathKnown : transhumancelaw4_PathKnown.Pure := by
  intro n _
  refine Ev.rounds ?_
  unfold transhumancelaw4_PathKnown.f
  refine Ev.bind known_ev (evP rfl (evBind (a := ps.map B) rfl (evBind (a := rs.map B) rfl (evBind (a := ns) rfl (evBind (a := bs.map B) rfl ?_)))))
  obtain ⟨i, hi⟩ : ∃ i : Nat, (i : Int) = n % 14 := ⟨(n % 14).toNat, by omega⟩
  obtain ⟨j, hj⟩ : ∃ j : Nat, (j : Int) = wrap64 (Int.tdiv n 14) % 12 := ⟨(wrap64 (Int.tdiv n 14) % 12).toNat, by omega⟩
  have e1 : transhumancelaw4_within.f n 14 = some (i : Int) := by rw [within_int n 14 (by omega) (by omega), hi]
  have e2 : transhumancelaw4_within.f (wrap64 (Int.tdiv n 14)) 12 = some (j : Int) := by rw [within_int _ 12 (by omega) (by omega), hj]
  have h14 : i < 14 := by omega
  have h12 : j < 12 := by omega
  obtain ⟨h1, h2⟩ := ps_ok i h14
  have h3 := bs_ok j h12
  refine evBind e1 (evP (by omega) (evP (by show (i : Int) < 14; omega) ?_))
  rw [rdOf_map ps i h14, rdOf_map rs i h14]
  have hlen := right_len h1
  have hz : (B (ps.getD i [])).size ≤ 40 := by rw [L_size, L_B]; exact hlen
  refine Ev.bind (major_ev _ (by omega) (by rw [L_B]; exact right_head h1)) (Ev.bind (right_ev _) ?_)
  rw [L_B, h1, h2]
  refine evP rfl (evP (by show (i : Int) < 14; omega) (evP rfl (evP (by show (i : Int) < 14; omega) (evP rfl ?_))))
  refine evBind e2 (evP (by omega) (evP (by show (j : Int) < 12; omega) ?_))
  rw [rdOf_map bs j h12]
  refine Ev.bind (right_ev _) ?_
  rw [L_B, h3]
  exact Ev.now _
end Go.Proofs.Ytelommablohfoaa.Pure
