/- The pure law of TextLines. -/
import Derived.Test.YtkejnnnedgmhiaaDoorXx15
import Derived.Test.YtkejnnnedgmhiaaDoorTText
namespace Go.Proofs.YtkejnnnedgmhiaaDoor.Pure
open Go.RowKit Go.Proofs.YtkejnnnedgmhiaaDoorW.PrintWords Go.Proofs.YtkejnnnedgmhiaaDoor.X Go.Proofs.YtkejnnnedgmhiaaDoor.M
theorem lines_loop (s : ByteArray) (hs : s.size ≤ 4611686018427387) (d : Nat) : ∀ i : Nat, i + d = s.size + 1 → Ev (fun k => transhumancelaw1_TextLines.l0 k s (1 + cn s i) ((i : Int) - lst s i) i) true := by
  induction d with
  | zero =>
    intro i hi
    refine evShift ?_
    simp only [transhumancelaw1_TextLines.l0]
    exact evN (by omega) (Ev.now _)
  | succ d ih =>
    intro i hi
    have h1 := lst_range s i
    have h2 := cn_range s i
    have hI := ih (i + 1) (by omega)
    have hw : wrap64 ((i : Int) + 1) = ((i + 1 : Nat) : Int) := by rw [wrap64_id (by omega) (by omega)]; omega
    refine evShift ?_
    simp only [transhumancelaw1_TextLines.l0]
    refine evP (by omega) (Ev.bind (place_ev s hs i (by omega)) ?_)
    simp only [beq_self_eq_true, Bool.not_true, Bool.or_self, Bool.false_eq_true, if_false]
    refine evIf (fun h3 => evP (by omega) (evIf (fun h4 => ?_) (fun h4 => ?_))) (fun h3 => ?_)
    · rw [hw, wrap64_id (by omega) (by omega)]
      have e1 : cn s (i + 1) = cn s i + 1 := by
        show cn s i + (if bt s i = 10 then 1 else 0) = cn s i + 1
        rw [if_pos h4]
      have e2 : lst s (i + 1) = i := by
        show (if bt s i = 10 then (i : Int) else lst s i) = i
        rw [if_pos h4]
      rw [e1, e2] at hI
      have e3 : (1 : Int) + (cn s i + 1) = 1 + cn s i + 1 := by omega
      have e4 : ((i + 1 : Nat) : Int) - (i : Int) = 1 := by omega
      rw [e3, e4] at hI
      exact hI
    · rw [hw, wrap64_id (by omega) (by omega)]
      have e1 : cn s (i + 1) = cn s i := by
        show cn s i + (if bt s i = 10 then 1 else 0) = cn s i
        rw [if_neg h4]; omega
      have e2 : lst s (i + 1) = lst s i := by
        show (if bt s i = 10 then (i : Int) else lst s i) = lst s i
        rw [if_neg h4]
      rw [e1, e2] at hI
      have e4 : ((i + 1 : Nat) : Int) - lst s i = (i : Int) - lst s i + 1 := by omega
      rw [e4] at hI
      exact hI
    · rw [hw]
      have e0 : i = s.size := by omega
      refine evShift ?_
      simp only [transhumancelaw1_TextLines.l0]
      exact evN (by omega) (Ev.now _)
theorem TextLines : transhumancelaw1_TextLines.Pure := by
  intro l0 hmax hsz hwf
  obtain ⟨s, hE, z1, z2, _⟩ := plain_ev l0 200 (by omega) (by omega)
  have h : Ev (fun k => transhumancelaw1_TextLines.f k l0) true := by
    unfold transhumancelaw1_TextLines.f
    refine Ev.bind known_ev ?_
    refine evP rfl (evIf (fun _ => Ev.now _) (fun _ => Ev.bind hE ?_))
    exact lines_loop s (by omega) (s.size + 1) 0 (by omega)
  exact h.rounds
end Go.Proofs.YtkejnnnedgmhiaaDoor.Pure
