/- Whether any bytes are a path is what the document says; so are those of a made path with a byte turned, others laid in: the pure law of PathRight. No condition beside the arguments' kinds and the lengths that the reading gives. -/
import Derived.Test.YtelommablohfoaaPaths4
import Derived.Test.YtelommablohfoaaXr
namespace Go.Proofs.Ytelommablohfoaa.Pure
set_option linter.unusedVariables false
set_option linter.unusedSimpArgs false
open Go.RowKit Go.Proofs.Ytelommablohfoaa.X Go.Proofs.Ytelommablohfoaa.M Go.Proofs.YtelommablohfoaaW.PrintWords Go.Proofs.YtelommablohfoaaW.PrintLast
theorem rights_loop (s : ByteArray) (hs : right (L s) = true) (l : List ByteArray) (hl : l.length ≤ 1000) (hz : ∀ i (h : i < l.length), l[i].size ≤ 1000000) (d : Nat) : ∀ i : Nat, i + d = l.length → Ev (fun k => transhumancelaw4_PathRight.l0 k s l (i : Int)) true := by
  induction d with
  | zero =>
    intro i hi
    refine evShift ?_
    simp only [transhumancelaw4_PathRight.l0]
    exact evN (by omega) (Ev.bind (right_ev s) (evNow (by rw [hs])))
  | succ d ih =>
    intro i hi
    have hil : i < l.length := by omega
    have hw : wrap64 ((i : Int) + 1) = ((i + 1 : Nat) : Int) := by rw [wrap64_id (by omega) (by omega)]; omega
    have e : rdOf ByteArray.empty l (i : Int) = l[i] := by rw [rdOf_nat, List.getD_eq_getElem?_getD, List.getElem?_eq_getElem hil]; rfl
    have hsz := hz i hil
    refine evShift ?_
    simp only [transhumancelaw4_PathRight.l0, hw, e]
    refine evP (by omega) (evP (by omega) (Ev.bind (right_ev _) (Ev.bind (ref_right_ev _ (by omega)) ?_)))
    simp only [bne_self_eq_false, Bool.false_eq_true, if_false]
    exact ih (i + 1) (by omega)
theorem PathRight : transhumancelaw4_PathRight.Pure := by
  intro n a b c r h1 h2 h3 h4 hr
  refine Ev.rounds ?_
  unfold transhumancelaw4_PathRight.f
  refine Ev.bind known_ev (evP rfl (evIf (fun _ => Ev.now _) (fun hl => ?_)))
  have hz := mk_size n
  have hne := right_ne (mk_right n)
  have hpos : 1 ≤ (B (mk n)).size := by
    rw [L_size, L_B]
    exact List.length_pos_iff.mpr hne
  have hright : right (L (B (mk n))) = true := by rw [L_B]; exact mk_right n
  refine Ev.bind (make_ev n) ?_
  generalize B (mk n) = s at *
  have hbl : (bytesI s).length = s.size := by
    unfold bytesI
    rw [List.length_map, Array.length_toList]
    rfl
  have e1 : 0 ≤ a % ((bytesI s).length : Int) ∧ a % ((bytesI s).length : Int) < ((bytesI s).length : Int) := ⟨Int.emod_nonneg _ (by omega), Int.emod_lt_of_pos _ (by omega)⟩
  have e2 : 0 ≤ c % ((s.size : Int) + 1) ∧ c % ((s.size : Int) + 1) < ((s.size : Int) + 1) := ⟨Int.emod_nonneg _ (by omega), Int.emod_lt_of_pos _ (by omega)⟩
  have hy := within_int a ((bytesI s).length : Int) (by omega) (by omega)
  have hz2 := within_int c ((s.size : Int) + 1) (by omega) (by omega)
  generalize a % ((bytesI s).length : Int) = y at *
  generalize c % ((s.size : Int) + 1) = z at *
  have x1 : (s.extract 0 z.toNat).size ≤ 40 := by rw [L_size, L_take, List.length_take, ← L_size]; omega
  have x2 : (s.extract z.toNat s.size).size ≤ 40 := by rw [L_size, L_drop, List.length_drop, ← L_size]; omega
  refine evBind rfl (evBind hy (evP e1.1 (evP e1.2 ?_)))
  rw [wrap64_id (show -9223372036854775808 ≤ ((s.size : Int) + 1) by omega) (by omega)]
  refine evBind hz2 (evP e2.1 (evP (by omega) (evP (by omega) (evP (by omega) (evP (by omega) (evP (by omega) (evP (by omega) (evP (by omega) (evP (by omega) ?_)))))))))
  refine rights_loop s hright _ (by simp) ?_ 10 0 rfl
  intro i hi
  have q1 := strOfNums_size ((bytesI s).set y.toNat ((rd (bytesI s) y + b) % 256))
  rw [List.length_set] at q1
  have s1 : (⟨#[47]⟩ : ByteArray).size = 1 := rfl
  simp only [List.length_cons, List.length_nil] at hi
  match i, hi with
  | 0, _ => show (strOfNums _).size ≤ 1000000; omega
  | 1, _ => show (s.extract 0 z.toNat).size ≤ 1000000; omega
  | 2, _ => show ((s.extract 0 z.toNat ++ r) ++ s.extract z.toNat s.size).size ≤ 1000000; rw [ByteArray.size_append, ByteArray.size_append]; omega
  | 3, _ => show r.size ≤ 1000000; omega
  | 4, _ => show (s ++ (⟨#[47]⟩ : ByteArray)).size ≤ 1000000; rw [ByteArray.size_append, s1]; omega
  | 5, _ => show ((⟨#[47]⟩ : ByteArray) ++ s).size ≤ 1000000; rw [ByteArray.size_append, s1]; omega
  | 6, _ => show ((((s ++ (⟨#[47]⟩ : ByteArray)) ++ s) ++ (⟨#[47]⟩ : ByteArray)) ++ s).size ≤ 1000000; rw [ByteArray.size_append, ByteArray.size_append, ByteArray.size_append, ByteArray.size_append, s1]; omega
  | 7, _ => show (⟨#[97, 47, 46, 47, 98]⟩ : ByteArray).size ≤ 1000000; decide
  | 8, _ => show (⟨#[46, 46]⟩ : ByteArray).size ≤ 1000000; decide
  | 9, _ => show (⟨#[]⟩ : ByteArray).size ≤ 1000000; decide
end Go.Proofs.Ytelommablohfoaa.Pure
