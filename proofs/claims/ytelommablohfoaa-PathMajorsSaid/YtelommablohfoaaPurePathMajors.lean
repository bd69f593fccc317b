/- Of any made path the statement PathMajors holds: its root and its major are what the document says; with the major behind it the root is the path again; with a major laid behind it, the path has that major. No condition beside the arguments' kinds. -/
import Derived.Test.YtelommablohfoaaPaths4
import Derived.Test.YtelommablohfoaaXx8
namespace Go.Proofs.Ytelommablohfoaa.Pure
set_option linter.unusedVariables false
set_option linter.unusedSimpArgs false
open Go.RowKit Go.Proofs.Ytelommablohfoaa.X Go.Proofs.Ytelommablohfoaa.M Go.Proofs.YtelommablohfoaaW.PrintWords Go.Proofs.YtelommablohfoaaW.PrintLast

theorem major_back {l : List UInt8} (h : (major l).2 > 0) : (major l).1 ++ [47, 118] ++ digN (major l).2.toNat = l ∧ (major l).2 ≤ 999999 := by
  cases hl : lastSplit l with
  | none => rw [major_none (lastSplit_none hl)] at h; exact absurd h (by simp)
  | some q =>
    obtain ⟨a, w⟩ := q
    obtain ⟨e, hn⟩ := lastSplit_some hl
    rw [e, major_some hn] at h ⊢
    by_cases hc : w.head? = some 118 ∧ (num (w.drop 1)).2 = true ∧ 2 ≤ (num (w.drop 1)).1 ∧ (num (w.drop 1)).1 ≤ 999999
    · rw [if_pos hc] at h ⊢
      obtain ⟨d, rfl⟩ : ∃ d, w = 118 :: d := by
        rcases w with _ | ⟨c, d⟩
        · simp at hc
        · have := hc.1; simp at this; exact ⟨d, by rw [this]⟩
      have := num_canon (d := d) hc.2.1
      refine ⟨?_, hc.2.2.2⟩
      simp only [List.drop_one, List.tail_cons]
      rw [this.1]
      simp
    · rw [if_neg hc] at h
      exact absurd h (by simp)
theorem major_zero {l : List UInt8} (h : (major l).2 = 0) : (major l).1 = l := by
  cases hl : lastSplit l with
  | none => rw [major_none (lastSplit_none hl)]
  | some q =>
    obtain ⟨a, w⟩ := q
    obtain ⟨e, hn⟩ := lastSplit_some hl
    rw [e, major_some hn] at h ⊢
    by_cases hc : w.head? = some 118 ∧ (num (w.drop 1)).2 = true ∧ 2 ≤ (num (w.drop 1)).1 ∧ (num (w.drop 1)).1 ≤ 999999
    · rw [if_pos hc] at h
      have := hc.2.2.1
      simp only at h
      omega
    · rw [if_neg hc]
theorem major_nn (l : List UInt8) : 0 ≤ (major l).2 := by
  cases hl : lastSplit l with
  | none => rw [major_none (lastSplit_none hl)]; exact Int.le_refl _
  | some q =>
    obtain ⟨a, w⟩ := q
    obtain ⟨e, hn⟩ := lastSplit_some hl
    rw [e, major_some hn]
    split
    · rename_i hc; have := hc.2.2.1; simp only; omega
    · exact Int.le_refl _
theorem major_made (q : List UInt8) (j : Nat) (h0 : 2 ≤ j) (h1 : j ≤ 99) : major (q ++ [47, 118] ++ digN j) = (q, (j : Int)) := by
  have e : q ++ [47, 118] ++ digN j = q ++ 47 :: (118 :: digN j) := by simp
  have hn : NoSl (118 :: digN j) := by
    intro c hc
    rcases List.mem_cons.mp hc with rfl | hc
    · decide
    · exact digN_noSl j c hc
  rw [e, major_some hn]
  simp only [List.head?_cons, List.drop_one, List.tail_cons]
  rw [num_digN j (by omega), if_pos ⟨trivial, rfl, by simp only; omega, by simp only; omega⟩]
theorem PathMajors : transhumancelaw4_PathMajors.Pure := by
  intro n m _ _
  refine Ev.rounds ?_
  have hz := mk_size n
  have hy := mk_size m
  have hh := mk_head n
  obtain ⟨j, hj⟩ : ∃ j : Nat, (j : Int) = 2 + m % 98 := ⟨(2 + m % 98).toNat, by omega⟩
  have ew : wrap64 (2 + m % 98) = (j : Int) := by rw [wrap64_id (by omega) (by omega)]; omega
  have hd : (digN j).length ≤ 2 := digN_short 1 j (by omega)
  have hdz : (B (digN j)).size = (digN j).length := by rw [L_size, L_B]
  have et : (B (mk m) ++ (⟨#[47, 118]⟩ : ByteArray)) ++ B (digN j) = B (mk m ++ [47, 118] ++ digN j) := L_inj (by simp only [L_append, L_B]; rfl)
  have hth : (L (B (mk m ++ [47, 118] ++ digN j))).head? ≠ some 47 := by
    rw [L_B]
    have h1 := right_head (mk_right m)
    have h2 := right_ne (mk_right m)
    rcases h : mk m with _ | ⟨c, d⟩
    · exact absurd h h2
    · rw [h] at h1; simpa using h1
  have htz : (B (mk m ++ [47, 118] ++ digN j)).size ≤ 1000 := by
    rw [L_size, L_B]
    rw [L_size, L_B] at hy
    simp
    omega
  have hmj : major (L (B (mk m ++ [47, 118] ++ digN j))) = (mk m, (j : Int)) := by rw [L_B]; exact major_made _ _ (by omega) (by omega)
  have hj0 : Ev (fun k => transhumancelaw4_PathMajors.j0 k m (j : Int) (B (mk m ++ [47, 118] ++ digN j)) (B (mk m)) (j : Int) false) true := by
    refine evShift ?_
    simp only [transhumancelaw4_PathMajors.j0]
    refine evN (by decide) (evIf (fun _ => Ev.now _) (fun _ => Ev.bind (make_ev m) (evP rfl (evNow (by simp)))))
  unfold transhumancelaw4_PathMajors.f
  refine Ev.bind known_ev (evP rfl (Ev.bind (make_ev n) (Ev.bind (major_ev _ (by omega) hh) (Ev.bind (ref_major_ev _ (by omega)) ?_))))
  refine evBind (within_int m 98 (by omega) (by omega)) (Ev.bind (make_ev m) (evP (by omega) ?_))
  rw [ew]
  refine Ev.bind (digits_ev j (by omega)) (evP (by omega) ?_)
  rw [et]
  refine Ev.bind (major_ev _ (by omega) hth) ?_
  simp only [hmj]
  refine evP trivial (evP trivial ?_)
  have hml := major_len (L (B (mk n)))
  have hmz : (B (major (L (B (mk n)))).1).size = (major (L (B (mk n)))).1.length := by rw [L_size, L_B]
  have hLz : (L (B (mk n))).length ≤ 40 := by rw [← L_size]; exact hz
  have hdig : ∀ h : (major (L (B (mk n)))).2 > 0, ∃ i : Nat, (i : Int) = (major (L (B (mk n)))).2 ∧ i ≤ 999999 ∧ (major (L (B (mk n)))).1 ++ [47, 118] ++ digN i = L (B (mk n)) := by
    intro h
    have h2 := major_back h
    exact ⟨_, Int.toNat_of_nonneg (by omega), by omega, h2.1⟩
  have hsome : ∀ h : (major (L (B (mk n)))).2 > 0, Ev (fun k => if (B (major (L (B (mk n)))).1).size + 2 ≤ 9223372036854775807 then ((transhumancelaw4_digits.f k (major (L (B (mk n)))).2).bind fun t193 => (if (B (major (L (B (mk n)))).1).size + 2 + t193.size ≤ 9223372036854775807 then (transhumancelaw4_PathMajors.j0 k m (j : Int) (B (mk m ++ [47, 118] ++ digN j)) (B (mk m)) (j : Int) (((B (major (L (B (mk n)))).1 ++ (⟨#[47, 118]⟩ : ByteArray)) ++ t193).toList != (B (mk n)).toList)) else (none))) else (none)) true := by
    intro h
    obtain ⟨i, hi, hi2, hi3⟩ := hdig h
    have hiz : (B (digN i)).size ≤ i + 1 := by rw [L_size, L_B]; exact digN_len i
    rw [← hi]
    refine evP (by omega) (Ev.bind (digits_ev i (by omega)) (evP (by omega) ?_))
    have e : ((B (major (L (B (mk n)))).1 ++ (⟨#[47, 118]⟩ : ByteArray)) ++ B (digN i)).toList = (B (mk n)).toList := by
      rw [L_toList, L_toList, L_append, L_append, L_B, L_B]
      exact hi3
    rw [e]
    simp only [bne_self_eq_false]
    exact hj0
  refine evIf (fun h0 => evP ?_ (evN (by omega) hj0)) (fun h0 => evP ?_ (hsome ?_))
  · rw [L_toList, L_toList, L_B, major_zero h0]
  · have := major_nn (L (B (mk n))); omega
  · have := major_nn (L (B (mk n))); omega
end Go.Proofs.Ytelommablohfoaa.Pure
