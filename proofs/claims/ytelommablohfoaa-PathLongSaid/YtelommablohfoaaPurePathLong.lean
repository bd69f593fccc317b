/- The statement PathLong holds: a text of letters, whole or with one slash inside, is a path just where it has no more than forty bytes. No condition beside the arguments' kinds. -/
import Derived.Test.YtelommablohfoaaPaths4
import Derived.Test.YtelommablohfoaaXx16
namespace Go.Proofs.Ytelommablohfoaa.Pure
set_option linter.unusedVariables false
set_option linter.unusedSimpArgs false
open Go.RowKit Go.Proofs.Ytelommablohfoaa.X Go.Proofs.Ytelommablohfoaa.M Go.Proofs.YtelommablohfoaaW.PrintWords Go.Proofs.YtelommablohfoaaW.PrintLast

def alph : List UInt8 := [97, 98, 99, 100, 101, 102, 103, 104, 105, 106, 107, 108, 109, 110, 111, 112, 113, 114, 115, 116, 117, 118, 119, 120, 121, 122, 97, 98, 99, 100, 101, 102, 103, 104, 105, 106, 107, 108, 109, 110, 111, 112, 113, 114, 115, 116, 117, 118, 119, 120, 121, 122]
def Low (l : List UInt8) : Prop := ∀ c ∈ l, 97 ≤ c.toNat ∧ c.toNat ≤ 122
theorem alph_low : Low alph := by
  have : ∀ c ∈ alph, 97 ≤ c.toNat ∧ c.toNat ≤ 122 := by decide
  exact this
theorem Low.take {l : List UInt8} (h : Low l) (n : Nat) : Low (l.take n) := fun c hc => h c (List.mem_of_mem_take hc)
theorem Low.drop {l : List UInt8} (h : Low l) (n : Nat) : Low (l.drop n) := fun c hc => h c (List.mem_of_mem_drop hc)
theorem Low.noSl {l : List UInt8} (h : Low l) : NoSl l := by
  intro c hc e
  subst e
  exact absurd (h 47 hc).1 (by decide)
theorem Low.okW {l : List UInt8} (h : Low l) (hne : l ≠ []) : okW l = true := by
  have h1 : l.all okc = true := by
    rw [List.all_eq_true]
    intro c hc
    have := h c hc
    rw [okc_int]
    omega
  have h2 : ∀ x : List UInt8, x.head? = some 46 → l ≠ x := by
    intro x hx e
    subst e
    rcases l with _ | ⟨c, t⟩
    · cases hx
    · simp at hx
      subst hx
      exact absurd (h 46 (by simp)).1 (by decide)
  unfold M.okW
  rw [h1, show (l == []) = false by simpa using hne, show (l == [46]) = false by simpa using h2 [46] rfl, show (l == [46, 46]) = false by simpa using h2 [46, 46] rfl]
  rfl
theorem PathLong : transhumancelaw4_PathLong.Pure := by
  intro n cut _ _
  refine Ev.rounds ?_
  unfold transhumancelaw4_PathLong.f
  obtain ⟨k, hk⟩ : ∃ k : Nat, (k : Int) = 36 + n % 9 := ⟨(36 + n % 9).toNat, by omega⟩
  obtain ⟨j, hj⟩ : ∃ j : Nat, (j : Int) = 1 + cut % ((k : Int) - 2) := ⟨(1 + cut % ((k : Int) - 2)).toNat, by
    have := Int.emod_nonneg cut (show (k : Int) - 2 ≠ 0 by omega)
    omega⟩
  have hj1 : 1 ≤ j := by
    have := Int.emod_nonneg cut (show (k : Int) - 2 ≠ 0 by omega)
    omega
  have hj2 : j + 2 ≤ k := by
    have := Int.emod_lt_of_pos cut (show 0 < (k : Int) - 2 by omega)
    omega
  have e1 : wrap64 (36 + n % 9) = (k : Int) := by rw [wrap64_id (by omega) (by omega)]; omega
  have e2 : wrap64 ((k : Int) - 2) = (k : Int) - 2 := wrap64_id (by omega) (by omega)
  have e3 : wrap64 (1 + cut % ((k : Int) - 2)) = (j : Int) := by rw [← hj]; exact wrap64_id (by omega) (by omega)
  have e4 : wrap64 ((j : Int) + 1) = ((j + 1 : Nat) : Int) := by rw [wrap64_id (by omega) (by omega)]; omega
  have hal : ∀ a : ByteArray, a = B alph → (L (a.extract 0 k)) = alph.take k := by rintro a rfl; rw [L_take, L_B]
  refine Ev.bind known_ev (evP rfl (evBind (within_int n 9 (by omega) (by omega)) ?_))
  simp only [e1, e2]
  refine evP (by omega) (evP (by omega) (evBind (within_int cut _ (by omega) (by omega)) ?_))
  simp only [e3, e4, Int.toNat_natCast]
  generalize hA : (⟨#[97, 98, 99, 100, 101, 102, 103, 104, 105, 106, 107, 108, 109, 110, 111, 112, 113, 114, 115, 116, 117, 118, 119, 120, 121, 122, 97, 98, 99, 100, 101, 102, 103, 104, 105, 106, 107, 108, 109, 110, 111, 112, 113, 114, 115, 116, 117, 118, 119, 120, 121, 122]⟩ : ByteArray) = A
  have hA2 := hal A hA.symm
  generalize hS : A.extract 0 k = S at *
  have hl52 : alph.length = 52 := by decide
  have hSl : (L S).length = k := by rw [hA2, List.length_take]; omega
  have hSz : S.size = k := by rw [L_size]; exact hSl
  have hSlow : Low (L S) := by rw [hA2]; exact alph_low.take k
  have hz1 : (S.extract 0 j).size = j := by rw [L_size, L_take, List.length_take]; omega
  have hL2 : L (S.extract (j + 1) S.size) = (L S).drop (j + 1) := L_drop S (j + 1)
  have hz2 : (S.extract (j + 1) S.size).size = k - (j + 1) := by rw [L_size, hL2, List.length_drop, hSl]
  have hLt : L (((S.extract 0 j) ++ (⟨#[47]⟩ : ByteArray)) ++ (S.extract (j + 1) S.size)) = (L S).take j ++ 47 :: (L S).drop (j + 1) := by
    rw [L_append, L_append, L_take, hL2]
    simp [L]
  have hr1 : right (L S) = decide ((k : Int) ≤ 40) := by
    unfold right
    rw [wgo_noSl hSlow.noSl, hSl, List.nil_append]
    simp only [List.all_cons, List.all_nil, Bool.and_true]
    rw [hSlow.okW (by intro e; rw [e] at hSl; simp at hSl; omega), Bool.and_true]
    rw [Bool.eq_iff_iff, decide_eq_true_eq, decide_eq_true_eq]
    omega
  have hr2 : right ((L S).take j ++ 47 :: (L S).drop (j + 1)) = decide ((k : Int) ≤ 40) := by
    have h1 := (hSlow.take j).noSl
    have h2 := (hSlow.drop (j + 1)).noSl
    unfold right
    rw [wgo_first _ h1, wgo_noSl h2]
    simp only [List.all_cons, List.all_nil, Bool.and_true, List.nil_append]
    have hne1 : (L S).take j ≠ [] := by
      intro e
      have h9 : ((L S).take j).length = 0 := by rw [e]; rfl
      rw [List.length_take, hSl] at h9
      omega
    have hne2 : (L S).drop (j + 1) ≠ [] := by
      intro e
      have h9 : ((L S).drop (j + 1)).length = 0 := by rw [e]; rfl
      rw [List.length_drop, hSl] at h9
      omega
    rw [(hSlow.take j).okW hne1, (hSlow.drop (j + 1)).okW hne2]
    simp only [Bool.and_true, List.length_append, List.length_cons, List.length_take, List.length_drop]
    rw [Bool.eq_iff_iff, decide_eq_true_eq, decide_eq_true_eq]
    omega
  refine evP (by omega) (evP (by omega) (evP (by omega) (evP (by omega) (evP (by omega) (evP (by omega) ?_)))))
  refine Ev.bind (right_ev S) ?_
  rw [hr1]
  refine evP (by simp) (Ev.bind (right_ev _) ?_)
  rw [hLt, hr2]
  exact evNow (by simp)
end Go.Proofs.Ytelommablohfoaa.Pure
