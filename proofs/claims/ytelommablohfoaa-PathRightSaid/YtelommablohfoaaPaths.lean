/- What the shared functions of the path statements compute, in plain Lean: each printed function ends in the plain word of Bytes. Conditions: sizes as stated. -/
import Derived.Test.YtelommablohfoaaBytes
import Derived.Test.YtelommablohfoaaXx1
import Derived.Test.YtelommablohfoaaXx2
import Derived.Test.YtelommablohfoaaXx3
import Derived.Test.YtelommablohfoaaXx5
namespace Go.Proofs.Ytelommablohfoaa.M
set_option linter.unusedVariables false
set_option linter.unusedSimpArgs false
open Go.RowKit Go.Proofs.Ytelommablohfoaa.X Go.Proofs.YtelommablohfoaaW.PrintWords Go.Proofs.YtelommablohfoaaW.PrintLast

/-! ### signs, Cut, Right -/
theorem okc_int (c : UInt8) : okc c = true ↔ ((97 ≤ (c.toNat : Int) ∧ (c.toNat : Int) ≤ 122) ∨ (48 ≤ (c.toNat : Int) ∧ (c.toNat : Int) ≤ 57) ∨ (c.toNat : Int) = 46 ∨ (c.toNat : Int) = 45 ∨ (c.toNat : Int) = 95) := by
  unfold okc
  simp only [Bool.or_eq_true, Bool.and_eq_true, decide_eq_true_eq, beq_iff_eq, UInt8.le_iff_toNat_le, ← UInt8.toNat_inj]
  simp only [UInt8.reduceToNat]
  omega
theorem signs_loop (s : ByteArray) (hs : s.size ≤ 4611686018427387904) (d : Nat) : ∀ i : Nat, i + d = s.size →
    Ev (fun k => path_signs.l0 k s s.size i) (((L s).drop i).all okc) := by
  induction d with
  | zero =>
    intro i hi
    have e : (L s).drop i = [] := List.drop_of_length_le (by rw [← L_size]; omega)
    rw [e]
    refine evShift ?_
    simp only [path_signs.l0]
    exact evN (by omega) (Ev.now _)
  | succ d ih =>
    intro i hi
    have hl : i < (L s).length := by rw [← L_size]; omega
    have e : (L s).drop i = (L s).getD i 0 :: (L s).drop (i + 1) := by
      rw [List.drop_eq_getElem_cons hl, List.getD_eq_getElem?_getD, List.getElem?_eq_getElem hl]; rfl
    have hw : wrap64 ((i : Int) + 1) = ((i + 1 : Nat) : Int) := by rw [wrap64_id (by omega) (by omega)]; omega
    have hj : ∀ x : Bool, x = !(okc ((L s).getD i 0)) → Ev (fun k => path_signs.j1 k s s.size i x) (((L s).drop i).all okc) := by
      intro x hx
      refine evShift ?_
      simp only [path_signs.j1, hw]
      rw [e, List.all_cons]
      cases hc : okc ((L s).getD i 0) with
      | true =>
        rw [hc] at hx
        subst hx
        simp only [Bool.not_true, Bool.false_eq_true, if_false, Bool.true_and]
        exact ih (i + 1) (by omega)
      | false =>
        rw [hc] at hx
        subst hx
        simp only [Bool.not_false, if_true, Bool.false_and]
        exact Ev.now _
    have hb := okc_int ((L s).getD i 0)
    rw [← bt_nat] at hb
    refine evShift ?_
    simp only [path_signs.l0]
    refine evP (by omega) (evP (by omega) (evP (by omega) ?_))
    generalize bt s i = b at *
    repeat' (refine evIf (fun _ => ?_) (fun _ => ?_))
    all_goals
      refine hj _ ?_
      cases hc : okc ((L s).getD i 0) with
      | true =>
        have h2 := hb.mp hc
        first
          | rfl
          | (rw [show b = 95 by omega]; rfl)
          | (exfalso; omega)
      | false =>
        have h2 := mt hb.mpr (by rw [hc]; decide)
        first
          | (exfalso; omega)
          | (rw [show (b == 95) = false from beq_eq_false_iff_ne.mpr (by omega)])
theorem signs_ev (s : ByteArray) (hs : s.size ≤ 4611686018427387904) : Ev (fun k => path_signs.f k s) ((L s).all okc) := by
  have h := signs_loop s hs s.size 0 (by omega)
  simpa [path_signs.f] using h

theorem indexByte_noSl {l : List UInt8} (h : NoSl l) : Lib.indexByte l 47 = -1 := by
  induction l with
  | nil => rfl
  | cons c t ih =>
    have hc : (c == 47) = false := by simpa using h c (by simp)
    unfold Lib.indexByte
    rw [hc, ih (fun d hd => h d (by simp [hd]))]
    simp
theorem indexByte_first {w : List UInt8} (t : List UInt8) (h : NoSl w) : Lib.indexByte (w ++ 47 :: t) 47 = w.length := by
  induction w with
  | nil => simp [Lib.indexByte]
  | cons c w ih =>
    have hc : (c == 47) = false := by simpa using h c (by simp)
    have e := ih (fun d hd => h d (by simp [hd]))
    rw [List.cons_append]
    unfold Lib.indexByte
    have hne : ((w.length : Int) == -1) = false := by simp
    rw [hc, e, hne]
    simp
theorem firstSplit (l : List UInt8) : NoSl l ∨ ∃ w t, l = w ++ 47 :: t ∧ NoSl w := by
  induction l with
  | nil => exact .inl (fun c hc => by cases hc)
  | cons c t ih =>
    by_cases hc : c = 47
    · exact .inr ⟨[], t, by rw [hc]; rfl, fun c hc => by cases hc⟩
    · rcases ih with h | ⟨w, u, h, hw⟩
      · exact .inl fun d hd => by
          rcases List.mem_cons.mp hd with rfl | hd
          · exact hc
          · exact h d hd
      · exact .inr ⟨c :: w, u, by rw [h]; rfl, fun d hd => by
          rcases List.mem_cons.mp hd with rfl | hd
          · exact hc
          · exact hw d hd⟩
theorem index_one (s : ByteArray) : stringslite_Index.f s (⟨#[47]⟩ : ByteArray) = some (Lib.indexByte (L s) 47) := rfl
theorem cut_miss (s : ByteArray) (h : NoSl (L s)) : strings_Cut.f s (⟨#[47]⟩ : ByteArray) = some (s, (⟨#[]⟩ : ByteArray), false) := by
  unfold strings_Cut.f stringslite_Cut.f
  rw [index_one, indexByte_noSl h]
  simp
theorem cut_hit (s : ByteArray) (hs : s.size ≤ 4611686018427387904) (w t : List UInt8) (e : L s = w ++ 47 :: t) (h : NoSl w) : strings_Cut.f s (⟨#[47]⟩ : ByteArray) = some (B w, B t, true) := by
  have hl : s.size = w.length + t.length + 1 := by rw [L_size, e]; simp; omega
  have h1 : ((⟨#[47]⟩ : ByteArray).size : Int) = 1 := rfl
  have h2 : wrap64 ((w.length : Int) + 1) = ((w.length + 1 : Nat) : Int) := by rw [wrap64_id (by omega) (by omega)]; omega
  have e1 : s.extract 0 w.length = B w := L_inj (by rw [L_take, L_B, e, List.take_left])
  have e2 : s.extract (w.length + 1) s.size = B t := L_inj (by
    rw [L_drop, L_B, e]
    have : (w ++ 47 :: t) = (w ++ [47]) ++ t := by simp
    rw [this, List.drop_left' (by simp)])
  unfold strings_Cut.f stringslite_Cut.f
  rw [index_one, e, indexByte_first t h]
  simp only [Option.bind_some]
  rw [if_pos (by omega), if_pos (by omega), if_pos (by omega), h1, h2, if_pos (by omega), if_pos (by omega)]
  simp only [Int.toNat_natCast, e1, e2, Option.bind_some]

theorem right_loop (n : Nat) : ∀ s : ByteArray, (L s).length = n → n ≤ 40 → Ev (fun k => path_Right.l0 k s) ((wgo [] (L s)).all okW) := by
  induction n using Nat.strongRecOn with
  | _ n ih =>
    intro s hn h40
    have hsz : s.size ≤ 4611686018427387904 := by rw [L_size]; omega
    have key : ∀ (u v : ByteArray) (m : Bool), strings_Cut.f s (⟨#[47]⟩ : ByteArray) = some (u, v, m) → u.size ≤ s.size → (wgo [] (L s)).all okW = (okW (L u) && (if m = true then (wgo [] (L v)).all okW else true)) → (m = true → (L v).length < n) →
        Ev (fun k => path_Right.l0 k s) ((wgo [] (L s)).all okW) := by
      intro u v m hc hu he hv
      rw [he]
      refine Ev.step (f := fun k => (if u.toList = ([] : List UInt8) then (some false) else (if u.toList = ([46] : List UInt8) then (some false) else (if u.toList = ([46, 46] : List UInt8) then (some false) else ((path_signs.f k u).bind fun b => (if b = true then (if m = true then (path_Right.l0 k v) else (some true)) else (some false))))))) (fun k => by simp only [path_Right.l0, hc, Option.bind_some]) ?_
      unfold okW
      simp only [L_toList]
      by_cases c1 : L u = []
      · simp only [if_pos c1, c1]; exact Ev.now _
      by_cases c2 : L u = [46]
      · simp only [if_neg c1, if_pos c2, c2]; exact Ev.now _
      by_cases c3 : L u = [46, 46]
      · simp only [if_neg c1, if_neg c2, if_pos c3, c3]; exact Ev.now _
      simp only [if_neg c1, if_neg c2, if_neg c3, show (L u == []) = false by simpa using c1, show (L u == [46]) = false by simpa using c2, show (L u == [46, 46]) = false by simpa using c3, Bool.not_false, Bool.true_and]
      refine Ev.bind (signs_ev u (by omega)) ?_
      cases hb : (L u).all okc with
      | false => simp only [Bool.false_eq_true, if_false, Bool.false_and]; exact Ev.now _
      | true =>
        simp only [if_true, Bool.true_and]
        cases m with
        | true => simp only [if_true]; exact ih _ (hv rfl) v rfl (by have := hv rfl; omega)
        | false => simp only [Bool.false_eq_true, if_false]; exact Ev.now _
    rcases firstSplit (L s) with h | ⟨w, t, h, hw⟩
    · refine key s (⟨#[]⟩ : ByteArray) false (cut_miss s h) (Nat.le_refl _) ?_ (by simp)
      rw [wgo_noSl h]; simp
    · refine key (B w) (B t) true (cut_hit s hsz w t h hw) ?_ ?_ ?_
      · rw [L_size, L_size, L_B, h]; simp
      · rw [h, wgo_first t hw, L_B, L_B]; simp
      · intro _; rw [L_B, ← hn, h]; simp; omega
theorem right_ev (s : ByteArray) : Ev (fun k => path_Right.f k s) (right (L s)) := by
  unfold path_Right.f right
  rw [L_size]
  by_cases h1 : ((L s).length : Int) < 1
  · simp only [if_pos h1]
    have : L s = [] := List.eq_nil_of_length_eq_zero (by omega)
    rw [this]
    exact Ev.now _
  · simp only [if_neg h1]
    by_cases h2 : ((L s).length : Int) > 40
    · simp only [if_pos h2]
      rw [show decide ((L s).length ≤ 40) = false by simp; omega, Bool.false_and]
      exact Ev.now _
    · simp only [if_neg h2]
      rw [show decide ((L s).length ≤ 40) = true by simp; omega, Bool.true_and]
      exact right_loop _ s rfl (by omega)
end Go.Proofs.Ytelommablohfoaa.M
