/- The document's Unquote: what it computes, in plain Lean. Conditions: sizes as stated. -/
import Derived.Test.YtkejnnnedgmhiaaDoorXx13
import Derived.Test.YtkejnnnedgmhiaaDoorTQuote
namespace Go.Proofs.YtkejnnnedgmhiaaDoor.M
set_option linter.unusedVariables false
set_option linter.unusedSimpArgs false
open Go.RowKit Go.Proofs.YtkejnnnedgmhiaaDoorW.PrintWords Go.Proofs.YtkejnnnedgmhiaaDoor.X
theorem one_at (s : ByteArray) (i : Nat) (h : i < (L s).length) : L (s.extract i (i + 1)) = [(L s).getD i 0] := by
  rw [L_extract, getD_drop h, show i + 1 - i = 1 by omega]; rfl
theorem ref_unq_loop (s : ByteArray) (hs : s.size ≤ 1000000000000) (d : Nat) : ∀ (i : Nat) (acc : List UInt8), s.size ≤ i + d → i ≤ s.size → acc.length ≤ i →
    Ev (fun k => transhumanceref1_Unquote.l0 k s (B acc) (i : Int)) (R3 (unq ((L s).drop i) acc (i : Int))) := by
  induction d using Nat.strongRecOn with
  | _ d ih =>
    intro i acc hd hi ha
    have hBs := B_size acc
    by_cases hlt : i < s.size
    · have hl : i < (L s).length := by rw [← L_size]; exact hlt
      have hb := bt_nat s i
      have hg := getD_drop hl
      have hx := one_at s i hl
      have hw : wrap64 ((i : Int) + 1) = ((i + 1 : Nat) : Int) := by rw [wrap64_id (by omega) (by omega)]; omega
      rw [hg]
      generalize (L s).getD i 0 = c at *
      have hput : ∀ t : ByteArray, ∀ e : UInt8, L t = [e] → B acc ++ t = B (acc ++ [e]) := by
        intro t e ht
        apply L_inj; rw [L_append, L_B, L_B, ht]
      have hj2 : ∀ b : Bool, c ≠ 34 → (b = true ↔ ((c.toNat : Int) < 32 ∨ (c.toNat : Int) > 126)) → Ev (fun k => transhumanceref1_Unquote.j2 k s (B acc) (i : Int) b) (R3 (unq (c :: (L s).drop (i + 1)) acc (i : Int))) := by
        intro b hne hbad
        refine evShift ?_
        simp only [transhumanceref1_Unquote.j2, hb, hw, Int.toNat_natCast]
        refine evIf (fun h => ?_) (fun h => ?_)
        · rw [unq_bad c _ acc _ (hbad.mp h)]
          exact Ev.now _
        · have hr := mt hbad.mpr h
          refine evP (by omega) (evP (by omega) (evIf (fun h2 => ?_) (fun h2 => ?_)))
          · have e : c = 92 := (u8_int (b := 92)).mp h2
            subst e
            by_cases hlt2 : i + 1 < s.size
            · have hl2 : i + 1 < (L s).length := by rw [← L_size]; exact hlt2
              have hb2 := bt_nat s (i + 1)
              have hg2 := getD_drop hl2
              have hx2 := one_at s (i + 1) hl2
              have hw2 : wrap64 (((i + 1 : Nat) : Int) + 1) = ((i + 2 : Nat) : Int) := by rw [wrap64_id (by omega) (by omega)]; omega
              rw [hg2, unq_esc, hb2]
              generalize (L s).getD (i + 1) 0 = f at *
              have hI : ∀ e : UInt8, Ev (fun k => transhumanceref1_Unquote.l0 k s (B (acc ++ [e])) ((i + 2 : Nat) : Int)) (R3 (unq ((L s).drop (i + 2)) (acc ++ [e]) ((i + 2 : Nat) : Int))) := fun e => ih (d - 2) (by omega) (i + 2) _ (by omega) (by omega) (by rw [List.length_append, List.length_singleton]; omega)
              have e2 : (i : Int) + 2 = ((i + 2 : Nat) : Int) := by omega
              rw [e2]
              have hsame : ∀ b2 : Bool, b2 = true → unesc f = some f → Ev (fun k => transhumanceref1_Unquote.j3 k s (B acc) ((i + 1 : Nat) : Int) (f.toNat : Int) b2) (R3 (match unesc f with | some e => unq ((L s).drop (i + 1 + 1)) (acc ++ [e]) ((i + 2 : Nat) : Int) | none => bad3)) := by
                intro b2 hb2 hu
                rw [hu]
                refine evShift ?_
                simp only [transhumanceref1_Unquote.j3, hw2, Int.toNat_natCast]
                refine evP hb2 (evP (by omega) (evP (by omega) (evP (by omega) (evP ?_ ?_))))
                · rw [L_size (s.extract (i + 1) (i + 2)), show i + 2 = i + 1 + 1 by omega, hx2, List.length_singleton]; omega
                · rw [hput _ f (by rw [show i + 2 = i + 1 + 1 by omega]; exact hx2)]
                  exact hI f
              refine evN (by omega) (evP (by omega) (evP (by omega) (evIf (fun h3 => ?_) (fun h3 => evIf (fun h4 => ?_) (fun h4 => ?_)))))
              · have e : f = 34 := (u8_int (b := 34)).mp h3
                exact hsame _ (beq_iff_eq.mpr h3) (by rw [e]; rfl)
              · have e : f = 92 := (u8_int (b := 92)).mp h4
                exact hsame _ (beq_iff_eq.mpr h4) (by rw [e]; rfl)
              · by_cases h5 : (f.toNat : Int) = 47
                · have e : f = 47 := (u8_int (b := 47)).mp h5
                  exact hsame _ (beq_iff_eq.mpr h5) (by rw [e]; rfl)
                · have n34 : f ≠ 34 := fun e => h3 (by rw [e]; rfl)
                  have n92 : f ≠ 92 := fun e => h4 (by rw [e]; rfl)
                  have n47 : f ≠ 47 := fun e => h5 (by rw [e]; rfl)
                  refine evShift ?_
                  simp only [transhumanceref1_Unquote.j3, hw2]
                  refine evN (by simpa using h5) (evIf (fun h6 => ?_) (fun h6 => evIf (fun h7 => ?_) (fun h7 => ?_)))
                  · have e : f = 110 := (u8_int (b := 110)).mp h6
                    rw [e, show unesc 110 = some 10 from rfl, hput _ 10 rfl]
                    exact evP (by omega) (hI 10)
                  · have e : f = 116 := (u8_int (b := 116)).mp h7
                    rw [e, show unesc 116 = some 9 from rfl, hput _ 9 rfl]
                    exact evP (by omega) (hI 9)
                  · have hu : unesc f = none := by
                      unfold unesc
                      rw [if_neg n34, if_neg n92, if_neg (fun e => h6 (by rw [e]; rfl)), if_neg (fun e => h7 (by rw [e]; rfl)), if_neg n47]
                    rw [hu]
                    exact Ev.now _
            · have e2 : (L s).drop (i + 1) = [] := List.drop_of_length_le (by rw [← L_size]; omega)
              rw [e2, unq_last]
              exact evP (by omega) (Ev.now _)
          · have h3 : c ≠ 92 := fun e => h2 (by rw [e]; rfl)
            rw [unq_step c _ acc _ hne hr h3, show (i : Int) + 1 = ((i + 1 : Nat) : Int) by omega]
            refine evP (by omega) (evP (by omega) (evP ?_ ?_))
            · rw [L_size (s.extract i (i + 1)), hx, List.length_singleton]; omega
            · rw [hput _ c hx]
              exact ih (d - 1) (by omega) (i + 1) _ (by omega) (by omega) (by rw [List.length_append, List.length_singleton]; omega)
      refine evShift ?_
      simp only [transhumanceref1_Unquote.l0, hb, hw]
      refine evP (by omega) (evP (by omega) (evIf (fun h => ?_) (fun h => evIf (fun h2 => ?_) (fun h2 => ?_))))
      · rw [unq_end c _ acc _ ((u8_int (b := 34)).mp h)]
        exact evNow rfl
      · exact hj2 true (fun e => h (by rw [e]; rfl)) ⟨fun _ => .inl h2, fun _ => rfl⟩
      · exact hj2 _ (fun e => h (by rw [e]; rfl)) ⟨fun h3 => .inr (by simpa using h3), fun h3 => decide_eq_true (by omega)⟩
    · have e : (L s).drop i = [] := List.drop_of_length_le (by rw [← L_size]; omega)
      rw [e]
      refine evShift ?_
      simp only [transhumanceref1_Unquote.l0]
      exact evN (by omega) (Ev.now _)
theorem ref_unquote (s : ByteArray) (hs : s.size ≤ 1000000000000) : Ev (fun k => transhumanceref1_Unquote.f k s) (R3 (unquote (L s))) := by
  have hz := L_size s
  unfold transhumanceref1_Unquote.f
  rw [L_toList]
  cases hL : L s with
  | nil =>
    refine evP rfl (evShift ?_)
    simp only [transhumanceref1_Unquote.j0]
    exact evP (by trivial) (Ev.now _)
  | cons c t =>
    rw [hL, List.length_cons] at hz
    have hb : bt s 0 = (c.toNat : Int) := by
      have := bt_nat s 0
      rw [hL] at this
      exact this
    refine evN (by simp) (evP (by omega) ?_)
    rw [show unquote (c :: t) = if c = 34 then unq t [] 1 else bad3 from rfl, hb]
    refine evShift ?_
    simp only [transhumanceref1_Unquote.j0]
    by_cases hc : c = 34
    · rw [if_pos hc, hc]
      refine evN (by decide) ?_
      have hI := ref_unq_loop s hs s.size 1 [] (by omega) (by omega) (by simp)
      rw [hL, List.drop_succ_cons, List.drop_zero] at hI
      exact hI
    · rw [if_neg hc]
      refine evP ?_ (Ev.now _)
      rw [bne_iff_ne]
      exact fun e => hc ((u8_int (b := 34)).mp e)
end Go.Proofs.YtkejnnnedgmhiaaDoor.M
