/- text.Sorted's contract, its result told as a row that is only read. Condition: its reading's size. -/
import Derived.Test.YtkejnnnedgmhiaaDoorXx4
namespace Go.Proofs.YtkejnnnedgmhiaaDoor.X
open Go.RowKit Go.Proofs.YtkejnnnedgmhiaaDoorW.PrintWords Go.Proofs.YtkejnnnedgmhiaaDoorW.PrintLast Go.Proofs.YtkejnnnedgmhiaaDoorW.PrintMore
attribute [local go_sem] max2_int min2_int max_two min_two max_three min_three max_four min_four   -- for this text's walks alone
set_option linter.unusedVariables false
set_option linter.unusedSimpArgs false

-- NOT PRINTED: function 81 (slices_partitionOrdered_string)

-- NOT PRINTED: function 66 (slices_pdqsortOrdered_string)

-- NOT PRINTED: function 54 (slices_Sort_string_string)

-- NOT PRINTED: function 55 (slices_Clip_string_string)

-- NOT PRINTED: function 56 (slices_Compact_string_string)

theorem text_Sorted.callsV (A0 : Option Addr) (c0 : Nat) (l0 : List ByteArray) (r : List ByteArray) (w : World) (hr0 : Kd.C Kd.string w A0 l0.length l0) (hc0 : l0.length ≤ c0) (h : text_Sorted.f l0 = some r) :
    Calls Tryd.prog 39 #[.slice A0 l0.length c0] w fun e w' => ∃ v0_ : Value, e = .returned v0_ ∧ Kd.V Kd.string 9 w' w.heap.size (fun k_ => w.heap.size ≤ k_) v0_ r ∧ Below w.heap.size w w' := by
  unfold text_Sorted.f at h
  by_cases c1 : l0.length * 16 ≤ 140737488355328
  · rw [if_pos c1] at h
    have h := Option.some.inj h
    have key : ∀ e w', text_Sorted.Left w (l0.map (·.data.toList)) e w' → ∃ v0_ : Value, e = .returned v0_ ∧ Kd.V Kd.string 9 w' w.heap.size (fun k_ => w.heap.size ≤ k_) v0_ r ∧ Below w.heap.size w w' := by
      rintro e w' ⟨g, cap, rfl, hown, hb⟩
      have hl : r.length = (Lib.compact ((l0.map (·.data.toList)).mergeSort fun x y => decide (x ≤ y))).length := by rw [← h, List.length_map]; rfl
      have hx : (Lib.compact ((l0.map (·.data.toList)).mergeSort fun x y => decide (x ≤ y))).map Proofs.encStr = encs Value.string r := by
        rw [← h]
        simp only [encs, List.map_map, text_Sorted.srt]
        rfl
      rw [hx, ← hl] at hown
      rw [← hl]
      have hR : Kd.R Kd.string 9 w' w.heap.size (fun _ => True) (.slice (some ⟨g, 0, none⟩) r.length cap) r := Kd.R_of_own hown (fun _ _ => trivial)
      have hF := (Kd.V_at (Kd.R_V (base' := w.heap.size) (Kd.R_tight rfl hR))).2.2
      exact ⟨_, rfl, Kd.V_mono (Kd.V_mk (Nat.le_refl _) hF) (fun k hk => Kd.R_base hR k hk.symm), hb⟩
    by_cases c2 : l0.length = 0
    · have e0 : l0 = [] := List.eq_nil_of_length_eq_zero c2
      subst e0
      cases A0 with
      | none =>
        refine (text_Sorted.nil 0 c0 w).mono ?_
        rintro e w' ⟨rfl, rfl⟩
        have e1 : r = [] := by rw [← h]; simp [text_Sorted.srt, Lib.compact, Lib.compactUpTo]
        subst e1
        exact ⟨_, rfl, Kd.V_nil _ _ _ _ _, Below.refl _ _⟩
      | some a =>
        refine (text_Sorted.tail 0 _ [] w (by omega) (Sh.slices_Clone_string_zero a c0 w)).mono ?_
        exact key
    · obtain ⟨ad, rfl, _⟩ := Kd.at_string hr0 0 (by omega) (by omega)
      have hall : ∀ j, j < l0.length → w.cell? (ad.add j) = some (.string (l0.getD j ByteArray.empty)) := by
        intro j hj
        obtain ⟨ad', he, hc⟩ := Kd.at_string hr0 (j : Int) (by omega) (by omega)
        cases he
        simpa [rdOf] using hc
      obtain ⟨b, off, pth⟩ := ad
      have hp : pth = none := by
        have h0 := hall 0 (by omega)
        cases pth with
        | none => rfl
        | some p =>
          simp [World.cell?, Addr.add] at h0
          split at h0 <;> simp at h0
      subst hp
      refine (text_Sorted.tail l0.length _ (l0.map (·.data.toList)) w (by omega) ((Sh.slices_Clone_string b off l0.length c0 l0 w (Nat.le_refl _) c1 (fun j hj => by have h9 := hall j hj; rwa [show (⟨b, off, none⟩ : Addr).add j = ⟨b, off + j, none⟩ from by unfold Addr.add; split <;> simp_all] at h9)).mono ?_)).mono key
      rintro e w' ⟨v', he, hown, hnn, hbel⟩
      refine ⟨v', he, ?_, hnn, hbel⟩
      rw [List.take_length] at hown
      rw [Lib.map_encStr]
      exact hown
  · rw [if_neg c1] at h
    exact absurd h (by simp)
end Go.Proofs.YtkejnnnedgmhiaaDoor.X
