-- Laid by this session's own program (wip/xprint.py). Not trusted: Lean checks it.
import Derived.Test.YtkejnnnedgmhiaaDoorXx0
namespace Go.Proofs.YtkejnnnedgmhiaaDoor.X
open Go.RowKit Go.Proofs.YtkejnnnedgmhiaaDoorW.PrintWords Go.Proofs.YtkejnnnedgmhiaaDoorW.PrintLast Go.Proofs.YtkejnnnedgmhiaaDoorW.PrintMore
attribute [local go_sem] max2_int min2_int max_two min_two max_three min_three max_four min_four   -- for this text's walks alone
set_option linter.unusedVariables false
set_option linter.unusedSimpArgs false

-- NOT PRINTED: function 81 (slices_partitionOrdered_string)

-- NOT PRINTED: function 66 (slices_pdqsortOrdered_string)

-- NOT PRINTED: function 54 (slices_Sort_string_string)

-- NOT PRINTED: function 55 (slices_Clip_string_string)

-- NOT PRINTED: function 56 (slices_Compact_string_string)

/-! ### text_Sorted: function 39 -/
def text_Sorted.Rw (w : World) (base : Nat) (v : Value) (xs : List ByteArray) : Prop := (∃ A c, v = .slice A xs.length c ∧ xs.length ≤ c ∧ Kd.C Kd.string w A xs.length xs) ∧ ∀ k, v.ownBlock = some k → base ≤ k
theorem text_Sorted.Rw.form {w : World} {base : Nat} {v : Value} {xs : List ByteArray} (h : text_Sorted.Rw w base v xs) : ∃ A c, v = .slice A xs.length c := by
  obtain ⟨⟨A, c, e, _⟩, _⟩ := h
  exact ⟨A, c, e⟩
def text_Sorted.srt (l : List ByteArray) : List (List UInt8) := Lib.compact ((l.map (·.data.toList)).mergeSort fun x y => decide (x ≤ y))
def text_Sorted.f (l : List ByteArray) : Option (List ByteArray) := if l.length * 16 ≤ 140737488355328 then some ((text_Sorted.srt l).map fun x => (⟨x.toArray⟩ : ByteArray)) else none
open Go.Sort Go.Proofs in
def text_Sorted.Left (w : World) (ss : List (List UInt8)) (e : Ending) (w' : World) : Prop :=
  ∃ g cap, e = .returned (.slice (some ⟨g, 0, none⟩) (Lib.compact (ss.mergeSort fun x y => decide (x ≤ y))).length (Lib.compact (ss.mergeSort fun x y => decide (x ≤ y))).length) ∧
    w'.ownsRow w.heap.size 9 1 (.slice (some ⟨g, 0, none⟩) (Lib.compact (ss.mergeSort fun x y => decide (x ≤ y))).length cap) (Lib.compact (ss.mergeSort fun x y => decide (x ≤ y))).length ((Lib.compact (ss.mergeSort fun x y => decide (x ≤ y))).map encStr) ∧ Below w.heap.size w w'
open Go.Sort Go.Proofs in
theorem text_Sorted.left_of {w w1 : World} {g cap n nn q : Nat} {os : Array Obj} {ss : List (List UInt8)} (hown : w1.ownsRow w.heap.size 9 1 (.slice (some ⟨g, 0, none⟩) n cap) n (ss.map encStr)) (hbel : Below w.heap.size w w1) (hbg : w.heap.size ≤ g) (hlen : ss.length = n) :
    text_Sorted.Left w ss (.returned (.slice (some ⟨g, 0, none⟩) (Lib.compact (ss.mergeSort fun x y => decide (x ≤ y))).length (Lib.compact (ss.mergeSort fun x y => decide (x ≤ y))).length))
      (putRow encStr (Sort.ahead (grow (putRow encStr (Sort.ahead w1 nn) g 0 (ss.mergeSort fun x y => decide (x ≤ y)).toArray) os) q) g 0 (Lib.compact (ss.mergeSort fun x y => decide (x ≤ y)) ++ List.replicate (n - (Lib.compact (ss.mergeSort fun x y => decide (x ≤ y))).length) []).toArray) := by
  have hl2 : (ss.mergeSort fun x y => decide (x ≤ y)).length = ss.length := List.length_mergeSort ss
  have hle := Lib.compact_length_le (ss.mergeSort fun x y => decide (x ≤ y))
  subst hlen
  rcases hown.2 with ⟨h0, _⟩ | ⟨g', cap', cur, hv, hbase, hb, h1, h2, h3, h4⟩
  · cases h0
  cases hv
  have hs := ownsRow_sorted (n := nn) (os := os) (ts := ss.mergeSort fun x y => decide (x ≤ y)) hl2 hbase hb h1 h2 h3
  have hc := Lib.ownsRow_putRow (q := q) (k := (Lib.compact (ss.mergeSort fun x y => decide (x ≤ y))).length) (ys := Lib.compact (ss.mergeSort fun x y => decide (x ≤ y)) ++ List.replicate (ss.length - (Lib.compact (ss.mergeSort fun x y => decide (x ≤ y))).length) []) hs (by simp; omega) (by omega)
  rw [List.take_left] at hc
  exact ⟨g, cap, rfl, hc, Lib.below_putRow (hbel.grown (grownBy_sorted _) hbel.size (fun j hj => by cases hj; exact hbase)) hbg⟩
theorem text_Sorted.clip (g m cap : Nat) (w : World) (h : m ≤ cap) : Calls Tryd.prog 55 #[.slice (some ⟨g, 0, none⟩) m cap] w fun e w' => e = .returned (.slice (some ⟨g, 0, none⟩) m m) ∧ w' = w := by
  have hu := Tryd.underlying25
  go_enter Tryd.func55, Tryd.ntmps55
  go_wp2
  go_ret
  exact ⟨rfl, rfl⟩
theorem text_Sorted.clip_nil (w : World) : Calls Tryd.prog 55 #[.slice none 0 0] w fun e w' => e = .returned (.slice none 0 0) ∧ w' = w := by
  have hu := Tryd.underlying25
  go_enter Tryd.func55, Tryd.ntmps55
  go_wp2
  go_ret
  exact ⟨rfl, rfl⟩
set_option maxHeartbeats 4000000 in
set_option maxRecDepth 100000 in
open Go.Sort Go.Proofs in
theorem text_Sorted.tail (n : Nat) (arg : Value) (ss : List (List UInt8)) (w : World) (hn : n ≤ 4611686018427387903)
    (hclone : Calls Tryd.prog 53 #[arg] w fun e w' => ∃ v', e = .returned v' ∧ w'.ownsRow w.heap.size 9 1 v' n (ss.map encStr) ∧ v' ≠ .slice none 0 0 ∧ Below w.heap.size w w') :
    Calls Tryd.prog 39 #[arg] w (text_Sorted.Left w ss) := by
  go_enter Tryd.func39, Tryd.ntmps39
  go_wp2_with (first
    | (go_at_call 53; refine hclone.mono ?_; rintro e w1 ⟨v1, rfl, hown, hnn, hbel⟩
       obtain ⟨g, cap, rfl, hbg, hgl, hncap, hcm, hlen, hH⟩ := Lib.holds_of_ownsRow hown hnn
       have hsort := Sh.slices_Sort_string g 0 cap ss w1 hH hgl (by omega)
       rw [hlen] at hsort
       have X : Aside0 (w1.ownsRow w.heap.size 9 1 (.slice (some ⟨g, 0, none⟩) n cap) n (ss.map encStr) ∧ Below w.heap.size w w1 ∧ w.heap.size ≤ g ∧ g < w1.heap.size ∧ n ≤ cap ∧ cap ≤ maxLen ∧ ss.length = n ∧ Holds encStr w1 g 0 ss.toArray) := ⟨hown, hbel, hbg, hgl, hncap, hcm, hlen, hH⟩
       clear hown hbel hH hnn)
    | (go_at_call 54; refine hsort.mono ?_; rintro e w2 ⟨rfl, nn, os, rfl⟩
       have hl2 : (ss.mergeSort fun x y => decide (x ≤ y)).length = n := by rw [List.length_mergeSort]; exact X.out.2.2.2.2.2.2.1
       have hH2 : Holds encStr (grow (putRow encStr (Sort.ahead w1 nn) g 0 (ss.mergeSort fun x y => decide (x ≤ y)).toArray) os) g 0 (ss.mergeSort fun x y => decide (x ≤ y)).toArray :=
         holds_grow encStr _ os g 0 _ (by simpa [putRow, mapBlock, Sort.ahead] using X.out.2.2.2.1) (holds_putRow encStr _ g 0 _ _ (holds_ahead encStr w1 nn g 0 _ X.out.2.2.2.2.2.2.2) (by simp))
       have hcomp := Sh.slices_Compact_string g 0 cap (ss.mergeSort fun x y => decide (x ≤ y)) _ hH2 (by omega) (by have := X.out.2.2.2.2.1; omega)
       rw [hl2] at hcomp
       have hle := Lib.compact_length_le (ss.mergeSort fun x y => decide (x ≤ y))
       rw [hl2] at hle
       have hce : (Lib.compact (ss.mergeSort fun x y => decide (x ≤ y))).length ≤ cap := Nat.le_trans hle X.out.2.2.2.2.1
       have hC := Aside0.mk hce
       generalize hm : (Lib.compact (ss.mergeSort fun x y => decide (x ≤ y))).length = m at hcomp hC
       have hM := Aside0.mk hm
       clear hH2 hsort hle hce hm)
    | (go_at_call 56; refine hcomp.mono ?_; rintro e w3 ⟨rfl, q, rfl⟩)
    | (go_at_call 55; refine (text_Sorted.clip g m cap _ hC.out).mono ?_; rintro e w4 ⟨rfl, rfl⟩))
  go_ret
  obtain ⟨hm⟩ := hM
  subst hm
  exact text_Sorted.left_of X.out.1 X.out.2.1 X.out.2.2.1 X.out.2.2.2.2.2.2.1
set_option maxHeartbeats 4000000 in
set_option maxRecDepth 100000 in
theorem text_Sorted.nil (n c : Nat) (w : World) : Calls Tryd.prog 39 #[.slice none n c] w fun e w' => e = .returned (.slice none 0 0) ∧ w' = w := by
  go_enter Tryd.func39, Tryd.ntmps39
  go_wp2_with (first
    | (go_at_call 53; refine (Sh.slices_Clone_string_nil n c _).mono ?_; rintro e w' ⟨rfl, rfl⟩)
    | (go_at_call 54; refine (Sh.slices_Sort_string_none none 0 _).mono ?_; rintro e w' ⟨rfl, rfl⟩)
    | (go_at_call 56; refine (Sh.slices_Compact_string_empty none 0 _).mono ?_; rintro e w' ⟨rfl, rfl⟩)
    | (go_at_call 55; refine (text_Sorted.clip_nil _).mono ?_; rintro e w' ⟨rfl, rfl⟩))
  go_ret
  exact ⟨rfl, rfl⟩
theorem text_Sorted.calls (A0 : Option Addr) (c0 : Nat) (l0 : List ByteArray) (r : List ByteArray) (w : World) (hr0 : Kd.C Kd.string w A0 l0.length l0) (hc0 : l0.length ≤ c0) (h : text_Sorted.f l0 = some r) :
    Calls Tryd.prog 39 #[.slice A0 l0.length c0] w fun e w' => ∃ v0_ : Value, e = .returned v0_ ∧ text_Sorted.Rw w' w.heap.size v0_ r ∧ Below w.heap.size w w' := by
  unfold text_Sorted.f at h
  by_cases c1 : l0.length * 16 ≤ 140737488355328
  · rw [if_pos c1] at h
    have h := Option.some.inj h
    have key : ∀ e w', text_Sorted.Left w (l0.map (·.data.toList)) e w' → ∃ v0_ : Value, e = .returned v0_ ∧ text_Sorted.Rw w' w.heap.size v0_ r ∧ Below w.heap.size w w' := by
      rintro e w' ⟨g, cap, rfl, hown, hb⟩
      have hl : r.length = (Lib.compact ((l0.map (·.data.toList)).mergeSort fun x y => decide (x ≤ y))).length := by rw [← h, List.length_map]; rfl
      have hx : (Lib.compact ((l0.map (·.data.toList)).mergeSort fun x y => decide (x ≤ y))).map Proofs.encStr = encs Value.string r := by
        rw [← h]
        simp only [encs, List.map_map, text_Sorted.srt]
        rfl
      rw [hx, ← hl] at hown
      rw [← hl]
      have hR : Kd.R Kd.string 9 w' w.heap.size (fun _ => True) (.slice (some ⟨g, 0, none⟩) r.length cap) r := Kd.R_of_own hown (fun _ _ => trivial)
      refine ⟨_, rfl, ⟨⟨_, _, rfl, Nat.le_refl _, (Kd.R_reads' hR).2.2⟩, fun k hk => own_base hown k (by simpa [Value.ownBlock] using hk)⟩, hb⟩
    by_cases c2 : l0.length = 0
    · have e0 : l0 = [] := List.eq_nil_of_length_eq_zero c2
      subst e0
      cases A0 with
      | none =>
        refine (text_Sorted.nil 0 c0 w).mono ?_
        rintro e w' ⟨rfl, rfl⟩
        have e1 : r = [] := by rw [← h]; simp [text_Sorted.srt, Lib.compact, Lib.compactUpTo]
        subst e1
        exact ⟨_, rfl, ⟨⟨none, 0, rfl, Nat.le_refl _, Kd.C_nil _ _⟩, fun k hk => by simp [Value.ownBlock] at hk⟩, Below.refl _ _⟩
      | some a =>
        refine (text_Sorted.tail 0 _ [] w (by omega) (Sh.slices_Clone_string_zero a c0 w)).mono ?_
        exact key
    · obtain ⟨ad, rfl, _⟩ := Kd.at_string hr0 0 (by omega) (by omega)
      have hall : ∀ j, j < l0.length → w.cell? (ad.add j) = some (.string (l0.getD j ByteArray.empty)) := by
        intro j hj
        obtain ⟨ad', he, hc⟩ := Kd.at_string hr0 (j : Int) (by omega) (by omega)
        cases he
        simpa [rdOf] using hc
      obtain ⟨b, off, pth⟩ := ad
      have hp : pth = none := by
        have h0 := hall 0 (by omega)
        cases pth with
        | none => rfl
        | some p =>
          simp [World.cell?, Addr.add] at h0
          split at h0 <;> simp at h0
      subst hp
      refine (text_Sorted.tail l0.length _ (l0.map (·.data.toList)) w (by omega) ((Sh.slices_Clone_string b off l0.length c0 l0 w (Nat.le_refl _) c1 (fun j hj => by have h9 := hall j hj; rwa [show (⟨b, off, none⟩ : Addr).add j = ⟨b, off + j, none⟩ from by unfold Addr.add; split <;> simp_all] at h9)).mono ?_)).mono key
      rintro e w' ⟨v', he, hown, hnn, hbel⟩
      refine ⟨v', he, ?_, hnn, hbel⟩
      rw [List.take_length] at hown
      rw [Lib.map_encStr]
      exact hown
  · rw [if_neg c1] at h
    exact absurd h (by simp)

end Go.Proofs.YtkejnnnedgmhiaaDoor.X
