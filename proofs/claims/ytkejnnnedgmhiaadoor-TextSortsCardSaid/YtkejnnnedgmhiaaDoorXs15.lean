-- Laid by this session's own program (wip/xprint.py). Not trusted: Lean checks it.
import Derived.Test.YtkejnnnedgmhiaaDoorXx0
import Derived.Test.YtkejnnnedgmhiaaDoorXx4
import Derived.Test.YtkejnnnedgmhiaaDoorXx5
import Derived.Test.YtkejnnnedgmhiaaDoorXx6
import Derived.Test.YtkejnnnedgmhiaaDoorXx13
import Derived.Laws.Cover1
import Derived.Test.YtkejnnnedgmhiaaDoorXs14
import Derived.Test.YtkejnnnedgmhiaaDoorSv
namespace Go.Proofs.YtkejnnnedgmhiaaDoor.X
open Go.RowKit Go.Proofs.YtkejnnnedgmhiaaDoorW.PrintWords Go.Proofs.YtkejnnnedgmhiaaDoorW.PrintLast Go.Proofs.YtkejnnnedgmhiaaDoorW.PrintMore
attribute [local go_sem] max2_int min2_int max_two min_two max_three min_three max_four min_four   -- for this text's walks alone
set_option linter.unusedVariables false
set_option linter.unusedSimpArgs false

/-! ### transhumancelaw1_TextSorts: function 8 -/
mutual
def transhumancelaw1_TextSorts.l0 : Nat → List Int → Int → ByteArray → List ByteArray → Int → Option (Bool)
  | 0, _, _, _, _, _ => none
  | k + 1, x1, x2, x7, x8, x9 => if x9 < (x1.length : Int) then (transhumancelaw1_TextSorts.j1 k x1 x2 x7 x8 x9 (decide (x9 < 20))) else (transhumancelaw1_TextSorts.j1 k x1 x2 x7 x8 x9 false)
def transhumancelaw1_TextSorts.j1 : Nat → List Int → Int → ByteArray → List ByteArray → Int → Bool → Option (Bool)
  | 0, _, _, _, _, _, _ => none
  | k + 1, x1, x2, x7, x8, x9, x29 => if x29 = true then (if 0 ≤ x9 then (if x9 < (x1.length : Int) then ((transhumancelaw1_within.f (rd x1 x9) (wrap64 ((x7.size : Int) + 1))).bind fun t346 => ((transhumancelaw1_within.f (wrap64 (Int.tdiv (rd x1 x9) 7)) 4).bind fun t348 => (if 0 ≤ t346 then (if t346 ≤ (mn (x7.size : Int) (wrap64 (t346 + t348))) then (if (mn (x7.size : Int) (wrap64 (t346 + t348))) ≤ (x7.size : Int) then (if x8.length < 8796093022208 then (transhumancelaw1_TextSorts.l0 k x1 x2 x7 (x8 ++ [x7.extract (t346 : Int).toNat ((mn (x7.size : Int) (wrap64 (t346 + t348))) : Int).toNat]) (wrap64 (x9 + 1))) else (none)) else (none)) else (none)) else (none)))) else (none)) else (none)) else ((text_Sorted.f x8).bind fun t352 => ((transhumancelaw1_within.f x2 (wrap64 ((x8.length : Int) + 1))).bind fun t355 => ((some (([] : List ByteArray) : List ByteArray)).bind fun y356 => (if 0 ≤ t355 then (if t355 ≤ (x8.length : Int) then ((some (x8.drop (t355 : Int).toNat : List ByteArray)).bind fun y359 => (if y356.length + y359.length < 8796093022208 then ((some (y356 ++ y359 : List ByteArray)).bind fun y363 => ((some (x8.take (t355 : Int).toNat : List ByteArray)).bind fun y366 => (if y363.length + y366.length < 8796093022208 then ((text_Sorted.f (y363 ++ y366)).bind fun t373 => (transhumancelaw1_TextSorts.l1 k x8 t352 t373 1)) else (none)))) else (none))) else (none)) else (none)))))
def transhumancelaw1_TextSorts.l1 : Nat → List ByteArray → List ByteArray → List ByteArray → Int → Option (Bool)
  | 0, _, _, _, _ => none
  | k + 1, x8, x11, x13, x14 => if x14 < (x11.length : Int) then (if 0 ≤ (wrap64 (x14 - 1)) then (if (wrap64 (x14 - 1)) < (x11.length : Int) then (if 0 ≤ x14 then (if ((Op.bytesLess ((rdOf ByteArray.empty x11 (wrap64 (x14 - 1))).toList) ((rdOf ByteArray.empty x11 x14).toList)) = true) then (transhumancelaw1_TextSorts.l1 k x8 x11 x13 (wrap64 (x14 + 1))) else (some false)) else (none)) else (none)) else (none)) else ((transhumanceref1_Sorted.f k x8).bind fun t378 => ((transhumanceref1_Texts.f k x11 t378).bind fun t381 => (if t381 = true then ((transhumanceref1_Texts.f k x11 x13).bind fun t382 => (if t382 = true then ((some (([] : List ByteArray) : List ByteArray)).bind fun y383 => (if y383.length + x8.length < 8796093022208 then ((some (y383 ++ x8 : List ByteArray)).bind fun y386 => (if y386.length + x8.length < 8796093022208 then ((text_Sorted.f (y386 ++ x8)).bind fun t392 => ((transhumanceref1_Texts.f k t392 x11).bind fun t395 => (some t395))) else (none))) else (none))) else (some false))) else (some false))))
end
def transhumancelaw1_TextSorts.f (k : Nat) (l0 : List Int) (l1 : List Int) (a2 : Int) : Option (Bool) := (transhumancelaw1_known.f k).bind fun t343 => (if t343 = true then (if (l0.length : Int) > 100 then (some true) else ((transhumancelaw1_Plain.f k l0 100).bind fun t344 => (transhumancelaw1_TextSorts.l0 k l1 a2 t344 ([] : List ByteArray) 0))) else (some false))
theorem transhumancelaw1_TextSorts.mono_l : ∀ k, (∀ y0 y1 y2 y3 y4, LeO (transhumancelaw1_TextSorts.l0 k y0 y1 y2 y3 y4) (transhumancelaw1_TextSorts.l0 (k + 1) y0 y1 y2 y3 y4)) ∧ (∀ y0 y1 y2 y3 y4 y5, LeO (transhumancelaw1_TextSorts.j1 k y0 y1 y2 y3 y4 y5) (transhumancelaw1_TextSorts.j1 (k + 1) y0 y1 y2 y3 y4 y5)) ∧ (∀ y0 y1 y2 y3, LeO (transhumancelaw1_TextSorts.l1 k y0 y1 y2 y3) (transhumancelaw1_TextSorts.l1 (k + 1) y0 y1 y2 y3))
  | 0 => ⟨fun _ _ _ _ _ r h => by simp [transhumancelaw1_TextSorts.l0] at h, fun _ _ _ _ _ _ r h => by simp [transhumancelaw1_TextSorts.j1] at h, fun _ _ _ _ r h => by simp [transhumancelaw1_TextSorts.l1] at h⟩
  | k + 1 => by
    obtain ⟨ih0, ih1, ih2⟩ := transhumancelaw1_TextSorts.mono_l k
    refine ⟨?_, ?_, ?_⟩
    · intro y0 y1 y2 y3 y4
      unfold transhumancelaw1_TextSorts.l0
      repeat' first
      | (with_reducible exact ih0 _ _ _ _ _)
      | (with_reducible exact ih1 _ _ _ _ _ _)
      | (with_reducible exact ih2 _ _ _ _)
      | (with_reducible exact transhumancelaw1_Plain.mono _ _ _)
      | (with_reducible exact transhumancelaw1_known.mono _)
      | (with_reducible exact transhumanceref1_Sorted.mono _ _)
      | (with_reducible exact transhumanceref1_Texts.mono _ _ _)
      | (with_reducible exact LeO.refl _)
      | (with_reducible exact LeO.none _)
      | (with_reducible refine LeO.ite ?_ ?_)
      | (with_reducible refine LeO.bind ?_ (fun _ => ?_))
      | exact ih0 _ _ _ _ _
      | exact ih1 _ _ _ _ _ _
      | exact ih2 _ _ _ _
      | exact transhumancelaw1_Plain.mono _ _ _
      | exact transhumancelaw1_known.mono _
      | exact transhumanceref1_Sorted.mono _ _
      | exact transhumanceref1_Texts.mono _ _ _
      | exact LeO.none _
      | refine LeO.ite ?_ ?_
      | refine LeO.bind ?_ (fun _ => ?_)
    · intro y0 y1 y2 y3 y4 y5
      unfold transhumancelaw1_TextSorts.j1
      repeat' first
      | (with_reducible exact ih0 _ _ _ _ _)
      | (with_reducible exact ih1 _ _ _ _ _ _)
      | (with_reducible exact ih2 _ _ _ _)
      | (with_reducible exact transhumancelaw1_Plain.mono _ _ _)
      | (with_reducible exact transhumancelaw1_known.mono _)
      | (with_reducible exact transhumanceref1_Sorted.mono _ _)
      | (with_reducible exact transhumanceref1_Texts.mono _ _ _)
      | (with_reducible exact LeO.refl _)
      | (with_reducible exact LeO.none _)
      | (with_reducible refine LeO.ite ?_ ?_)
      | (with_reducible refine LeO.bind ?_ (fun _ => ?_))
      | exact ih0 _ _ _ _ _
      | exact ih1 _ _ _ _ _ _
      | exact ih2 _ _ _ _
      | exact transhumancelaw1_Plain.mono _ _ _
      | exact transhumancelaw1_known.mono _
      | exact transhumanceref1_Sorted.mono _ _
      | exact transhumanceref1_Texts.mono _ _ _
      | exact LeO.none _
      | refine LeO.ite ?_ ?_
      | refine LeO.bind ?_ (fun _ => ?_)
    · intro y0 y1 y2 y3
      unfold transhumancelaw1_TextSorts.l1
      repeat' first
      | (with_reducible exact ih0 _ _ _ _ _)
      | (with_reducible exact ih1 _ _ _ _ _ _)
      | (with_reducible exact ih2 _ _ _ _)
      | (with_reducible exact transhumancelaw1_Plain.mono _ _ _)
      | (with_reducible exact transhumancelaw1_known.mono _)
      | (with_reducible exact transhumanceref1_Sorted.mono _ _)
      | (with_reducible exact transhumanceref1_Texts.mono _ _ _)
      | (with_reducible exact LeO.refl _)
      | (with_reducible exact LeO.none _)
      | (with_reducible refine LeO.ite ?_ ?_)
      | (with_reducible refine LeO.bind ?_ (fun _ => ?_))
      | exact ih0 _ _ _ _ _
      | exact ih1 _ _ _ _ _ _
      | exact ih2 _ _ _ _
      | exact transhumancelaw1_Plain.mono _ _ _
      | exact transhumancelaw1_known.mono _
      | exact transhumanceref1_Sorted.mono _ _
      | exact transhumanceref1_Texts.mono _ _ _
      | exact LeO.none _
      | refine LeO.ite ?_ ?_
      | refine LeO.bind ?_ (fun _ => ?_)
theorem transhumancelaw1_TextSorts.mono : ∀ a0 a1 a2 k, LeO (transhumancelaw1_TextSorts.f k a0 a1 a2) (transhumancelaw1_TextSorts.f (k + 1) a0 a1 a2) := by
  intro a0 a1 a2 k
  obtain ⟨ih0, ih1, ih2⟩ := transhumancelaw1_TextSorts.mono_l k
  unfold transhumancelaw1_TextSorts.f
  repeat' first
      | (with_reducible exact ih0 _ _ _ _ _)
      | (with_reducible exact ih1 _ _ _ _ _ _)
      | (with_reducible exact ih2 _ _ _ _)
      | (with_reducible exact transhumancelaw1_Plain.mono _ _ _)
      | (with_reducible exact transhumancelaw1_known.mono _)
      | (with_reducible exact transhumanceref1_Sorted.mono _ _)
      | (with_reducible exact transhumanceref1_Texts.mono _ _ _)
      | (with_reducible exact LeO.refl _)
      | (with_reducible exact LeO.none _)
      | (with_reducible refine LeO.ite ?_ ?_)
      | (with_reducible refine LeO.bind ?_ (fun _ => ?_))
      | exact ih0 _ _ _ _ _
      | exact ih1 _ _ _ _ _ _
      | exact ih2 _ _ _ _
      | exact transhumancelaw1_Plain.mono _ _ _
      | exact transhumancelaw1_known.mono _
      | exact transhumanceref1_Sorted.mono _ _
      | exact transhumanceref1_Texts.mono _ _ _
      | exact LeO.none _
      | refine LeO.ite ?_ ?_
      | refine LeO.bind ?_ (fun _ => ?_)
def transhumancelaw1_TextSorts.T14 : Bool × List (List Nat × List Nat) := (true, [([], []), ([], []), ([], []), ([1, 2], [1, 2]), ([0, 3], [0, 3]), ([], []), ([], []), ([5, 6], [5, 6]), ([4, 7, 4], [4, 7]), ([8, 8], [8]), ([9, 9, 0, 1, 2, 3, 4, 5, 6, 7, 8, 9], [9])])
def transhumancelaw1_TextSorts.B14 : List Nat := [0, 0, 0, 6, 15, 0, 0, 96, 255, 511, 1023]
theorem transhumancelaw1_TextSorts.tab14 : rtab .any (opsOf Tryd.f8 14) = transhumancelaw1_TextSorts.T14 := by kernel_rfl
theorem transhumancelaw1_TextSorts.bits14 : waitsOk transhumancelaw1_TextSorts.T14.2 transhumancelaw1_TextSorts.B14 = true := by kernel_rfl
def transhumancelaw1_TextSorts.T18 : Bool × List (List Nat × List Nat) := (true, [([], []), ([], []), ([1], [1]), ([0, 2], [0, 2]), ([3], [3]), ([], []), ([], []), ([5, 6], [5, 6]), ([7], [7]), ([4, 8], [4, 8])])
def transhumancelaw1_TextSorts.B18 : List Nat := [0, 0, 2, 7, 15, 0, 0, 96, 224, 511]
theorem transhumancelaw1_TextSorts.tab18 : rtab .any (opsOf Tryd.f8 18) = transhumancelaw1_TextSorts.T18 := by kernel_rfl
theorem transhumancelaw1_TextSorts.bits18 : waitsOk transhumancelaw1_TextSorts.T18.2 transhumancelaw1_TextSorts.B18 = true := by kernel_rfl
set_option maxHeartbeats 8000000 in
set_option maxRecDepth 100000 in
theorem transhumancelaw1_TextSorts.calls (k : Nat) (A0 : Option Addr) (c0 : Nat) (l0 : List Int) (A1 : Option Addr) (c1 : Nat) (l1 : List Int) (a2 : Int) (r : Bool) (w : World) (hr0 : Kd.C (Kd.int .u8) w A0 l0.length l0) (hc0 : l0.length ≤ c0) (hr1 : Kd.C (Kd.int .i64) w A1 l1.length l1) (hc1 : l1.length ≤ c1) (h : transhumancelaw1_TextSorts.f k l0 l1 a2 = some r) :
    Calls Tryd.prog 8 #[.slice A0 l0.length c0, .slice A1 l1.length c1, .int .i64 a2] w fun e w' => e = .returned (.bool r) ∧ Below w.heap.size w w' := by
  have HR0 := Aside0.mk hr0
  have HC0 := Aside0.mk hc0
  clear hr0 hc0
  have HR1 := Aside0.mk hr1
  have HC1 := Aside0.mk hc1
  clear hr1 hc1
  have HB := Aside0.mk (Below.refl w.heap.size w)
  have H : ((transhumancelaw1_known.f k).bind fun t343 => (if t343 = true then (if (l0.length : Int) > 100 then (some true) else ((transhumancelaw1_Plain.f k l0 100).bind fun t344 => (transhumancelaw1_TextSorts.l0 k l1 a2 t344 ([] : List ByteArray) 0))) else (some false))) = some r := h
  clear h
  replace H := Option.bind_eq_some_iff.mp H
  obtain ⟨t343, A40, H⟩ := H
  replace H : (if t343 = true then (if (l0.length : Int) > 100 then (some true) else ((transhumancelaw1_Plain.f k l0 100).bind fun t344 => (transhumancelaw1_TextSorts.l0 k l1 a2 t344 ([] : List ByteArray) 0))) else (some false)) = some r := H
  have A4 := Aside0.mk A40
  clear A40
  by_cases c5 : t343 = true
  · subst c5
    have H1 : (if (l0.length : Int) > 100 then (some true) else ((transhumancelaw1_Plain.f k l0 100).bind fun t344 => (transhumancelaw1_TextSorts.l0 k l1 a2 t344 ([] : List ByteArray) 0))) = some r := by rw [if_pos rfl] at H; exact H
    clear H
    have H := H1
    clear H1
    by_cases c6 : (l0.length : Int) > 100
    · rw [if_pos c6] at H
      have c6b0 : decide (100 < (l0.length : Int)) = true := decide_eq_true c6
      have c6b1 : decide (100 < l0.length) = true := decide_eq_true (by omega)
      clear c6
      obtain rfl := Option.some.inj H
      go_enter Tryd.func8, Tryd.ntmps8
      go_wp2_with (first | ((with_reducible refine gate_callee (f := 13) rfl ?_); refine goesL_ (some 15) rfl rfl Tryd.func13 (by kernel_rfl) rfl #[] rfl (by (try simp only [List.map_toArray, List.map_cons, List.map_nil]); first | done | rfl | (simp only [List.length_drop, List.length_take]; rfl)) ?_; (with_reducible refine (transhumancelaw1_known.calls k  true _ A4.out).mono ?_); rintro e w7 ⟨rfl, hb⟩; refine ⟨_, rfl, ?_⟩; have n0_ := Aside0.mk (below_step (by repeat (first | (with_reducible first | exact HB.out | apply below_alloc | apply pw_below_drewN | apply below_drew1) | exact HB.out)) hb); clear HB; have HB := n0_; clear n0_; (try clear hb); (try clear hb2); (try clear hk); (try clear hi)))
      go_ret
      exact ⟨by first | rfl | (simp [errW_none, errW_some] <;> rfl) | (simp [*, errW_none, errW_some] <;> rfl), by repeat (first | (with_reducible first | exact HB.out | apply below_alloc | apply pw_below_drewN | apply below_drew1) | exact HB.out)⟩
    · rw [if_neg c6] at H
      have c6b0 : decide (100 < (l0.length : Int)) = false := decide_eq_false c6
      have c6b1 : decide (100 < l0.length) = false := decide_eq_false (by omega)
      clear c6
      replace H := Option.bind_eq_some_iff.mp H
      obtain ⟨t344, A80, H⟩ := H
      replace H : (transhumancelaw1_TextSorts.l0 k l1 a2 t344 ([] : List ByteArray) 0) = some r := H
      have A8 := Aside0.mk A80
      clear A80
      have H' := Aside0.mk H
      clear H
      go_enter Tryd.func8, Tryd.ntmps8
      go_wp2_with (first | ((with_reducible refine gate_callee (f := 13) rfl ?_); refine goesL_ (some 15) rfl rfl Tryd.func13 (by kernel_rfl) rfl #[] rfl (by (try simp only [List.map_toArray, List.map_cons, List.map_nil]); first | done | rfl | (simp only [List.length_drop, List.length_take]; rfl)) ?_; (with_reducible refine (transhumancelaw1_known.calls k  true _ A4.out).mono ?_); rintro e w9 ⟨rfl, hb⟩; refine ⟨_, rfl, ?_⟩; have n0_ := Aside0.mk (below_step (by repeat (first | (with_reducible first | exact HB.out | apply below_alloc | apply pw_below_drewN | apply below_drew1) | exact HB.out)) hb); clear HB; have HB := n0_; clear n0_; (try clear hb); (try clear hb2); (try clear hk); (try clear hi)) | ((with_reducible refine gate_callee (f := 14) rfl ?_); refine goesL_ (some 21) rfl rfl Tryd.func14 (by kernel_rfl) rfl #[.slice A0 l0.length c0, .int .i64 100] rfl (by (try simp only [List.map_toArray, List.map_cons, List.map_nil]); first | done | rfl | (simp only [List.length_drop, List.length_take]; rfl)) ?_; (with_reducible refine (transhumancelaw1_Plain.calls k _ _ l0 100 t344 _ ?side1 ?side2 A8.out).mono ?_); (case side1 => repeat (first | exact (Kd.C_below HR0.out HB.out) | (with_reducible refine Kd.C_alloc ?_ _) | (with_reducible refine Kd.C_drewN ?_ _) | (with_reducible refine Kd.C_drew ?_))); (case side2 => exact HC0.out); rintro e w10 ⟨rfl, hb⟩; refine ⟨_, rfl, ?_⟩; have n0_ := Aside0.mk (below_step (by repeat (first | (with_reducible first | exact HB.out | apply below_alloc | apply pw_below_drewN | apply below_drew1) | exact HB.out)) hb); clear HB; have HB := n0_; clear n0_; (try clear hb); (try clear hb2); (try clear hk); (try clear hi)))
      go_loopg [8, 9] k (fun kq v8 v9 w' => ∃ (x8_1 : List ByteArray) (x9_1 : Int), v9 = .int .i64 x9_1 ∧ Aside0 (transhumancelaw1_TextSorts.l0 kq l1 a2 t344 x8_1 x9_1 = some r) ∧ Aside0 (kq ≤ k) ∧ Aside0 (Kd.R Kd.string 9 w' w.heap.size (fun _ => True) v8 x8_1) ∧ Aside0 (Below w.heap.size w w'))
      case atStart => exact ⟨(([] : List ByteArray)), (0), (by first | rfl | (simp; done) | (simp [*]; done)), H', ⟨Nat.le_refl _⟩, ⟨by first | exact Kd.R_nil _ _ _ _ _ | exact Kd.N_nil _ _ _ _ _ | exact Kd.V_nil _ _ _ _ _ | exact Kd.Q_nil _ _ _ _ _ | exact Kd.S_nil _ _ _ _ _⟩, ⟨by repeat (first | (with_reducible first | exact HB.out | apply below_alloc | apply pw_below_drewN | apply below_drew1) | exact HB.out)⟩⟩
      case round =>
        clear H'
        try clear c1
        try clear p2
        try clear c5
        try clear c6
        try clear c6b0
        try clear c6b1
        try clear c8
        obtain ⟨x8_1, x9_1, rfl, HA, HK1, HO_8, HB⟩ := hrel
        cases gk with
        | zero => exact absurd HA.out (by simp [transhumancelaw1_TextSorts.l0])
        | succ k1 =>
          have H := HA.out
          clear HA
          simp only [transhumancelaw1_TextSorts.l0] at H
          have HC11 := Aside0.mk H
          clear H
          go_upto_region 8 with (fail)
          go_cut [29] (fun v29 wc => ∃ (kq : Nat) (x29_10 : Bool), v29 = .bool x29_10 ∧ Aside0 (transhumancelaw1_TextSorts.j1 kq l1 a2 t344 x8_1 x9_1 x29_10 = some r) ∧ Aside0 (kq ≤ k1) ∧ Aside0 (Kd.R Kd.string 9 wc w.heap.size (fun _ => True) u8 x8_1) ∧ Aside0 (Below w.heap.size w wc))
          case first =>
            have H := HC11.out
            clear HC11
            by_cases c12 : x9_1 < (l1.length : Int)
            · rw [if_pos c12] at H
              have c12b0 : decide (x9_1 < (l1.length : Int)) = true := decide_eq_true c12
              clear c12
              (first | rw [c12b0] | (simp only [i64_w, i32_w]; rw [c12b0]) | skip)
              have H' := Aside0.mk H
              clear H
              go_wp2
              go_meet
              case rel => exact ⟨_, (decide (x9_1 < 20)), (by first | rfl | (simp; done) | (simp [*]; done)), H', ⟨by have := HK1.out; first | omega | exact Nat.le_refl _⟩, ⟨by (with_reducible repeat (first | apply Kd.R_alloc | apply Kd.R_drewN | apply Kd.R_drew)); exact HO_8.out⟩, ⟨by repeat (first | (with_reducible first | exact HB.out | apply below_alloc | apply pw_below_drewN | apply below_drew1) | exact HB.out)⟩⟩
            · rw [if_neg c12] at H
              have c12b0 : decide (x9_1 < (l1.length : Int)) = false := decide_eq_false c12
              clear c12
              (first | rw [c12b0] | (simp only [i64_w, i32_w]; rw [c12b0]) | skip)
              have H' := Aside0.mk H
              clear H
              go_wp2
              go_meet
              case rel => exact ⟨_, (false), (by first | rfl | (simp; done) | (simp [*]; done)), H', ⟨by have := HK1.out; first | omega | exact Nat.le_refl _⟩, ⟨by (with_reducible repeat (first | apply Kd.R_alloc | apply Kd.R_drewN | apply Kd.R_drew)); exact HO_8.out⟩, ⟨by repeat (first | (with_reducible first | exact HB.out | apply below_alloc | apply pw_below_drewN | apply below_drew1) | exact HB.out)⟩⟩
          case rest =>
            clear HC11
            try clear c1
            try clear p2
            try clear c5
            try clear c6
            try clear c6b0
            try clear c6b1
            try clear c8
            try clear c12
            try clear c12b0
            try clear p2
            obtain ⟨kq, x29_10, rfl, HA, HJ10, HO_8, HB⟩ := hcut
            cases kq with
            | zero => exact absurd HA.out (by simp [transhumancelaw1_TextSorts.j1])
            | succ kj10 =>
              have H := HA.out
              clear HA
              simp only [transhumancelaw1_TextSorts.j1] at H
              by_cases c13 : x29_10 = true
              · subst c13
                have H1 : (if 0 ≤ x9_1 then (if x9_1 < (l1.length : Int) then ((transhumancelaw1_within.f (rd l1 x9_1) (wrap64 ((t344.size : Int) + 1))).bind fun t346 => ((transhumancelaw1_within.f (wrap64 (Int.tdiv (rd l1 x9_1) 7)) 4).bind fun t348 => (if 0 ≤ t346 then (if t346 ≤ (mn (t344.size : Int) (wrap64 (t346 + t348))) then (if (mn (t344.size : Int) (wrap64 (t346 + t348))) ≤ (t344.size : Int) then (if x8_1.length < 8796093022208 then (transhumancelaw1_TextSorts.l0 kj10 l1 a2 t344 (x8_1 ++ [t344.extract (t346 : Int).toNat ((mn (t344.size : Int) (wrap64 (t346 + t348))) : Int).toNat]) (wrap64 (x9_1 + 1))) else (none)) else (none)) else (none)) else (none)))) else (none)) else (none)) = some r := by rw [if_pos rfl] at H; exact H
                clear H
                have H := H1
                clear H1
                by_cases c14 : 0 ≤ x9_1
                · rw [if_pos c14] at H
                  have c14b0 : decide (0 ≤ x9_1) = true := decide_eq_true c14
                  clear c14
                  by_cases c15 : x9_1 < (l1.length : Int)
                  · rw [if_pos c15] at H
                    have c15b0 : decide (x9_1 < (l1.length : Int)) = true := decide_eq_true c15
                    clear c15
                    replace H := Option.bind_eq_some_iff.mp H
                    obtain ⟨t346, A160, H⟩ := H
                    replace H : ((transhumancelaw1_within.f (wrap64 (Int.tdiv (rd l1 x9_1) 7)) 4).bind fun t348 => (if 0 ≤ t346 then (if t346 ≤ (mn (t344.size : Int) (wrap64 (t346 + t348))) then (if (mn (t344.size : Int) (wrap64 (t346 + t348))) ≤ (t344.size : Int) then (if x8_1.length < 8796093022208 then (transhumancelaw1_TextSorts.l0 kj10 l1 a2 t344 (x8_1 ++ [t344.extract (t346 : Int).toNat ((mn (t344.size : Int) (wrap64 (t346 + t348))) : Int).toNat]) (wrap64 (x9_1 + 1))) else (none)) else (none)) else (none)) else (none))) = some r := H
                    have A16 := Aside0.mk A160
                    clear A160
                    replace H := Option.bind_eq_some_iff.mp H
                    obtain ⟨t348, A170, H⟩ := H
                    replace H : (if 0 ≤ t346 then (if t346 ≤ (mn (t344.size : Int) (wrap64 (t346 + t348))) then (if (mn (t344.size : Int) (wrap64 (t346 + t348))) ≤ (t344.size : Int) then (if x8_1.length < 8796093022208 then (transhumancelaw1_TextSorts.l0 kj10 l1 a2 t344 (x8_1 ++ [t344.extract (t346 : Int).toNat ((mn (t344.size : Int) (wrap64 (t346 + t348))) : Int).toNat]) (wrap64 (x9_1 + 1))) else (none)) else (none)) else (none)) else (none)) = some r := H
                    have A17 := Aside0.mk A170
                    clear A170
                    obtain ⟨ji18, hji18⟩ : ∃ j_ : Int, (mn (t344.size : Int) (wrap64 (t346 + t348))) = j_ := ⟨_, rfl⟩
                    replace H : (if 0 ≤ t346 then (if t346 ≤ (ji18) then (if (ji18) ≤ (t344.size : Int) then (if x8_1.length < 8796093022208 then (transhumancelaw1_TextSorts.l0 kj10 l1 a2 t344 (x8_1 ++ [t344.extract (t346 : Int).toNat ((ji18) : Int).toNat]) (wrap64 (x9_1 + 1))) else (none)) else (none)) else (none)) else (none)) = some r := by first | (rw [hji18] at H; exact H) | (simp only [hji18] at H ⊢; exact H)
                    (try rw [hji18] at A16)
                    (try rw [hji18] at A17)
                    have hji18_ : (if (wrap64 (t346 + t348)) < (t344.size : Int) then (wrap64 (t346 + t348)) else (t344.size : Int)) = ji18 := hji18
                    by_cases c19 : 0 ≤ t346
                    · rw [if_pos c19] at H
                      have c19b0 := eq_true c19
                      have c19b1 : decide (0 ≤ t346) = true := decide_eq_true c19
                      clear c19
                      by_cases c20 : t346 ≤ (ji18)
                      · rw [if_pos c20] at H
                        have c20b0 := eq_true c20
                        have c20b1 : decide (t346 ≤ (ji18)) = true := decide_eq_true c20
                        clear c20
                        by_cases c21 : (ji18) ≤ (t344.size : Int)
                        · rw [if_pos c21] at H
                          have c21b0 := eq_true c21
                          have c21b1 : decide ((ji18) ≤ (t344.size : Int)) = true := decide_eq_true c21
                          clear c21
                          by_cases c22 : x8_1.length < 8796093022208
                          · rw [if_pos c22] at H
                            have LMc22 := Aside0.mk c22
                            clear c22
                            obtain ⟨y349, hy349⟩ : ∃ y_ : List ByteArray, y_ = (x8_1 ++ [t344.extract (t346 : Int).toNat ((ji18) : Int).toNat]) := ⟨_, rfl⟩
                            replace H : (transhumancelaw1_TextSorts.l0 kj10 l1 a2 t344 y349 (wrap64 (x9_1 + 1))) = some r := by first | (rw [hy349]; with_reducible exact H) | (have H2_ := (Option.bind_some _ _).symm.trans H; rw [hy349]; with_reducible exact H2_) | (have H2_ := (Option.bind_some _ _).symm.trans H; with_reducible exact H2_) | with_reducible exact H | (rw [hy349]; exact H) | exact H
                            have Ny349 := Aside0.mk hy349
                            clear hy349
                            have H' := Aside0.mk H
                            clear H
                            have p345 : 0 ≤ (x9_1 : Int) := of_decide_eq_true (by first | (with_reducible assumption) | assumption)
                            have q345 : x9_1 < (l1.length : Int) := of_decide_eq_true (by first | (with_reducible assumption) | assumption)
                            obtain ⟨ad345, e345, hx345_0⟩ := Kd.at_int HR1.out x9_1 p345 q345
                            cases e345
                            replace hx345_0 := (HB.out.cell (World.block_lt_of_cell? w _ hx345_0)).trans hx345_0
                            replace p345 := eq_true p345
                            replace q345 := eq_true q345
                            go_wp2_with (first | ((with_reducible refine gate_callee (f := 15) rfl ?_); refine goesL_ (some 39) rfl rfl Tryd.func15 (by kernel_rfl) rfl #[.int .i64 (rd l1 x9_1), .int .i64 (wrap64 ((t344.size : Int) + 1))] rfl (by (try simp only [List.map_toArray, List.map_cons, List.map_nil]); first | done | rfl | (simp only [List.length_drop, List.length_take]; rfl)) ?_; (with_reducible refine (transhumancelaw1_within.calls (rd l1 x9_1) (wrap64 ((t344.size : Int) + 1)) t346 _ A16.out).mono ?_); rintro e w' ⟨rfl, ⟨nd, rfl⟩⟩; refine ⟨_, rfl, ?_⟩; have p347 : 0 ≤ (x9_1 : Int) := of_decide_eq_true (by first | (with_reducible assumption) | assumption); have q347 : x9_1 < (l1.length : Int) := of_decide_eq_true (by first | (with_reducible assumption) | assumption); obtain ⟨ad347, e347, hx347_0⟩ := Kd.at_int HR1.out x9_1 p347 q347; obtain rfl : ad345 = ad347 := (by injection e347); replace hx347_0 := (HB.out.cell (World.block_lt_of_cell? w _ hx347_0)).trans hx347_0; replace p347 := eq_true p347; replace q347 := eq_true q347) | ((with_reducible refine gate_callee (f := 15) rfl ?_); refine goesL_ (some 51) rfl rfl Tryd.func15 (by kernel_rfl) rfl #[.int .i64 (wrap64 (Int.tdiv (rd l1 x9_1) 7)), .int .i64 4] rfl (by (try simp only [List.map_toArray, List.map_cons, List.map_nil]); first | done | rfl | (simp only [List.length_drop, List.length_take]; rfl)) ?_; (with_reducible refine (transhumancelaw1_within.calls (wrap64 (Int.tdiv (rd l1 x9_1) 7)) 4 t348 _ A17.out).mono ?_); rintro e w' ⟨rfl, ⟨nd, rfl⟩⟩; refine ⟨_, rfl, ?_⟩) | ((with_reducible refine gate_builtin (b := .append) (xs := #[.tmp 40, .tmp 55]) rfl ?_); (try (refine gate_guard (by rfl) ?_; dsimp only)); at_builtin; refine Kd.R_append Kd.string (w0 := w) w.heap.size rfl (.tmp 40) (.tmp 55) 25 9 (.string ⟨#[]⟩) 16 rfl Tryd.underlying25 info9 rfl (by decide) (by omega) u8 x8_1 (t344.extract (t346 : Int).toNat ((ji18) : Int).toNat) [.string (t344.extract (t346 : Int).toNat ((ji18) : Int).toNat)] (fun _ => True) (fun _ => False) rfl rfl ?aP (fun _ hk => hk.elim) ?aF ?aO ?aB ?aS ?aL ?_; (case aP => exact rfl); (case aB => exact (by repeat (first | (with_reducible first | exact HB.out | apply below_alloc | apply pw_below_drewN | apply below_drew1) | exact HB.out))); (case aF => exact (fun _ _ => trivial)); (case aO => exact (by (with_reducible repeat (first | apply Kd.R_alloc | apply Kd.R_drewN | apply Kd.R_drew)); exact HO_8.out)); (case aS => exact (below_size (by repeat (first | (with_reducible first | exact HB.out | apply below_alloc | apply pw_below_drewN | apply below_drew1) | exact HB.out)))); (case aL => have := LMc22.out; omega); intro v350 w23 ho hb hg hat; rw [← Ny349.out] at ho; have n0_ := Aside0.mk (hb); have n1_ := Aside0.mk (ho); clear HB; clear HO_8; have HB := n0_; have HO351 := n1_; clear n0_ n1_; clear ho hb hg hat))
                            go_roundg kj10
                            case measure => have := HK1.out; have := HJ10.out; omega
                            case rel => exact ⟨(y349), (wrap64 (x9_1 + 1)), (by first | rfl | (simp; done) | (simp [*]; done)), H', ⟨by have := HK1.out; have := HJ10.out; omega⟩, ⟨by (with_reducible repeat (first | apply Kd.R_alloc | apply Kd.R_drewN | apply Kd.R_drew)); exact HO351.out⟩, ⟨by repeat (first | (with_reducible first | exact HB.out | apply below_alloc | apply pw_below_drewN | apply below_drew1) | exact HB.out)⟩⟩
                          · rw [if_neg c22] at H
                            exact absurd H (by simp)
                        · rw [if_neg c21] at H
                          exact absurd H (by simp)
                      · rw [if_neg c20] at H
                        exact absurd H (by simp)
                    · rw [if_neg c19] at H
                      exact absurd H (by simp)
                  · rw [if_neg c15] at H
                    exact absurd H (by simp)
                · rw [if_neg c14] at H
                  exact absurd H (by simp)
              · replace c13 := Bool.eq_false_iff.mpr c13
                subst c13
                have H1 : ((text_Sorted.f x8_1).bind fun t352 => ((transhumancelaw1_within.f a2 (wrap64 ((x8_1.length : Int) + 1))).bind fun t355 => ((some (([] : List ByteArray) : List ByteArray)).bind fun y356 => (if 0 ≤ t355 then (if t355 ≤ (x8_1.length : Int) then ((some (x8_1.drop (t355 : Int).toNat : List ByteArray)).bind fun y359 => (if y356.length + y359.length < 8796093022208 then ((some (y356 ++ y359 : List ByteArray)).bind fun y363 => ((some (x8_1.take (t355 : Int).toNat : List ByteArray)).bind fun y366 => (if y363.length + y366.length < 8796093022208 then ((text_Sorted.f (y363 ++ y366)).bind fun t373 => (transhumancelaw1_TextSorts.l1 kj10 x8_1 t352 t373 1)) else (none)))) else (none))) else (none)) else (none))))) = some r := by rw [if_neg (show ¬ (false = true) by decide)] at H; exact H
                clear H
                have H := H1
                clear H1
                replace H := Option.bind_eq_some_iff.mp H
                obtain ⟨t352, A240, H⟩ := H
                replace H : ((transhumancelaw1_within.f a2 (wrap64 ((x8_1.length : Int) + 1))).bind fun t355 => ((some (([] : List ByteArray) : List ByteArray)).bind fun y356 => (if 0 ≤ t355 then (if t355 ≤ (x8_1.length : Int) then ((some (x8_1.drop (t355 : Int).toNat : List ByteArray)).bind fun y359 => (if y356.length + y359.length < 8796093022208 then ((some (y356 ++ y359 : List ByteArray)).bind fun y363 => ((some (x8_1.take (t355 : Int).toNat : List ByteArray)).bind fun y366 => (if y363.length + y366.length < 8796093022208 then ((text_Sorted.f (y363 ++ y366)).bind fun t373 => (transhumancelaw1_TextSorts.l1 kj10 x8_1 t352 t373 1)) else (none)))) else (none))) else (none)) else (none)))) = some r := H
                have A24 := Aside0.mk A240
                clear A240
                replace H := Option.bind_eq_some_iff.mp H
                obtain ⟨t355, A250, H⟩ := H
                replace H : ((some (([] : List ByteArray) : List ByteArray)).bind fun y356 => (if 0 ≤ t355 then (if t355 ≤ (x8_1.length : Int) then ((some (x8_1.drop (t355 : Int).toNat : List ByteArray)).bind fun y359 => (if y356.length + y359.length < 8796093022208 then ((some (y356 ++ y359 : List ByteArray)).bind fun y363 => ((some (x8_1.take (t355 : Int).toNat : List ByteArray)).bind fun y366 => (if y363.length + y366.length < 8796093022208 then ((text_Sorted.f (y363 ++ y366)).bind fun t373 => (transhumancelaw1_TextSorts.l1 kj10 x8_1 t352 t373 1)) else (none)))) else (none))) else (none)) else (none))) = some r := H
                have A25 := Aside0.mk A250
                clear A250
                obtain ⟨y356, hy356⟩ : ∃ y_ : List ByteArray, y_ = (([] : List ByteArray)) := ⟨_, rfl⟩
                replace H : (if 0 ≤ t355 then (if t355 ≤ (x8_1.length : Int) then ((some (x8_1.drop (t355 : Int).toNat : List ByteArray)).bind fun y359 => (if y356.length + y359.length < 8796093022208 then ((some (y356 ++ y359 : List ByteArray)).bind fun y363 => ((some (x8_1.take (t355 : Int).toNat : List ByteArray)).bind fun y366 => (if y363.length + y366.length < 8796093022208 then ((text_Sorted.f (y363 ++ y366)).bind fun t373 => (transhumancelaw1_TextSorts.l1 kj10 x8_1 t352 t373 1)) else (none)))) else (none))) else (none)) else (none)) = some r := by first | (rw [hy356]; with_reducible exact H) | (have H2_ := (Option.bind_some _ _).symm.trans H; rw [hy356]; with_reducible exact H2_) | (have H2_ := (Option.bind_some _ _).symm.trans H; with_reducible exact H2_) | with_reducible exact H | (rw [hy356]; exact H) | exact H
                have Ny356 := Aside0.mk hy356
                clear hy356
                by_cases c26 : 0 ≤ t355
                · rw [if_pos c26] at H
                  have c26b0 := eq_true c26
                  have c26b1 : decide (0 ≤ t355) = true := decide_eq_true c26
                  clear c26
                  by_cases c27 : t355 ≤ (x8_1.length : Int)
                  · rw [if_pos c27] at H
                    have c27b0 := eq_true c27
                    have c27b1 : decide (t355 ≤ (x8_1.length : Int)) = true := decide_eq_true c27
                    clear c27
                    obtain ⟨y359, hy359⟩ : ∃ y_ : List ByteArray, y_ = (x8_1.drop (t355 : Int).toNat) := ⟨_, rfl⟩
                    replace H : (if y356.length + y359.length < 8796093022208 then ((some (y356 ++ y359 : List ByteArray)).bind fun y363 => ((some (x8_1.take (t355 : Int).toNat : List ByteArray)).bind fun y366 => (if y363.length + y366.length < 8796093022208 then ((text_Sorted.f (y363 ++ y366)).bind fun t373 => (transhumancelaw1_TextSorts.l1 kj10 x8_1 t352 t373 1)) else (none)))) else (none)) = some r := by first | (rw [hy359]; with_reducible exact H) | (have H2_ := (Option.bind_some _ _).symm.trans H; rw [hy359]; with_reducible exact H2_) | (have H2_ := (Option.bind_some _ _).symm.trans H; with_reducible exact H2_) | with_reducible exact H | (rw [hy359]; exact H) | exact H
                    have Ny359 := Aside0.mk hy359
                    clear hy359
                    by_cases c28 : y356.length + y359.length < 8796093022208
                    · rw [if_pos c28] at H
                      have LMc28 := Aside0.mk c28
                      clear c28
                      obtain ⟨y363, hy363⟩ : ∃ y_ : List ByteArray, y_ = (y356 ++ y359) := ⟨_, rfl⟩
                      replace H : ((some (x8_1.take (t355 : Int).toNat : List ByteArray)).bind fun y366 => (if y363.length + y366.length < 8796093022208 then ((text_Sorted.f (y363 ++ y366)).bind fun t373 => (transhumancelaw1_TextSorts.l1 kj10 x8_1 t352 t373 1)) else (none))) = some r := by first | (rw [hy363]; with_reducible exact H) | (have H2_ := (Option.bind_some _ _).symm.trans H; rw [hy363]; with_reducible exact H2_) | (have H2_ := (Option.bind_some _ _).symm.trans H; with_reducible exact H2_) | with_reducible exact H | (rw [hy363]; exact H) | exact H
                      have Ny363 := Aside0.mk hy363
                      clear hy363
                      have c29b0 := eq_true (of_decide_eq_true (by first | (with_reducible assumption) | assumption) : 0 ≤ t355)
                      have c30b0 := eq_true (of_decide_eq_true (by first | (with_reducible assumption) | assumption) : t355 ≤ (x8_1.length : Int))
                      obtain ⟨y366, hy366⟩ : ∃ y_ : List ByteArray, y_ = (x8_1.take (t355 : Int).toNat) := ⟨_, rfl⟩
                      replace H : (if y363.length + y366.length < 8796093022208 then ((text_Sorted.f (y363 ++ y366)).bind fun t373 => (transhumancelaw1_TextSorts.l1 kj10 x8_1 t352 t373 1)) else (none)) = some r := by first | (rw [hy366]; with_reducible exact H) | (have H2_ := (Option.bind_some _ _).symm.trans H; rw [hy366]; with_reducible exact H2_) | (have H2_ := (Option.bind_some _ _).symm.trans H; with_reducible exact H2_) | with_reducible exact H | (rw [hy366]; exact H) | exact H
                      have Ny366 := Aside0.mk hy366
                      clear hy366
                      by_cases c31 : y363.length + y366.length < 8796093022208
                      · rw [if_pos c31] at H
                        have LMc31 := Aside0.mk c31
                        clear c31
                        obtain ⟨y370, hy370⟩ : ∃ y_ : List ByteArray, y_ = (y363 ++ y366) := ⟨_, rfl⟩
                        replace H : ((text_Sorted.f y370).bind fun t373 => (transhumancelaw1_TextSorts.l1 kj10 x8_1 t352 t373 1)) = some r := by first | (rw [hy370]; with_reducible exact H) | (have H2_ := (Option.bind_some _ _).symm.trans H; rw [hy370]; with_reducible exact H2_) | (have H2_ := (Option.bind_some _ _).symm.trans H; with_reducible exact H2_) | with_reducible exact H | (rw [hy370]; exact H) | exact H
                        have Ny370 := Aside0.mk hy370
                        clear hy370
                        replace H := Option.bind_eq_some_iff.mp H
                        obtain ⟨t373, A320, H⟩ := H
                        replace H : (transhumancelaw1_TextSorts.l1 kj10 x8_1 t352 t373 1) = some r := H
                        have A32 := Aside0.mk A320
                        clear A320
                        have H' := Aside0.mk H
                        clear H
                        obtain ⟨Ao33, co33, eo33⟩ := Kd.R_slice HO_8.out
                        subst eo33
                        try go_wp2_with (first | ((with_reducible refine gate_callee (f := 39) rfl ?_); refine goesL_ (some 58) rfl rfl Tryd.func39 (by kernel_rfl) rfl #[.slice Ao33 x8_1.length co33] rfl (by (try simp only [List.map_toArray, List.map_cons, List.map_nil]); first | done | rfl | (simp only [List.length_drop, List.length_take]; rfl)) ?_; (with_reducible refine (text_Sorted.callsV _ _ x8_1 t352 _ ?side1 ?side2 A24.out).mono ?_); (case side1 => repeat (first | exact (Kd.R_reads' HO_8.out).2.2 | (with_reducible refine Kd.C_alloc ?_ _) | (with_reducible refine Kd.C_drewN ?_ _) | (with_reducible refine Kd.C_drew ?_))); (case side2 => exact (Kd.R_reads' HO_8.out).2.1); rintro e w34 ⟨v353, rfl, ho0, hb⟩; refine ⟨_, rfl, ?_⟩; have n0_ := Aside0.mk (Kd.R_below (by (with_reducible repeat (first | apply Kd.R_alloc | apply Kd.R_drewN | apply Kd.R_drew)); exact HO_8.out) hb); have n1_ := Aside0.mk (Kd.V_lower (Kd.V_mono (ok' := fun k_ => some k_ ≠ (.slice Ao33 x8_1.length co33 : Value).ownBlock) ho0 (fun k_ hk_ => (Kd.fresh' (Kd.R_lt (by (with_reducible repeat (first | apply Kd.R_alloc | apply Kd.R_drewN | apply Kd.R_drew)); exact HO_8.out)) k_ hk_))) (below_size (by repeat (first | (with_reducible first | exact HB.out | apply below_alloc | apply pw_below_drewN | apply below_drew1) | exact HB.out)))); have n2_ := Aside0.mk (below_step (by repeat (first | (with_reducible first | exact HB.out | apply below_alloc | apply pw_below_drewN | apply below_drew1) | exact HB.out)) hb); clear HO_8; clear HB; have HO_8 := n0_; have HO354 := n1_; have HB := n2_; clear n0_ n1_ n2_; (try clear hb); (try clear hb2); (try clear hk); (try clear hi); (try clear ho0)) | ((with_reducible refine gate_callee (f := 15) rfl ?_); refine goesL_ (some 63) rfl rfl Tryd.func15 (by kernel_rfl) rfl #[.int .i64 a2, .int .i64 (wrap64 ((x8_1.length : Int) + 1))] rfl (by (try simp only [List.map_toArray, List.map_cons, List.map_nil]); first | done | rfl | (simp only [List.length_drop, List.length_take]; rfl)) ?_; (with_reducible refine (transhumancelaw1_within.calls a2 (wrap64 ((x8_1.length : Int) + 1)) t355 _ A25.out).mono ?_); rintro e w' ⟨rfl, ⟨nd, rfl⟩⟩; refine ⟨_, rfl, ?_⟩))
                        (try (rw [drewN_self w34]; generalize hq_ : World.drewN w34 _ = w34; have n0_ : Aside0 (Kd.V Kd.string 9 w34 w.heap.size (fun k_ => some k_ ≠ (.slice Ao33 x8_1.length co33 : Value).ownBlock) v353 t352) := ⟨by rw [← hq_]; exact (by (with_reducible repeat (first | apply Kd.V_alloc | apply Kd.V_drewN | apply Kd.V_drew)); exact HO354.out)⟩; have n1_ : Aside0 (Kd.R Kd.string 9 w34 w.heap.size (fun _ => True) (.slice Ao33 x8_1.length co33) x8_1) := ⟨by rw [← hq_]; exact (by (with_reducible repeat (first | apply Kd.R_alloc | apply Kd.R_drewN | apply Kd.R_drew)); exact HO_8.out)⟩; have n2_ : Aside0 (Below w.heap.size w w34) := ⟨by rw [← hq_]; exact (by repeat (first | (with_reducible first | exact HB.out | apply below_alloc | apply pw_below_drewN | apply below_drew1) | exact HB.out))⟩; clear HO354 HO_8 HB hq_; have HO354 := n0_; have HO_8 := n1_; have HB := n2_; clear n0_ n1_ n2_))
                        have n0_ := Aside0.mk (Kd.R_drew HO_8.out)
                        have n1_ := Aside0.mk (Kd.V_drew HO354.out)
                        have n2_ := Aside0.mk (below_drew1 HB.out)
                        clear HO_8
                        clear HO354
                        clear HB
                        have HO_8 := n0_
                        have HO354 := n1_
                        have HB := n2_
                        clear n0_ n1_ n2_
                        have q36 : (t355 : Int) ≤ ((x8_1.length : Int) : Int) := of_decide_eq_true (by first | (with_reducible assumption) | assumption)
                        obtain ⟨i036, hi036, _, hsz36, _⟩ := info_parts info9
                        have hroom36 : x8_1.length ≤ co33 := (Kd.R_reads' HO_8.out).2.1
                        have hC36 : Kd.C Kd.string _ Ao33 x8_1.length x8_1 := (Kd.R_reads' HO_8.out).2.2
                        have q036 : (0 : Int) ≤ (t355 : Int) := of_decide_eq_true (by first | (with_reducible assumption) | assumption)
                        have hcut36 := cut_from (P := Tryd.prog) 25 9 .i64 Tryd.underlying25 hi036 1 hsz36 Ao33 x8_1.length co33 t355 q036 q36
                        have hr36 := Kd.C_drop (m := (t355 : Int).toNat) (c := co33) hC36 (by omega) hroom36
                        obtain ⟨A36, hA36⟩ : ∃ A1, A1 = (if co33 = (t355 : Int).toNat then Ao33 else (Ao33 : Option Addr).map (·.add ((t355 : Int).toNat * 1))) := ⟨_, rfl⟩
                        obtain ⟨c36, hc36⟩ : ∃ c1, c1 = co33 - (t355 : Int).toNat := ⟨_, rfl⟩
                        have hy36 : y359.length = x8_1.length - (t355 : Int).toNat := (by rw [Ny359.out, List.length_drop] <;> omega)
                        rw [show (x8_1).drop (t355 : Int).toNat = y359 from Ny359.out.symm] at hr36
                        replace hr36 : Kd.C Kd.string _ A36 y359.length y359 := (by rw [hA36]; exact hr36)
                        rw [← hy36, ← hA36, ← hc36] at hcut36
                        have HR362 := Aside0.mk hr36
                        have HC362 := Aside0.mk (show y359.length ≤ c36 from by rw [hy36, hc36]; exact Nat.sub_le_sub_right hroom36 _)
                        clear hr36 hC36 hroom36 hi036 hsz36 hc36
                        have KY36 := Aside0.mk hy36
                        have KA36 := Aside0.mk hA36
                        clear hy36 hA36
                        have KL36 := Aside0.mk (show (t355 : Int).toNat ≤ x8_1.length from by omega)
                        replace q36 := eq_true q36
                        have q37 : (t355 : Int) ≤ ((x8_1.length : Int) : Int) := of_decide_eq_true (by first | (with_reducible assumption) | assumption)
                        obtain ⟨i037, hi037, _, hsz37, _⟩ := info_parts info9
                        have hroom37 : x8_1.length ≤ co33 := (Kd.R_reads' HO_8.out).2.1
                        have hC37 : Kd.C Kd.string _ Ao33 x8_1.length x8_1 := (Kd.R_reads' HO_8.out).2.2
                        have hcut37 := cut_to (P := Tryd.prog) 25 9 .i64 Tryd.underlying25 hi037 Ao33 x8_1.length co33 t355 (of_decide_eq_true (by first | (with_reducible assumption) | assumption)) q37 hroom37
                        have hr37 := Kd.C_take (m := (t355 : Int).toNat) hC37 (by omega)
                        have hy37 : y366.length = (t355 : Int).toNat := (by rw [Ny366.out, List.length_take]; omega)
                        rw [← Ny366.out] at hr37
                        rw [← hy37] at hcut37
                        have HR369 := Aside0.mk hr37
                        have HC369 := Aside0.mk (show y366.length ≤ co33 from by omega)
                        clear hr37 hC37 hroom37 hi037 hsz37
                        have KY37 := Aside0.mk hy37
                        clear hy37
                        have KL37 := Aside0.mk (show (t355 : Int).toNat ≤ x8_1.length from by omega)
                        replace q37 := eq_true q37
                        refine start_ (n := 11) (S := fun w' => True) (ds := []) #[false, false, false, false, false, false, false, false, false, false, false] (by kernel_rfl) rfl rfl trivial (fun hHeld => ?_); refine with_tabW transhumancelaw1_TextSorts.tab14 transhumancelaw1_TextSorts.bits14 (fun HT_ HW_ => ?_)
                        generalize w34.drew = w35 at HO_8 HO354 HB HR362 HR369 hHeld ⊢
                        refine pure_ (i := 1) (N := some 65) (v := ?_) (a' := ?_) #[false, true, false, false, false, false, false, false, false, false, false] rfl rfl (any_of HT_.out (by kernel_rfl)) (fun _ _ _ h => h) (Or.inl ⟨by rfl, ?_⟩) ?_ ?_
                        rotate_left
                        · intro w'
                          go_simp
                          with_reducible rfl
                        rotate_left
                        · simp only [Act.put, List.setIfInBounds_toArray, List.set_cons_zero, List.set_cons_succ, i64_w, i32_w]
                          rfl
                        refine pure_ (i := 2) (N := some 66) (v := ?_) (a' := ?_) #[false, true, true, false, false, false, false, false, false, false, false] rfl rfl (any_of HT_.out (by kernel_rfl)) (fun _ _ _ h => h) (Or.inl ⟨by rfl, ?_⟩) ?_ ?_
                        rotate_left
                        · intro w'
                          go_simp
                          with_reducible rfl
                        rotate_left
                        · simp only [Act.put, List.setIfInBounds_toArray, List.set_cons_zero, List.set_cons_succ, i64_w, i32_w]
                          rfl
                        refine pure_ (i := 3) (N := some 67) (v := ?_) (a' := ?_) #[false, true, true, true, false, false, false, false, false, false, false] rfl rfl (any_of HT_.out (by kernel_rfl)) (fun _ _ _ h => h) (Or.inl ⟨by rfl, ?_⟩) ?_ ?_
                        rotate_left
                        · intro w'
                          go_simp
                          with_reducible rfl
                        rotate_left
                        · simp only [Act.put, List.setIfInBounds_toArray, List.set_cons_zero, List.set_cons_succ, i64_w, i32_w]
                          rfl
                        refine pure_ (i := 5) (N := some 69) (v := ?_) (a' := ?_) #[false, true, true, true, false, true, false, false, false, false, false] rfl rfl (any_of HT_.out (by kernel_rfl)) (fun _ _ _ h => h) (Or.inl ⟨by rfl, ?_⟩) ?_ ?_
                        rotate_left
                        · intro w'
                          go_simp
                          with_reducible rfl
                        rotate_left
                        · simp only [Act.put, List.setIfInBounds_toArray, List.set_cons_zero, List.set_cons_succ, i64_w, i32_w]
                          rfl
                        refine pure_ (i := 6) (N := some 70) (v := ?_) (a' := ?_) #[false, true, true, true, false, true, true, false, false, false, false] rfl rfl (any_of HT_.out (by kernel_rfl)) (fun _ _ _ h => h) (Or.inl ⟨by rfl, ?_⟩) ?_ ?_
                        rotate_left
                        · intro w'
                          go_simp
                          with_reducible rfl
                        rotate_left
                        · simp only [Act.put, List.setIfInBounds_toArray, List.set_cons_zero, List.set_cons_succ, i64_w, i32_w]
                          rfl
                        refine pure_ (i := 7) (N := some 71) (v := ?_) (a' := ?_) #[false, true, true, true, false, true, true, true, false, false, false] rfl rfl (any_of HT_.out (by kernel_rfl)) (fun _ _ _ h => h) (Or.inl ⟨by rfl, ?_⟩) ?_ ?_
                        rotate_left
                        · intro w'
                          go_simp
                          with_reducible rfl
                        rotate_left
                        · simp only [Act.put, List.setIfInBounds_toArray, List.set_cons_zero, List.set_cons_succ, i64_w, i32_w]
                          rfl
                        refine one_ (i := 0) (N := some 64) #[true, true, true, true, false, true, true, true, false, false, false] rfl rfl (one_of HT_.out (by kernel_rfl)) (by decide) (fun K hK => ?_)
                        refine Kd.R_lit_step Kd.string _ 9 ?hg (N := 64) ?hd (xs := ([] : List ByteArray)) (inner := []) (ok := fun _ => True) (okp := fun _ => True) ?hr ?hp (fun _ hk => hk) trivial (Below.refl _ _) (Nat.le_refl _) (by simp) ?_; (case hd => rfl); (case hg => rfl); (case hr => first | (go_simp; done) | (go_simp; rfl)); (case hp => exact (Reps.none _ _))
                        intro v357 w38 ho39 hb hg_ hnew_
                        clear hg_ hnew_
                        (first | rw [← Ny356.out] at ho39 | (simp only [Int.reduceToNat] at ho39; rw [← Ny356.out] at ho39))
                        have n0_ := Aside0.mk (Kd.R_elder' (by (with_reducible repeat (first | apply Kd.R_alloc | apply Kd.R_drewN | apply Kd.R_drew)); exact HO_8.out) (Kd.R_base ho39) hb)
                        have n1_ := Aside0.mk (Kd.V_elder' (by (with_reducible repeat (first | apply Kd.V_alloc | apply Kd.V_drewN | apply Kd.V_drew)); exact HO354.out) (Kd.R_base ho39) hb)
                        have n2_ := Aside0.mk (Kd.R_lower (Kd.R_new' ho39 (Kd.R_lt (by (with_reducible repeat (first | apply Kd.R_alloc | apply Kd.R_drewN | apply Kd.R_drew)); exact HO_8.out))) (below_size (by repeat (first | (with_reducible first | exact HB.out | apply below_alloc | apply pw_below_drewN | apply below_drew1) | exact HB.out))))
                        have n3_ := Aside0.mk (Kd.C_below (by repeat (first | (with_reducible exact HR362.out) | (with_reducible refine Kd.C_alloc ?_ _) | (with_reducible refine Kd.C_drewN ?_ _) | (with_reducible refine Kd.C_drew ?_) | exact HR362.out)) hb)
                        have n4_ := Aside0.mk (Kd.C_below (by repeat (first | (with_reducible exact HR369.out) | (with_reducible refine Kd.C_alloc ?_ _) | (with_reducible refine Kd.C_drewN ?_ _) | (with_reducible refine Kd.C_drew ?_) | exact HR369.out)) hb)
                        have n5_ := Aside0.mk (below_step (by repeat (first | (with_reducible first | exact HB.out | apply below_alloc | apply pw_below_drewN | apply below_drew1) | exact HB.out)) hb)
                        clear HO_8
                        clear HO354
                        clear HR362
                        clear HR369
                        clear HB
                        have HO_8 := n0_
                        have HO354 := n1_
                        have HO358 := n2_
                        have HR362 := n3_
                        have HR369 := n4_
                        have HB := n5_
                        clear n0_ n1_ n2_ n3_ n4_ n5_
                        clear hb ho39
                        refine hK.out _ _ trivial (fun hHeld => ?_)
                        clear hK K
                        refine norm_ (a' := ?_) ?_ ?_
                        rotate_left
                        · show Act.put _ (some 64) _ = _
                          simp only [Act.put, List.setIfInBounds_toArray, List.set_cons_zero, List.set_cons_succ, i64_w, i32_w]
                          rfl
                        refine one_ (i := 4) (N := some 68) #[true, true, true, true, true, true, true, true, false, false, false] rfl rfl (one_of HT_.out (by kernel_rfl)) (by decide) (fun K hK => ?_)
                        refine Kd.R_append_rows_step Kd.string (w0 := w) w.heap.size (by rfl) (.tmp 64) (.tmp 67) 25 9 (.string ⟨#[]⟩) 16 rfl Tryd.underlying25 info9 rfl (by decide) (by omega) v357 y356 y359 _ _ _ (fun k_ => some k_ ≠ (.slice Ao33 x8_1.length co33 : Value).ownBlock) (fun _ => False) rfl rfl ?aO ?aR (fun _ _ h => h) (fun _ h => h.elim) ?aF ?aB ?aS ?aL ?_
                        (case aR => repeat (first | exact (by repeat (first | (with_reducible exact HR362.out) | (with_reducible refine Kd.C_alloc ?_ _) | (with_reducible refine Kd.C_drewN ?_ _) | (with_reducible refine Kd.C_drew ?_) | exact HR362.out)) | (with_reducible refine Kd.C_alloc ?_ _) | (with_reducible refine Kd.C_drewN ?_ _) | (with_reducible refine Kd.C_drew ?_)))
                        (case aB => exact (by repeat (first | (with_reducible first | exact HB.out | apply below_alloc | apply pw_below_drewN | apply below_drew1) | exact HB.out)))
                        (case aF => exact (fun k_ hk => Kd.fresh' (Kd.R_lt (by (with_reducible repeat (first | apply Kd.R_alloc | apply Kd.R_drewN | apply Kd.R_drew)); exact HO_8.out)) k_ hk))
                        (case aO => exact (by (with_reducible repeat (first | apply Kd.R_alloc | apply Kd.R_drewN | apply Kd.R_drew)); exact Kd.R_mono HO358.out (fun _ hk => hk.2)))
                        (case aS => exact (below_size (by repeat (first | (with_reducible first | exact HB.out | apply below_alloc | apply pw_below_drewN | apply below_drew1) | exact HB.out))))
                        (case aL => have := LMc28.out; omega)
                        intro v364 w40 ho hb hg hat
                        rw [← Ny363.out] at ho
                        have n0_ := Aside0.mk (Kd.R_after (ok := (fun _ => True)) (by (with_reducible repeat (first | apply Kd.R_alloc | apply Kd.R_drewN | apply Kd.R_drew)); exact HO_8.out) hg hat)
                        have n1_ := Aside0.mk (Kd.V_afterv (ok := (fun k_ => some k_ ≠ (.slice Ao33 x8_1.length co33 : Value).ownBlock)) (by (with_reducible repeat (first | apply Kd.V_alloc | apply Kd.V_drewN | apply Kd.V_drew)); exact HO354.out) hg hat)
                        have n2_ := Aside0.mk (hb)
                        have n3_ := Aside0.mk ((show Kd.C Kd.string w40 A36 y359.length y359 from by rw [Ny359.out, KA36.out]; exact Kd.C_drop (m := (t355 : Int).toNat) (c := co33) ((Kd.R_reads' (Kd.R_after (ok := (fun _ => True)) (by (with_reducible repeat (first | apply Kd.R_alloc | apply Kd.R_drewN | apply Kd.R_drew)); exact HO_8.out) hg hat)).2.2) KL36.out ((Kd.R_reads' (Kd.R_after (ok := (fun _ => True)) (by (with_reducible repeat (first | apply Kd.R_alloc | apply Kd.R_drewN | apply Kd.R_drew)); exact HO_8.out) hg hat)).2.1)))
                        have n4_ := Aside0.mk ((show Kd.C Kd.string w40 Ao33 y366.length y366 from by rw [Ny366.out]; exact Kd.C_take (m := (t355 : Int).toNat) ((Kd.R_reads' (Kd.R_after (ok := (fun _ => True)) (by (with_reducible repeat (first | apply Kd.R_alloc | apply Kd.R_drewN | apply Kd.R_drew)); exact HO_8.out) hg hat)).2.2) KL37.out))
                        have n5_ := Aside0.mk (ho)
                        clear HO_8
                        clear HO354
                        clear HB
                        clear HR362
                        clear HR369
                        clear HO358
                        have HO_8 := n0_
                        have HO354 := n1_
                        have HB := n2_
                        have HR362 := n3_
                        have HR369 := n4_
                        have HO365 := n5_
                        clear n0_ n1_ n2_ n3_ n4_ n5_
                        clear ho hb hg hat
                        refine hK.out _ _ trivial (fun hHeld => ?_)
                        clear hK K
                        refine norm_ (a' := ?_) ?_ ?_
                        rotate_left
                        · show Act.put _ (some 68) _ = _
                          simp only [Act.put, List.setIfInBounds_toArray, List.set_cons_zero, List.set_cons_succ, i64_w, i32_w]
                          rfl
                        refine one_ (i := 8) (N := some 72) #[true, true, true, true, true, true, true, true, true, false, false] rfl rfl (one_of HT_.out (by kernel_rfl)) (by decide) (fun K hK => ?_)
                        refine Kd.R_append_rows_step Kd.string (w0 := w) w.heap.size (by rfl) (.tmp 68) (.tmp 71) 25 9 (.string ⟨#[]⟩) 16 rfl Tryd.underlying25 info9 rfl (by decide) (by omega) v364 y363 y366 _ _ _ (fun k_ => some k_ ≠ (.slice Ao33 x8_1.length co33 : Value).ownBlock) (fun _ => False) rfl rfl ?aO ?aR (fun _ _ h => h) (fun _ h => h.elim) ?aF ?aB ?aS ?aL ?_
                        (case aR => repeat (first | exact (by repeat (first | (with_reducible exact HR369.out) | (with_reducible refine Kd.C_alloc ?_ _) | (with_reducible refine Kd.C_drewN ?_ _) | (with_reducible refine Kd.C_drew ?_) | exact HR369.out)) | (with_reducible refine Kd.C_alloc ?_ _) | (with_reducible refine Kd.C_drewN ?_ _) | (with_reducible refine Kd.C_drew ?_)))
                        (case aB => exact (by repeat (first | (with_reducible first | exact HB.out | apply below_alloc | apply pw_below_drewN | apply below_drew1) | exact HB.out)))
                        (case aF => exact (fun k_ hk => Kd.fresh' (Kd.R_lt (by (with_reducible repeat (first | apply Kd.R_alloc | apply Kd.R_drewN | apply Kd.R_drew)); exact HO_8.out)) k_ hk))
                        (case aO => exact (by (with_reducible repeat (first | apply Kd.R_alloc | apply Kd.R_drewN | apply Kd.R_drew)); exact HO365.out))
                        (case aS => exact (below_size (by repeat (first | (with_reducible first | exact HB.out | apply below_alloc | apply pw_below_drewN | apply below_drew1) | exact HB.out))))
                        (case aL => have := LMc31.out; omega)
                        intro v371 w41 ho hb hg hat
                        rw [← Ny370.out] at ho
                        have n0_ := Aside0.mk (Kd.R_after (ok := (fun _ => True)) (by (with_reducible repeat (first | apply Kd.R_alloc | apply Kd.R_drewN | apply Kd.R_drew)); exact HO_8.out) hg hat)
                        have n1_ := Aside0.mk (Kd.V_afterv (ok := (fun k_ => some k_ ≠ (.slice Ao33 x8_1.length co33 : Value).ownBlock)) (by (with_reducible repeat (first | apply Kd.V_alloc | apply Kd.V_drewN | apply Kd.V_drew)); exact HO354.out) hg hat)
                        have n2_ := Aside0.mk (hb)
                        have n3_ := Aside0.mk ((show Kd.C Kd.string w41 A36 y359.length y359 from by rw [Ny359.out, KA36.out]; exact Kd.C_drop (m := (t355 : Int).toNat) (c := co33) ((Kd.R_reads' (Kd.R_after (ok := (fun _ => True)) (by (with_reducible repeat (first | apply Kd.R_alloc | apply Kd.R_drewN | apply Kd.R_drew)); exact HO_8.out) hg hat)).2.2) KL36.out ((Kd.R_reads' (Kd.R_after (ok := (fun _ => True)) (by (with_reducible repeat (first | apply Kd.R_alloc | apply Kd.R_drewN | apply Kd.R_drew)); exact HO_8.out) hg hat)).2.1)))
                        have n4_ := Aside0.mk ((show Kd.C Kd.string w41 Ao33 y366.length y366 from by rw [Ny366.out]; exact Kd.C_take (m := (t355 : Int).toNat) ((Kd.R_reads' (Kd.R_after (ok := (fun _ => True)) (by (with_reducible repeat (first | apply Kd.R_alloc | apply Kd.R_drewN | apply Kd.R_drew)); exact HO_8.out) hg hat)).2.2) KL37.out))
                        have n5_ := Aside0.mk (ho)
                        clear HO_8
                        clear HO354
                        clear HB
                        clear HR362
                        clear HR369
                        clear HO365
                        have HO_8 := n0_
                        have HO354 := n1_
                        have HB := n2_
                        have HR362 := n3_
                        have HR369 := n4_
                        have HO372 := n5_
                        clear n0_ n1_ n2_ n3_ n4_ n5_
                        clear ho hb hg hat
                        obtain ⟨Ao42, co42, eo42⟩ := Kd.R_slice HO372.out
                        (first | subst eo42 | (injection eo42 with f1_ f2_ f3_; have f4_ := f1_.symm; have f5_ := f3_.symm; clear f1_ f2_ f3_; subst f4_; subst f5_))
                        refine hK.out _ _ trivial (fun hHeld => ?_)
                        clear hK K
                        refine norm_ (a' := ?_) ?_ ?_
                        rotate_left
                        · show Act.put _ (some 72) _ = _
                          simp only [Act.put, List.setIfInBounds_toArray, List.set_cons_zero, List.set_cons_succ, i64_w, i32_w]
                          rfl
                        refine one_ (i := 9) (N := some 73) #[true, true, true, true, true, true, true, true, true, true, false] rfl rfl (one_of HT_.out (by kernel_rfl)) (by decide) (fun K hK => ?_)
                        refine goes_ Tryd.func39 (by kernel_rfl) rfl #[.slice Ao42 y370.length co42] (by rfl) rfl rfl (by (try simp only [List.map_toArray, List.map_cons, List.map_nil]); first | done | rfl | (simp only [List.length_drop, List.length_take]; rfl)) ?_
                        with_reducible refine (text_Sorted.callsV _ _ y370 t373 _ ?side1 ?side2 A32.out).mono ?_
                        (case side1 => repeat (first | exact (Kd.R_reads' HO372.out).2.2 | (with_reducible refine Kd.C_alloc ?_ _) | (with_reducible refine Kd.C_drewN ?_ _) | (with_reducible refine Kd.C_drew ?_)))
                        (case side2 => exact (Kd.R_reads' HO372.out).2.1)
                        rintro e w43 ⟨v374, rfl, ho0, hb⟩
                        refine ⟨_, rfl, ?_⟩
                        have n0_ := Aside0.mk (Kd.R_below (by (with_reducible repeat (first | apply Kd.R_alloc | apply Kd.R_drewN | apply Kd.R_drew)); exact HO_8.out) hb)
                        have n1_ := Aside0.mk (Kd.V_below (by (with_reducible repeat (first | apply Kd.V_alloc | apply Kd.V_drewN | apply Kd.V_drew)); exact HO354.out) hb)
                        have n2_ := Aside0.mk (Kd.R_below (by (with_reducible repeat (first | apply Kd.R_alloc | apply Kd.R_drewN | apply Kd.R_drew)); exact HO372.out) hb)
                        have n3_ := Aside0.mk (Kd.V_lower (Kd.V_mono (ok' := fun k_ => some k_ ≠ (.slice Ao33 x8_1.length co33 : Value).ownBlock ∧ some k_ ≠ (.slice Ao42 y370.length co42 : Value).ownBlock) ho0 (fun k_ hk_ => ⟨(Kd.fresh' (Kd.R_lt (by (with_reducible repeat (first | apply Kd.R_alloc | apply Kd.R_drewN | apply Kd.R_drew)); exact HO_8.out)) k_ hk_), (Kd.fresh' (Kd.R_lt (by (with_reducible repeat (first | apply Kd.R_alloc | apply Kd.R_drewN | apply Kd.R_drew)); exact HO372.out)) k_ hk_)⟩)) (below_size (by repeat (first | (with_reducible first | exact HB.out | apply below_alloc | apply pw_below_drewN | apply below_drew1) | exact HB.out))))
                        have n4_ := Aside0.mk (Kd.C_below (by repeat (first | (with_reducible exact HR362.out) | (with_reducible refine Kd.C_alloc ?_ _) | (with_reducible refine Kd.C_drewN ?_ _) | (with_reducible refine Kd.C_drew ?_) | exact HR362.out)) hb)
                        have n5_ := Aside0.mk (Kd.C_below (by repeat (first | (with_reducible exact HR369.out) | (with_reducible refine Kd.C_alloc ?_ _) | (with_reducible refine Kd.C_drewN ?_ _) | (with_reducible refine Kd.C_drew ?_) | exact HR369.out)) hb)
                        have n6_ := Aside0.mk (below_step (by repeat (first | (with_reducible first | exact HB.out | apply below_alloc | apply pw_below_drewN | apply below_drew1) | exact HB.out)) hb)
                        clear HO_8
                        clear HO354
                        clear HO372
                        clear HR362
                        clear HR369
                        clear HB
                        have HO_8 := n0_
                        have HO354 := n1_
                        have HO372 := n2_
                        have HO375 := n3_
                        have HR362 := n4_
                        have HR369 := n5_
                        have HB := n6_
                        clear n0_ n1_ n2_ n3_ n4_ n5_ n6_
                        (try clear hb)
                        (try clear hb2)
                        (try clear hk)
                        (try clear hi)
                        (try clear ho0)
                        refine hK.out _ _ trivial (fun hHeld => ?_)
                        clear hK K
                        refine norm_ (a' := ?_) ?_ ?_
                        rotate_left
                        · show Act.put _ (some 73) _ = _
                          simp only [Act.put, List.setIfInBounds_toArray, List.set_cons_zero, List.set_cons_succ, i64_w, i32_w]
                          rfl
                        refine pure_ (i := 10) (N := some 13) (v := ?_) (a' := ?_) #[true, true, true, true, true, true, true, true, true, true, true] rfl rfl (any_of HT_.out (by kernel_rfl)) (fun _ _ _ h => h) (Or.inl ⟨by rfl, ?_⟩) ?_ ?_
                        rotate_left
                        · intro w'
                          go_simp
                          with_reducible rfl
                        rotate_left
                        · simp only [Act.put, List.setIfInBounds_toArray, List.set_cons_zero, List.set_cons_succ, i64_w, i32_w]
                          rfl
                        refine done_ (done_of HT_.out (by kernel_rfl)) ?_
                        try go_wp2
                        go_loopg [14] kj10 (fun kq v14 w' => ∃ (x14_3 : Int), v14 = .int .i64 x14_3 ∧ Aside0 (transhumancelaw1_TextSorts.l1 kq x8_1 t352 t373 x14_3 = some r) ∧ Aside0 (kq ≤ kj10) ∧ Aside0 (Kd.R Kd.string 9 w' w.heap.size (fun _ => True) (.slice Ao33 x8_1.length co33) x8_1) ∧ Aside0 (Kd.V Kd.string 9 w' w.heap.size (fun k_ => some k_ ≠ ((.slice Ao33 x8_1.length co33) : Value).ownBlock) v353 t352) ∧ Aside0 (Kd.V Kd.string 9 w' w.heap.size (fun k_ => some k_ ≠ ((.slice Ao33 x8_1.length co33) : Value).ownBlock) v374 t373) ∧ Aside0 (Below w.heap.size w w'))
                        case atStart => exact ⟨(1), (by first | rfl | (simp; done) | (simp [*]; done)), H', ⟨Nat.le_refl _⟩, ⟨by (with_reducible repeat (first | apply Kd.R_alloc | apply Kd.R_drewN | apply Kd.R_drew)); exact Kd.R_mono HO_8.out (fun _ hk => trivial)⟩, ⟨by (with_reducible repeat (first | apply Kd.V_alloc | apply Kd.V_drewN | apply Kd.V_drew)); exact Kd.V_mono HO354.out (fun _ hk => hk.1)⟩, ⟨by (with_reducible repeat (first | apply Kd.V_alloc | apply Kd.V_drewN | apply Kd.V_drew)); exact Kd.V_mono HO375.out (fun _ hk => hk.1)⟩, ⟨by repeat (first | (with_reducible first | exact HB.out | apply below_alloc | apply pw_below_drewN | apply below_drew1) | exact HB.out)⟩⟩
                        case round =>
                          clear H'
                          try clear c1
                          try clear c2
                          try clear p2
                          try clear c3
                          try clear p3
                          try clear q3
                          try clear hx3
                          try clear c5
                          try clear c6
                          try clear c6b0
                          try clear c6b1
                          try clear p6
                          try clear c8
                          try clear c12
                          try clear c12b0
                          try clear c13
                          try clear c14
                          try clear c14b0
                          try clear c15
                          try clear c15b0
                          try clear c19
                          try clear c19b0
                          try clear c19b1
                          try clear c20
                          try clear c20b0
                          try clear c20b1
                          try clear c21
                          try clear c21b0
                          try clear c21b1
                          try clear c22
                          try clear c26
                          try clear c26b0
                          try clear c26b1
                          try clear c27
                          try clear c27b0
                          try clear c27b1
                          try clear c28
                          try clear c29
                          try clear c29b0
                          try clear c30
                          try clear c30b0
                          try clear c31
                          try clear p34
                          try clear q34
                          try clear hx34
                          try clear c36
                          try clear q36
                          try clear q37
                          try clear c39
                          try clear hx345_0
                          try clear hx347_0
                          try clear p2
                          try clear p345
                          try clear p347
                          try clear q036
                          try clear q345
                          try clear q347
                          try clear q36
                          try clear q37
                          obtain ⟨x14_3, rfl, HA, HK3, HO_8, HO_11, HO_13, HB⟩ := hrel
                          cases gk with
                          | zero => exact absurd HA.out (by simp [transhumancelaw1_TextSorts.l1])
                          | succ k3 =>
                            have H := HA.out
                            clear HA
                            simp only [transhumancelaw1_TextSorts.l1] at H
                            by_cases c44 : x14_3 < (t352.length : Int)
                            · rw [if_pos c44] at H
                              have c44b0 : decide (x14_3 < (t352.length : Int)) = true := decide_eq_true c44
                              clear c44
                              obtain ⟨ji45, hji45⟩ : ∃ j_ : Int, (wrap64 (x14_3 - 1)) = j_ := ⟨_, rfl⟩
                              replace H : (if 0 ≤ (ji45) then (if (ji45) < (t352.length : Int) then (if 0 ≤ x14_3 then (if ((Op.bytesLess ((rdOf ByteArray.empty t352 (ji45)).toList) ((rdOf ByteArray.empty t352 x14_3).toList)) = true) then (transhumancelaw1_TextSorts.l1 k3 x8_1 t352 t373 (wrap64 (x14_3 + 1))) else (some false)) else (none)) else (none)) else (none)) = some r := by first | (rw [hji45] at H; exact H) | (simp only [hji45] at H ⊢; exact H)
                              have hji45w : (IntKind.i64.wrap (x14_3 - 1)) = ji45 := (i64_w _).trans hji45
                              by_cases c46 : 0 ≤ (ji45)
                              · rw [if_pos c46] at H
                                have c46b0 : decide (0 ≤ (ji45)) = true := decide_eq_true c46
                                clear c46
                                by_cases c47 : (ji45) < (t352.length : Int)
                                · rw [if_pos c47] at H
                                  have c47b0 : decide ((ji45) < (t352.length : Int)) = true := decide_eq_true c47
                                  clear c47
                                  by_cases c48 : 0 ≤ x14_3
                                  · rw [if_pos c48] at H
                                    have c48b0 : decide (0 ≤ x14_3) = true := decide_eq_true c48
                                    clear c48
                                    by_cases c49 : ((Op.bytesLess ((rdOf ByteArray.empty t352 (ji45)).toList) ((rdOf ByteArray.empty t352 x14_3).toList)) = true)
                                    · rw [if_pos c49] at H
                                      have c49b0 : (Op.bytesLess ((rdOf ByteArray.empty t352 (ji45)).toList) ((rdOf ByteArray.empty t352 x14_3).toList)) = true := c49
                                      clear c49
                                      have H' := Aside0.mk H
                                      clear H
                                      obtain ⟨Ao50, co50, eo50⟩ := Kd.V_slice HO_11.out
                                      subst eo50
                                      try go_wp2
                                      have n0_ := Aside0.mk (Kd.R_drew HO_8.out)
                                      have n1_ := Aside0.mk (Kd.V_drew HO_11.out)
                                      have n2_ := Aside0.mk (Kd.V_drew HO_13.out)
                                      have n3_ := Aside0.mk (below_drew1 HB.out)
                                      clear HO_8
                                      clear HO_11
                                      clear HO_13
                                      clear HB
                                      have HO_8 := n0_
                                      have HO_11 := n1_
                                      have HO_13 := n2_
                                      have HB := n3_
                                      clear n0_ n1_ n2_ n3_
                                      have p376 : 0 ≤ ((ji45) : Int) := of_decide_eq_true (by first | (with_reducible assumption) | assumption)
                                      have q376 : (ji45) < (t352.length : Int) := of_decide_eq_true (by first | (with_reducible assumption) | assumption)
                                      obtain ⟨ad376, e376, hx376_0⟩ := Kd.at_string (Kd.V_reads' HO_11.out).2.2 (ji45) p376 q376
                                      cases e376
                                      replace p376 := eq_true p376
                                      replace q376 := eq_true q376
                                      have p377 : 0 ≤ (x14_3 : Int) := of_decide_eq_true (by first | (with_reducible assumption) | assumption)
                                      have q377 : x14_3 < (t352.length : Int) := of_decide_eq_true (by first | (with_reducible assumption) | assumption)
                                      obtain ⟨ad377, e377, hx377_0⟩ := Kd.at_string (Kd.V_reads' HO_11.out).2.2 x14_3 p377 q377
                                      obtain rfl : ad376 = ad377 := (by injection e377)
                                      replace p377 := eq_true p377
                                      replace q377 := eq_true q377
                                      refine start_ (n := 10) (S := fun w' => w'.cell? (ad376.add ((ji45)).toNat) = some (.string (rdOf ByteArray.empty t352 (ji45))) ∧ w'.cell? (ad376.add (x14_3).toNat) = some (.string (rdOf ByteArray.empty t352 x14_3))) (ds := []) #[false, false, false, false, false, false, false, false, false, false] (by kernel_rfl) rfl rfl ⟨hx376_0, hx377_0⟩ (fun hHeld => ?_); refine with_tabW transhumancelaw1_TextSorts.tab18 transhumancelaw1_TextSorts.bits18 (fun HT_ HW_ => ?_)
                                      generalize wr.drew = w51 at HO_8 HO_11 HO_13 HB hx376_0 hx377_0 hHeld ⊢
                                      refine pure_ (i := 0) (N := some 80) (v := ?_) (a' := ?_) #[true, false, false, false, false, false, false, false, false, false] rfl rfl (any_of HT_.out (by kernel_rfl)) (fun _ _ _ h => h) (Or.inl ⟨by rfl, ?_⟩) ?_ ?_
                                      rotate_left
                                      · intro w'
                                        go_simp
                                        with_reducible rfl
                                      rotate_left
                                      · simp only [Act.put, List.setIfInBounds_toArray, List.set_cons_zero, List.set_cons_succ, i64_w, i32_w]
                                        rfl
                                      refine pure_ (i := 1) (N := some 81) (v := ?_) (a' := ?_) #[true, true, false, false, false, false, false, false, false, false] rfl rfl (any_of HT_.out (by kernel_rfl)) (fun _ _ _ h => h) (Or.inl ⟨by rfl, ?_⟩) ?_ ?_
                                      rotate_left
                                      · intro w'
                                        go_simp
                                        with_reducible rfl
                                      rotate_left
                                      · simp only [Act.put, List.setIfInBounds_toArray, List.set_cons_zero, List.set_cons_succ, i64_w, i32_w]
                                        rfl
                                      refine pure_ (i := 2) (N := some 82) (v := ?_) (a' := ?_) #[true, true, true, false, false, false, false, false, false, false] rfl rfl (any_of HT_.out (by kernel_rfl)) (fun _ _ _ h => h) (Or.inl ⟨by rfl, ?_⟩) ?_ ?_
                                      rotate_left
                                      · intro w'
                                        go_simp
                                        with_reducible rfl
                                      rotate_left
                                      · simp only [Act.put, List.setIfInBounds_toArray, List.set_cons_zero, List.set_cons_succ, i64_w, i32_w]
                                        rfl
                                      refine pure_ (i := 3) (N := some 83) (v := ?_) (a' := ?_) #[true, true, true, true, false, false, false, false, false, false] rfl rfl (any_of HT_.out (by kernel_rfl)) (fun _ _ _ h => h) (Or.inl ⟨by rfl, ?_⟩) ?_ ?_
                                      rotate_left
                                      · intro w'
                                        go_simp
                                        with_reducible rfl
                                      rotate_left
                                      · simp only [Act.put, List.setIfInBounds_toArray, List.set_cons_zero, List.set_cons_succ, i64_w, i32_w]
                                        rfl
                                      refine pure_ (i := 5) (N := some 85) (v := ?_) (a' := ?_) #[true, true, true, true, false, true, false, false, false, false] rfl rfl (any_of HT_.out (by kernel_rfl)) (fun _ _ _ h => h) (Or.inl ⟨by rfl, ?_⟩) ?_ ?_
                                      rotate_left
                                      · intro w'
                                        go_simp
                                        with_reducible rfl
                                      rotate_left
                                      · simp only [Act.put, List.setIfInBounds_toArray, List.set_cons_zero, List.set_cons_succ, i64_w, i32_w]
                                        rfl
                                      refine pure_ (i := 6) (N := some 86) (v := ?_) (a' := ?_) #[true, true, true, true, false, true, true, false, false, false] rfl rfl (any_of HT_.out (by kernel_rfl)) (fun _ _ _ h => h) (Or.inl ⟨by rfl, ?_⟩) ?_ ?_
                                      rotate_left
                                      · intro w'
                                        go_simp
                                        with_reducible rfl
                                      rotate_left
                                      · simp only [Act.put, List.setIfInBounds_toArray, List.set_cons_zero, List.set_cons_succ, i64_w, i32_w]
                                        rfl
                                      refine pure_ (i := 7) (N := some 87) (v := ?_) (a' := ?_) #[true, true, true, true, false, true, true, true, false, false] rfl rfl (any_of HT_.out (by kernel_rfl)) (fun _ _ _ h => h) (Or.inl ⟨by rfl, ?_⟩) ?_ ?_
                                      rotate_left
                                      · intro w'
                                        go_simp
                                        with_reducible rfl
                                      rotate_left
                                      · simp only [Act.put, List.setIfInBounds_toArray, List.set_cons_zero, List.set_cons_succ, i64_w, i32_w]
                                        rfl
                                      refine take_ (i := 4) (N := some 84) (v := ?_) (a' := ?_) #[true, true, true, true, true, true, true, true, false, false] rfl rfl (take_ofW HT_.out HW_.out (by kernel_rfl)) (fun _ _ _ h => h) (Or.inl ⟨by rfl, ?_⟩) hHeld ?_ ?_
                                      rotate_left
                                      · rintro w' ⟨s0, s1⟩
                                        go_simp
                                        with_reducible rfl
                                      rotate_left
                                      · simp only [Act.put, List.setIfInBounds_toArray, List.set_cons_zero, List.set_cons_succ, i64_w, i32_w]
                                        rfl
                                      refine take_ (i := 8) (N := some 88) (v := ?_) (a' := ?_) #[true, true, true, true, true, true, true, true, true, false] rfl rfl (take_ofW HT_.out HW_.out (by kernel_rfl)) (fun _ _ _ h => h) (Or.inl ⟨by rfl, ?_⟩) hHeld ?_ ?_
                                      rotate_left
                                      · rintro w' ⟨s0, s1⟩
                                        go_simp
                                        with_reducible rfl
                                      rotate_left
                                      · simp only [Act.put, List.setIfInBounds_toArray, List.set_cons_zero, List.set_cons_succ, i64_w, i32_w]
                                        rfl
                                      refine pure_ (i := 9) (N := some 89) (v := ?_) (a' := ?_) #[true, true, true, true, true, true, true, true, true, true] rfl rfl (any_of HT_.out (by kernel_rfl)) (fun _ _ _ h => h) (Or.inl ⟨by rfl, ?_⟩) ?_ ?_
                                      rotate_left
                                      · intro w'
                                        go_simp
                                        with_reducible rfl
                                      rotate_left
                                      · simp only [Act.put, List.setIfInBounds_toArray, List.set_cons_zero, List.set_cons_succ, i64_w, i32_w]
                                        rfl
                                      refine done_ (done_of HT_.out (by kernel_rfl)) ?_
                                      try go_wp2
                                      go_roundg k3
                                      case measure => have := HK1.out; have := HJ10.out; have := HK3.out; omega
                                      case rel => exact ⟨(wrap64 (x14_3 + 1)), (by first | rfl | (simp; done) | (simp [*]; done)), H', ⟨by have := HK1.out; have := HJ10.out; have := HK3.out; omega⟩, ⟨by (with_reducible repeat (first | apply Kd.R_alloc | apply Kd.R_drewN | apply Kd.R_drew)); exact HO_8.out⟩, ⟨by (with_reducible repeat (first | apply Kd.V_alloc | apply Kd.V_drewN | apply Kd.V_drew)); exact HO_11.out⟩, ⟨by (with_reducible repeat (first | apply Kd.V_alloc | apply Kd.V_drewN | apply Kd.V_drew)); exact HO_13.out⟩, ⟨by repeat (first | (with_reducible first | exact HB.out | apply below_alloc | apply pw_below_drewN | apply below_drew1) | exact HB.out)⟩⟩
                                    · rw [if_neg c49] at H
                                      have c49b0 : (Op.bytesLess ((rdOf ByteArray.empty t352 (ji45)).toList) ((rdOf ByteArray.empty t352 x14_3).toList)) = false := by simpa using c49
                                      clear c49
                                      obtain rfl := Option.some.inj H
                                      obtain ⟨Ao52, co52, eo52⟩ := Kd.V_slice HO_11.out
                                      subst eo52
                                      try go_wp2
                                      have n0_ := Aside0.mk (Kd.R_drew HO_8.out)
                                      have n1_ := Aside0.mk (Kd.V_drew HO_11.out)
                                      have n2_ := Aside0.mk (Kd.V_drew HO_13.out)
                                      have n3_ := Aside0.mk (below_drew1 HB.out)
                                      clear HO_8
                                      clear HO_11
                                      clear HO_13
                                      clear HB
                                      have HO_8 := n0_
                                      have HO_11 := n1_
                                      have HO_13 := n2_
                                      have HB := n3_
                                      clear n0_ n1_ n2_ n3_
                                      have p376 : 0 ≤ ((ji45) : Int) := of_decide_eq_true (by first | (with_reducible assumption) | assumption)
                                      have q376 : (ji45) < (t352.length : Int) := of_decide_eq_true (by first | (with_reducible assumption) | assumption)
                                      obtain ⟨ad376, e376, hx376_0⟩ := Kd.at_string (Kd.V_reads' HO_11.out).2.2 (ji45) p376 q376
                                      cases e376
                                      replace p376 := eq_true p376
                                      replace q376 := eq_true q376
                                      have p377 : 0 ≤ (x14_3 : Int) := of_decide_eq_true (by first | (with_reducible assumption) | assumption)
                                      have q377 : x14_3 < (t352.length : Int) := of_decide_eq_true (by first | (with_reducible assumption) | assumption)
                                      obtain ⟨ad377, e377, hx377_0⟩ := Kd.at_string (Kd.V_reads' HO_11.out).2.2 x14_3 p377 q377
                                      obtain rfl : ad376 = ad377 := (by injection e377)
                                      replace p377 := eq_true p377
                                      replace q377 := eq_true q377
                                      refine start_ (n := 10) (S := fun w' => w'.cell? (ad376.add ((ji45)).toNat) = some (.string (rdOf ByteArray.empty t352 (ji45))) ∧ w'.cell? (ad376.add (x14_3).toNat) = some (.string (rdOf ByteArray.empty t352 x14_3))) (ds := []) #[false, false, false, false, false, false, false, false, false, false] (by kernel_rfl) rfl rfl ⟨hx376_0, hx377_0⟩ (fun hHeld => ?_); refine with_tabW transhumancelaw1_TextSorts.tab18 transhumancelaw1_TextSorts.bits18 (fun HT_ HW_ => ?_)
                                      generalize wr.drew = w53 at HO_8 HO_11 HO_13 HB hx376_0 hx377_0 hHeld ⊢
                                      refine pure_ (i := 0) (N := some 80) (v := ?_) (a' := ?_) #[true, false, false, false, false, false, false, false, false, false] rfl rfl (any_of HT_.out (by kernel_rfl)) (fun _ _ _ h => h) (Or.inl ⟨by rfl, ?_⟩) ?_ ?_
                                      rotate_left
                                      · intro w'
                                        go_simp
                                        with_reducible rfl
                                      rotate_left
                                      · simp only [Act.put, List.setIfInBounds_toArray, List.set_cons_zero, List.set_cons_succ, i64_w, i32_w]
                                        rfl
                                      refine pure_ (i := 1) (N := some 81) (v := ?_) (a' := ?_) #[true, true, false, false, false, false, false, false, false, false] rfl rfl (any_of HT_.out (by kernel_rfl)) (fun _ _ _ h => h) (Or.inl ⟨by rfl, ?_⟩) ?_ ?_
                                      rotate_left
                                      · intro w'
                                        go_simp
                                        with_reducible rfl
                                      rotate_left
                                      · simp only [Act.put, List.setIfInBounds_toArray, List.set_cons_zero, List.set_cons_succ, i64_w, i32_w]
                                        rfl
                                      refine pure_ (i := 2) (N := some 82) (v := ?_) (a' := ?_) #[true, true, true, false, false, false, false, false, false, false] rfl rfl (any_of HT_.out (by kernel_rfl)) (fun _ _ _ h => h) (Or.inl ⟨by rfl, ?_⟩) ?_ ?_
                                      rotate_left
                                      · intro w'
                                        go_simp
                                        with_reducible rfl
                                      rotate_left
                                      · simp only [Act.put, List.setIfInBounds_toArray, List.set_cons_zero, List.set_cons_succ, i64_w, i32_w]
                                        rfl
                                      refine pure_ (i := 3) (N := some 83) (v := ?_) (a' := ?_) #[true, true, true, true, false, false, false, false, false, false] rfl rfl (any_of HT_.out (by kernel_rfl)) (fun _ _ _ h => h) (Or.inl ⟨by rfl, ?_⟩) ?_ ?_
                                      rotate_left
                                      · intro w'
                                        go_simp
                                        with_reducible rfl
                                      rotate_left
                                      · simp only [Act.put, List.setIfInBounds_toArray, List.set_cons_zero, List.set_cons_succ, i64_w, i32_w]
                                        rfl
                                      refine pure_ (i := 5) (N := some 85) (v := ?_) (a' := ?_) #[true, true, true, true, false, true, false, false, false, false] rfl rfl (any_of HT_.out (by kernel_rfl)) (fun _ _ _ h => h) (Or.inl ⟨by rfl, ?_⟩) ?_ ?_
                                      rotate_left
                                      · intro w'
                                        go_simp
                                        with_reducible rfl
                                      rotate_left
                                      · simp only [Act.put, List.setIfInBounds_toArray, List.set_cons_zero, List.set_cons_succ, i64_w, i32_w]
                                        rfl
                                      refine pure_ (i := 6) (N := some 86) (v := ?_) (a' := ?_) #[true, true, true, true, false, true, true, false, false, false] rfl rfl (any_of HT_.out (by kernel_rfl)) (fun _ _ _ h => h) (Or.inl ⟨by rfl, ?_⟩) ?_ ?_
                                      rotate_left
                                      · intro w'
                                        go_simp
                                        with_reducible rfl
                                      rotate_left
                                      · simp only [Act.put, List.setIfInBounds_toArray, List.set_cons_zero, List.set_cons_succ, i64_w, i32_w]
                                        rfl
                                      refine pure_ (i := 7) (N := some 87) (v := ?_) (a' := ?_) #[true, true, true, true, false, true, true, true, false, false] rfl rfl (any_of HT_.out (by kernel_rfl)) (fun _ _ _ h => h) (Or.inl ⟨by rfl, ?_⟩) ?_ ?_
                                      rotate_left
                                      · intro w'
                                        go_simp
                                        with_reducible rfl
                                      rotate_left
                                      · simp only [Act.put, List.setIfInBounds_toArray, List.set_cons_zero, List.set_cons_succ, i64_w, i32_w]
                                        rfl
                                      refine take_ (i := 4) (N := some 84) (v := ?_) (a' := ?_) #[true, true, true, true, true, true, true, true, false, false] rfl rfl (take_ofW HT_.out HW_.out (by kernel_rfl)) (fun _ _ _ h => h) (Or.inl ⟨by rfl, ?_⟩) hHeld ?_ ?_
                                      rotate_left
                                      · rintro w' ⟨s0, s1⟩
                                        go_simp
                                        with_reducible rfl
                                      rotate_left
                                      · simp only [Act.put, List.setIfInBounds_toArray, List.set_cons_zero, List.set_cons_succ, i64_w, i32_w]
                                        rfl
                                      refine take_ (i := 8) (N := some 88) (v := ?_) (a' := ?_) #[true, true, true, true, true, true, true, true, true, false] rfl rfl (take_ofW HT_.out HW_.out (by kernel_rfl)) (fun _ _ _ h => h) (Or.inl ⟨by rfl, ?_⟩) hHeld ?_ ?_
                                      rotate_left
                                      · rintro w' ⟨s0, s1⟩
                                        go_simp
                                        with_reducible rfl
                                      rotate_left
                                      · simp only [Act.put, List.setIfInBounds_toArray, List.set_cons_zero, List.set_cons_succ, i64_w, i32_w]
                                        rfl
                                      refine pure_ (i := 9) (N := some 89) (v := ?_) (a' := ?_) #[true, true, true, true, true, true, true, true, true, true] rfl rfl (any_of HT_.out (by kernel_rfl)) (fun _ _ _ h => h) (Or.inl ⟨by rfl, ?_⟩) ?_ ?_
                                      rotate_left
                                      · intro w'
                                        go_simp
                                        with_reducible rfl
                                      rotate_left
                                      · simp only [Act.put, List.setIfInBounds_toArray, List.set_cons_zero, List.set_cons_succ, i64_w, i32_w]
                                        rfl
                                      refine done_ (done_of HT_.out (by kernel_rfl)) ?_
                                      try go_wp2
                                      go_ret
                                      exact ⟨by first | rfl | (simp [errW_none, errW_some] <;> rfl) | (simp only [← hji45]; first | rfl | (simp [errW_none, errW_some] <;> rfl)) | (simp [*, errW_none, errW_some] <;> rfl), by repeat (first | (with_reducible first | exact HB.out | apply below_alloc | apply pw_below_drewN | apply below_drew1) | exact HB.out)⟩
                                  · rw [if_neg c48] at H
                                    exact absurd H (by simp)
                                · rw [if_neg c47] at H
                                  exact absurd H (by simp)
                              · rw [if_neg c46] at H
                                exact absurd H (by simp)
                            · rw [if_neg c44] at H
                              have c44b0 : decide (x14_3 < (t352.length : Int)) = false := decide_eq_false c44
                              clear c44
                              replace H := Option.bind_eq_some_iff.mp H
                              obtain ⟨t378, A540, H⟩ := H
                              replace H : ((transhumanceref1_Texts.f k3 t352 t378).bind fun t381 => (if t381 = true then ((transhumanceref1_Texts.f k3 t352 t373).bind fun t382 => (if t382 = true then ((some (([] : List ByteArray) : List ByteArray)).bind fun y383 => (if y383.length + x8_1.length < 8796093022208 then ((some (y383 ++ x8_1 : List ByteArray)).bind fun y386 => (if y386.length + x8_1.length < 8796093022208 then ((text_Sorted.f (y386 ++ x8_1)).bind fun t392 => ((transhumanceref1_Texts.f k3 t392 t352).bind fun t395 => (some t395))) else (none))) else (none))) else (some false))) else (some false))) = some r := H
                              have A54 := Aside0.mk A540
                              clear A540
                              replace H := Option.bind_eq_some_iff.mp H
                              obtain ⟨t381, A550, H⟩ := H
                              replace H : (if t381 = true then ((transhumanceref1_Texts.f k3 t352 t373).bind fun t382 => (if t382 = true then ((some (([] : List ByteArray) : List ByteArray)).bind fun y383 => (if y383.length + x8_1.length < 8796093022208 then ((some (y383 ++ x8_1 : List ByteArray)).bind fun y386 => (if y386.length + x8_1.length < 8796093022208 then ((text_Sorted.f (y386 ++ x8_1)).bind fun t392 => ((transhumanceref1_Texts.f k3 t392 t352).bind fun t395 => (some t395))) else (none))) else (none))) else (some false))) else (some false)) = some r := H
                              have A55 := Aside0.mk A550
                              clear A550
                              by_cases c56 : t381 = true
                              · subst c56
                                have H1 : ((transhumanceref1_Texts.f k3 t352 t373).bind fun t382 => (if t382 = true then ((some (([] : List ByteArray) : List ByteArray)).bind fun y383 => (if y383.length + x8_1.length < 8796093022208 then ((some (y383 ++ x8_1 : List ByteArray)).bind fun y386 => (if y386.length + x8_1.length < 8796093022208 then ((text_Sorted.f (y386 ++ x8_1)).bind fun t392 => ((transhumanceref1_Texts.f k3 t392 t352).bind fun t395 => (some t395))) else (none))) else (none))) else (some false))) = some r := by rw [if_pos rfl] at H; exact H
                                clear H
                                have H := H1
                                clear H1
                                replace H := Option.bind_eq_some_iff.mp H
                                obtain ⟨t382, A570, H⟩ := H
                                replace H : (if t382 = true then ((some (([] : List ByteArray) : List ByteArray)).bind fun y383 => (if y383.length + x8_1.length < 8796093022208 then ((some (y383 ++ x8_1 : List ByteArray)).bind fun y386 => (if y386.length + x8_1.length < 8796093022208 then ((text_Sorted.f (y386 ++ x8_1)).bind fun t392 => ((transhumanceref1_Texts.f k3 t392 t352).bind fun t395 => (some t395))) else (none))) else (none))) else (some false)) = some r := H
                                have A57 := Aside0.mk A570
                                clear A570
                                by_cases c58 : t382 = true
                                · subst c58
                                  have H1 : ((some (([] : List ByteArray) : List ByteArray)).bind fun y383 => (if y383.length + x8_1.length < 8796093022208 then ((some (y383 ++ x8_1 : List ByteArray)).bind fun y386 => (if y386.length + x8_1.length < 8796093022208 then ((text_Sorted.f (y386 ++ x8_1)).bind fun t392 => ((transhumanceref1_Texts.f k3 t392 t352).bind fun t395 => (some t395))) else (none))) else (none))) = some r := by rw [if_pos rfl] at H; exact H
                                  clear H
                                  have H := H1
                                  clear H1
                                  obtain ⟨y383, hy383⟩ : ∃ y_ : List ByteArray, y_ = (([] : List ByteArray)) := ⟨_, rfl⟩
                                  replace H : (if y383.length + x8_1.length < 8796093022208 then ((some (y383 ++ x8_1 : List ByteArray)).bind fun y386 => (if y386.length + x8_1.length < 8796093022208 then ((text_Sorted.f (y386 ++ x8_1)).bind fun t392 => ((transhumanceref1_Texts.f k3 t392 t352).bind fun t395 => (some t395))) else (none))) else (none)) = some r := by first | (rw [hy383]; with_reducible exact H) | (have H2_ := (Option.bind_some _ _).symm.trans H; rw [hy383]; with_reducible exact H2_) | (have H2_ := (Option.bind_some _ _).symm.trans H; with_reducible exact H2_) | with_reducible exact H | (rw [hy383]; exact H) | exact H
                                  have Ny383 := Aside0.mk hy383
                                  clear hy383
                                  by_cases c59 : y383.length + x8_1.length < 8796093022208
                                  · rw [if_pos c59] at H
                                    have LMc59 := Aside0.mk c59
                                    clear c59
                                    obtain ⟨y386, hy386⟩ : ∃ y_ : List ByteArray, y_ = (y383 ++ x8_1) := ⟨_, rfl⟩
                                    replace H : (if y386.length + x8_1.length < 8796093022208 then ((text_Sorted.f (y386 ++ x8_1)).bind fun t392 => ((transhumanceref1_Texts.f k3 t392 t352).bind fun t395 => (some t395))) else (none)) = some r := by first | (rw [hy386]; with_reducible exact H) | (have H2_ := (Option.bind_some _ _).symm.trans H; rw [hy386]; with_reducible exact H2_) | (have H2_ := (Option.bind_some _ _).symm.trans H; with_reducible exact H2_) | with_reducible exact H | (rw [hy386]; exact H) | exact H
                                    have Ny386 := Aside0.mk hy386
                                    clear hy386
                                    by_cases c60 : y386.length + x8_1.length < 8796093022208
                                    · rw [if_pos c60] at H
                                      have LMc60 := Aside0.mk c60
                                      clear c60
                                      obtain ⟨y389, hy389⟩ : ∃ y_ : List ByteArray, y_ = (y386 ++ x8_1) := ⟨_, rfl⟩
                                      replace H : ((text_Sorted.f y389).bind fun t392 => ((transhumanceref1_Texts.f k3 t392 t352).bind fun t395 => (some t395))) = some r := by first | (rw [hy389]; with_reducible exact H) | (have H2_ := (Option.bind_some _ _).symm.trans H; rw [hy389]; with_reducible exact H2_) | (have H2_ := (Option.bind_some _ _).symm.trans H; with_reducible exact H2_) | with_reducible exact H | (rw [hy389]; exact H) | exact H
                                      have Ny389 := Aside0.mk hy389
                                      clear hy389
                                      replace H := Option.bind_eq_some_iff.mp H
                                      obtain ⟨t392, A610, H⟩ := H
                                      replace H : ((transhumanceref1_Texts.f k3 t392 t352).bind fun t395 => (some t395)) = some r := H
                                      have A61 := Aside0.mk A610
                                      clear A610
                                      replace H := Option.bind_eq_some_iff.mp H
                                      obtain ⟨t395, A620, H⟩ := H
                                      replace H : (some t395) = some r := H
                                      have A62 := Aside0.mk A620
                                      clear A620
                                      obtain rfl := Option.some.inj H
                                      obtain ⟨Ao63, co63, eo63⟩ := Kd.V_slice HO_11.out
                                      subst eo63
                                      go_wp2_with (first | ((with_reducible refine gate_callee (f := 41) rfl ?_); refine goesL_ (some 92) rfl rfl Tryd.func41 (by kernel_rfl) rfl #[.slice Ao33 x8_1.length co33] rfl (by (try simp only [List.map_toArray, List.map_cons, List.map_nil]); first | done | rfl | (simp only [List.length_drop, List.length_take]; rfl)) ?_; (with_reducible refine (transhumanceref1_Sorted.calls k3 _ _ x8_1 t378 _ ?side1 ?side2 A54.out).mono ?_); (case side1 => repeat (first | exact (Kd.R_reads' HO_8.out).2.2 | (with_reducible refine Kd.C_alloc ?_ _) | (with_reducible refine Kd.C_drewN ?_ _) | (with_reducible refine Kd.C_drew ?_))); (case side2 => exact (Kd.R_reads' HO_8.out).2.1); rintro e w64 ⟨v379, rfl, ho0, hb⟩; refine ⟨_, rfl, ?_⟩; have n0_ := Aside0.mk (Kd.R_elder' (by (with_reducible repeat (first | apply Kd.R_alloc | apply Kd.R_drewN | apply Kd.R_drew)); exact HO_8.out) (Kd.R_base ho0) hb); have n1_ := Aside0.mk (Kd.V_elder' (by (with_reducible repeat (first | apply Kd.V_alloc | apply Kd.V_drewN | apply Kd.V_drew)); exact HO_11.out) (Kd.R_base ho0) hb); have n2_ := Aside0.mk (Kd.V_elder' (by (with_reducible repeat (first | apply Kd.V_alloc | apply Kd.V_drewN | apply Kd.V_drew)); exact HO_13.out) (Kd.R_base ho0) hb); have n3_ := Aside0.mk (Kd.R_lower (Kd.R_new' ho0 (Kd.R_lt (by (with_reducible repeat (first | apply Kd.R_alloc | apply Kd.R_drewN | apply Kd.R_drew)); exact HO_8.out))) (below_size (by repeat (first | (with_reducible first | exact HB.out | apply below_alloc | apply pw_below_drewN | apply below_drew1) | exact HB.out)))); have n4_ := Aside0.mk (below_step (by repeat (first | (with_reducible first | exact HB.out | apply below_alloc | apply pw_below_drewN | apply below_drew1) | exact HB.out)) hb); clear HO_8; clear HO_11; clear HO_13; clear HB; have HO_8 := n0_; have HO_11 := n1_; have HO_13 := n2_; have HO380 := n3_; have HB := n4_; clear n0_ n1_ n2_ n3_ n4_; (try clear hb); (try clear hb2); (try clear hk); (try clear hi); (try clear ho0); obtain ⟨Ao65, co65, eo65⟩ := Kd.R_slice HO380.out; subst eo65) | ((with_reducible refine gate_callee (f := 40) rfl ?_); refine goesL_ (some 93) rfl rfl Tryd.func40 (by kernel_rfl) rfl #[.slice Ao63 t352.length co63, .slice Ao65 t378.length co65] rfl (by (try simp only [List.map_toArray, List.map_cons, List.map_nil]); first | done | rfl | (simp only [List.length_drop, List.length_take]; rfl)) ?_; (with_reducible refine (transhumanceref1_Texts.calls k3 _ _ t352 _ _ t378 true _ ?side1 ?side2 ?side3 ?side4 A55.out).mono ?_); (case side1 => repeat (first | exact (Kd.V_reads' HO_11.out).2.2 | (with_reducible refine Kd.C_alloc ?_ _) | (with_reducible refine Kd.C_drewN ?_ _) | (with_reducible refine Kd.C_drew ?_))); (case side2 => exact (Kd.V_reads' HO_11.out).2.1); (case side3 => repeat (first | exact (Kd.R_reads' HO380.out).2.2 | (with_reducible refine Kd.C_alloc ?_ _) | (with_reducible refine Kd.C_drewN ?_ _) | (with_reducible refine Kd.C_drew ?_))); (case side4 => exact (Kd.R_reads' HO380.out).2.1); rintro e w' ⟨rfl, ⟨nd, rfl⟩⟩; refine ⟨_, rfl, ?_⟩; obtain ⟨Ao66, co66, eo66⟩ := Kd.V_slice HO_13.out; subst eo66) | (go_at_call 40; (with_reducible refine (transhumanceref1_Texts.calls k3 _ _ t352 _ _ t373 true _ ?side1 ?side2 ?side3 ?side4 A57.out).mono ?_); (case side1 => repeat (first | exact (Kd.V_reads' HO_11.out).2.2 | (with_reducible refine Kd.C_alloc ?_ _) | (with_reducible refine Kd.C_drewN ?_ _) | (with_reducible refine Kd.C_drew ?_))); (case side2 => exact (Kd.V_reads' HO_11.out).2.1); (case side3 => repeat (first | exact (Kd.V_reads' HO_13.out).2.2 | (with_reducible refine Kd.C_alloc ?_ _) | (with_reducible refine Kd.C_drewN ?_ _) | (with_reducible refine Kd.C_drew ?_))); (case side4 => exact (Kd.V_reads' HO_13.out).2.1); rintro e w' ⟨rfl, ⟨nd, rfl⟩⟩) | ((with_reducible refine gate_dst (N := 100) rfl ?_); (try (refine gate_guard (by rfl) ?_; dsimp only)); refine Kd.R_lit Kd.string _ 9 ?hg (N := 100) ?hd (xs := ([] : List ByteArray)) (inner := []) (ok := fun _ => True) (okp := fun _ => True) ?hr ?hp (fun _ hk => hk) trivial (Below.refl _ _) (Nat.le_refl _) (by simp) ?_; (case hd => rfl); (case hg => rfl); (case hr => first | (go_simp; done) | (go_simp; rfl)); (case hp => exact (Reps.none _ _)); intro v384 w67 ho68 hb hg_ hnew_; clear hg_ hnew_; (first | rw [← Ny383.out] at ho68 | (simp only [Int.reduceToNat] at ho68; rw [← Ny383.out] at ho68)); have n0_ := Aside0.mk (Kd.R_elder' (by (with_reducible repeat (first | apply Kd.R_alloc | apply Kd.R_drewN | apply Kd.R_drew)); exact HO_8.out) (Kd.R_base ho68) hb); have n1_ := Aside0.mk (Kd.V_elder' (by (with_reducible repeat (first | apply Kd.V_alloc | apply Kd.V_drewN | apply Kd.V_drew)); exact HO_11.out) (Kd.R_base ho68) hb); have n2_ := Aside0.mk (Kd.V_elder' (by (with_reducible repeat (first | apply Kd.V_alloc | apply Kd.V_drewN | apply Kd.V_drew)); exact HO_13.out) (Kd.R_base ho68) hb); have n3_ := Aside0.mk (Kd.R_elder' (by (with_reducible repeat (first | apply Kd.R_alloc | apply Kd.R_drewN | apply Kd.R_drew)); exact HO380.out) (Kd.R_base ho68) hb); have n4_ := Aside0.mk (Kd.R_lower (Kd.R_new' (Kd.R_new' ho68 (Kd.R_lt (by (with_reducible repeat (first | apply Kd.R_alloc | apply Kd.R_drewN | apply Kd.R_drew)); exact HO_8.out))) (Kd.R_lt (by (with_reducible repeat (first | apply Kd.R_alloc | apply Kd.R_drewN | apply Kd.R_drew)); exact HO380.out))) (below_size (by repeat (first | (with_reducible first | exact HB.out | apply below_alloc | apply pw_below_drewN | apply below_drew1) | exact HB.out)))); have n5_ := Aside0.mk (below_step (by repeat (first | (with_reducible first | exact HB.out | apply below_alloc | apply pw_below_drewN | apply below_drew1) | exact HB.out)) hb); clear HO_8; clear HO_11; clear HO_13; clear HO380; clear HB; have HO_8 := n0_; have HO_11 := n1_; have HO_13 := n2_; have HO380 := n3_; have HO385 := n4_; have HB := n5_; clear n0_ n1_ n2_ n3_ n4_ n5_; clear hb ho68) | ((with_reducible refine gate_builtin (b := .append) (xs := #[.tmp 100, .tmp 101]) rfl ?_); (try (refine gate_guard (by rfl) ?_; dsimp only)); at_builtin; refine Kd.R_append_rows Kd.string (w0 := w) w.heap.size rfl (.tmp 100) (.tmp 101) 25 9 (.string ⟨#[]⟩) 16 rfl Tryd.underlying25 info9 rfl (by decide) (by omega) v384 y383 x8_1 _ _ _ (fun k_ => some k_ ≠ (.slice Ao33 x8_1.length co33 : Value).ownBlock ∧ some k_ ≠ (.slice Ao65 t378.length co65 : Value).ownBlock) (fun _ => False) rfl rfl ?aO ?aR (fun _ _ h => h) (fun _ h => h.elim) ?aF ?aB ?aS ?aL ?_; (case aR => repeat (first | exact (Kd.R_reads' HO_8.out).2.2 | (with_reducible refine Kd.C_alloc ?_ _) | (with_reducible refine Kd.C_drewN ?_ _) | (with_reducible refine Kd.C_drew ?_))); (case aB => exact (by repeat (first | (with_reducible first | exact HB.out | apply below_alloc | apply pw_below_drewN | apply below_drew1) | exact HB.out))); (case aF => exact (fun k_ hk => ⟨Kd.fresh' (Kd.R_lt (by (with_reducible repeat (first | apply Kd.R_alloc | apply Kd.R_drewN | apply Kd.R_drew)); exact HO_8.out)) k_ hk, Kd.fresh' (Kd.R_lt (by (with_reducible repeat (first | apply Kd.R_alloc | apply Kd.R_drewN | apply Kd.R_drew)); exact HO380.out)) k_ hk⟩)); (case aO => exact (by (with_reducible repeat (first | apply Kd.R_alloc | apply Kd.R_drewN | apply Kd.R_drew)); exact Kd.R_mono HO385.out (fun _ hk => ⟨hk.1.2, hk.2⟩))); (case aS => exact (below_size (by repeat (first | (with_reducible first | exact HB.out | apply below_alloc | apply pw_below_drewN | apply below_drew1) | exact HB.out)))); (case aL => have := LMc59.out; omega); intro v387 w69 ho hb hg hat; rw [← Ny386.out] at ho; have n0_ := Aside0.mk (Kd.R_after (ok := (fun k_ => some k_ ≠ (.slice Ao65 t378.length co65 : Value).ownBlock)) (by (with_reducible repeat (first | apply Kd.R_alloc | apply Kd.R_drewN | apply Kd.R_drew)); exact Kd.R_mono HO_8.out (fun _ hk => ⟨hk.1.2, hk.2⟩)) hg hat); have n1_ := Aside0.mk (Kd.V_afterv (ok := (fun k_ => some k_ ≠ (.slice Ao33 x8_1.length co33 : Value).ownBlock ∧ some k_ ≠ (.slice Ao65 t378.length co65 : Value).ownBlock)) (by (with_reducible repeat (first | apply Kd.V_alloc | apply Kd.V_drewN | apply Kd.V_drew)); exact HO_11.out) hg hat); have n2_ := Aside0.mk (Kd.V_afterv (ok := (fun k_ => some k_ ≠ (.slice Ao33 x8_1.length co33 : Value).ownBlock ∧ some k_ ≠ (.slice Ao65 t378.length co65 : Value).ownBlock)) (by (with_reducible repeat (first | apply Kd.V_alloc | apply Kd.V_drewN | apply Kd.V_drew)); exact HO_13.out) hg hat); have n3_ := Aside0.mk (Kd.R_after (ok := (fun k_ => some k_ ≠ (.slice Ao33 x8_1.length co33 : Value).ownBlock)) (by (with_reducible repeat (first | apply Kd.R_alloc | apply Kd.R_drewN | apply Kd.R_drew)); exact Kd.R_mono HO380.out (fun _ hk => ⟨hk.1.2, hk.2⟩)) hg hat); have n4_ := Aside0.mk (hb); have n5_ := Aside0.mk (ho); clear HO_8; clear HO_11; clear HO_13; clear HO380; clear HB; clear HO385; have HO_8 := n0_; have HO_11 := n1_; have HO_13 := n2_; have HO380 := n3_; have HB := n4_; have HO388 := n5_; clear n0_ n1_ n2_ n3_ n4_ n5_; clear ho hb hg hat) | ((with_reducible refine gate_builtin (b := .append) (xs := #[.tmp 102, .tmp 103]) rfl ?_); (try (refine gate_guard (by rfl) ?_; dsimp only)); at_builtin; refine Kd.R_append_rows Kd.string (w0 := w) w.heap.size rfl (.tmp 102) (.tmp 103) 25 9 (.string ⟨#[]⟩) 16 rfl Tryd.underlying25 info9 rfl (by decide) (by omega) v387 y386 x8_1 _ _ _ (fun k_ => some k_ ≠ (.slice Ao33 x8_1.length co33 : Value).ownBlock ∧ some k_ ≠ (.slice Ao65 t378.length co65 : Value).ownBlock) (fun _ => False) rfl rfl ?aO ?aR (fun _ _ h => h) (fun _ h => h.elim) ?aF ?aB ?aS ?aL ?_; (case aR => repeat (first | exact (Kd.R_reads' HO_8.out).2.2 | (with_reducible refine Kd.C_alloc ?_ _) | (with_reducible refine Kd.C_drewN ?_ _) | (with_reducible refine Kd.C_drew ?_))); (case aB => exact (by repeat (first | (with_reducible first | exact HB.out | apply below_alloc | apply pw_below_drewN | apply below_drew1) | exact HB.out))); (case aF => exact (fun k_ hk => ⟨Kd.fresh' (Kd.R_lt (by (with_reducible repeat (first | apply Kd.R_alloc | apply Kd.R_drewN | apply Kd.R_drew)); exact HO_8.out)) k_ hk, Kd.fresh' (Kd.R_lt (by (with_reducible repeat (first | apply Kd.R_alloc | apply Kd.R_drewN | apply Kd.R_drew)); exact HO380.out)) k_ hk⟩)); (case aO => exact (by (with_reducible repeat (first | apply Kd.R_alloc | apply Kd.R_drewN | apply Kd.R_drew)); exact HO388.out)); (case aS => exact (below_size (by repeat (first | (with_reducible first | exact HB.out | apply below_alloc | apply pw_below_drewN | apply below_drew1) | exact HB.out)))); (case aL => have := LMc60.out; omega); intro v390 w70 ho hb hg hat; rw [← Ny389.out] at ho; have n0_ := Aside0.mk (Kd.R_after (ok := (fun k_ => some k_ ≠ (.slice Ao65 t378.length co65 : Value).ownBlock)) (by (with_reducible repeat (first | apply Kd.R_alloc | apply Kd.R_drewN | apply Kd.R_drew)); exact HO_8.out) hg hat); have n1_ := Aside0.mk (Kd.V_afterv (ok := (fun k_ => some k_ ≠ (.slice Ao33 x8_1.length co33 : Value).ownBlock ∧ some k_ ≠ (.slice Ao65 t378.length co65 : Value).ownBlock)) (by (with_reducible repeat (first | apply Kd.V_alloc | apply Kd.V_drewN | apply Kd.V_drew)); exact HO_11.out) hg hat); have n2_ := Aside0.mk (Kd.V_afterv (ok := (fun k_ => some k_ ≠ (.slice Ao33 x8_1.length co33 : Value).ownBlock ∧ some k_ ≠ (.slice Ao65 t378.length co65 : Value).ownBlock)) (by (with_reducible repeat (first | apply Kd.V_alloc | apply Kd.V_drewN | apply Kd.V_drew)); exact HO_13.out) hg hat); have n3_ := Aside0.mk (Kd.R_after (ok := (fun k_ => some k_ ≠ (.slice Ao33 x8_1.length co33 : Value).ownBlock)) (by (with_reducible repeat (first | apply Kd.R_alloc | apply Kd.R_drewN | apply Kd.R_drew)); exact HO380.out) hg hat); have n4_ := Aside0.mk (hb); have n5_ := Aside0.mk (ho); clear HO_8; clear HO_11; clear HO_13; clear HO380; clear HB; clear HO388; have HO_8 := n0_; have HO_11 := n1_; have HO_13 := n2_; have HO380 := n3_; have HB := n4_; have HO391 := n5_; clear n0_ n1_ n2_ n3_ n4_ n5_; clear ho hb hg hat; obtain ⟨Ao71, co71, eo71⟩ := Kd.R_slice HO391.out; subst eo71) | (go_at_call 39; (with_reducible refine (text_Sorted.callsV _ _ y389 t392 _ ?side1 ?side2 A61.out).mono ?_); (case side1 => repeat (first | exact (Kd.R_reads' HO391.out).2.2 | (with_reducible refine Kd.C_alloc ?_ _) | (with_reducible refine Kd.C_drewN ?_ _) | (with_reducible refine Kd.C_drew ?_))); (case side2 => exact (Kd.R_reads' HO391.out).2.1); rintro e w72 ⟨v393, rfl, ho0, hb⟩; have n0_ := Aside0.mk (Kd.R_below (by (with_reducible repeat (first | apply Kd.R_alloc | apply Kd.R_drewN | apply Kd.R_drew)); exact HO_8.out) hb); have n1_ := Aside0.mk (Kd.V_below (by (with_reducible repeat (first | apply Kd.V_alloc | apply Kd.V_drewN | apply Kd.V_drew)); exact HO_11.out) hb); have n2_ := Aside0.mk (Kd.V_below (by (with_reducible repeat (first | apply Kd.V_alloc | apply Kd.V_drewN | apply Kd.V_drew)); exact HO_13.out) hb); have n3_ := Aside0.mk (Kd.R_below (by (with_reducible repeat (first | apply Kd.R_alloc | apply Kd.R_drewN | apply Kd.R_drew)); exact HO380.out) hb); have n4_ := Aside0.mk (Kd.R_below (by (with_reducible repeat (first | apply Kd.R_alloc | apply Kd.R_drewN | apply Kd.R_drew)); exact HO391.out) hb); have n5_ := Aside0.mk (Kd.V_lower (Kd.V_mono (ok' := fun k_ => some k_ ≠ (.slice Ao33 x8_1.length co33 : Value).ownBlock ∧ some k_ ≠ (.slice Ao65 t378.length co65 : Value).ownBlock ∧ some k_ ≠ (.slice Ao71 y389.length co71 : Value).ownBlock) ho0 (fun k_ hk_ => ⟨(Kd.fresh' (Kd.R_lt (by (with_reducible repeat (first | apply Kd.R_alloc | apply Kd.R_drewN | apply Kd.R_drew)); exact HO_8.out)) k_ hk_), (Kd.fresh' (Kd.R_lt (by (with_reducible repeat (first | apply Kd.R_alloc | apply Kd.R_drewN | apply Kd.R_drew)); exact HO380.out)) k_ hk_), (Kd.fresh' (Kd.R_lt (by (with_reducible repeat (first | apply Kd.R_alloc | apply Kd.R_drewN | apply Kd.R_drew)); exact HO391.out)) k_ hk_)⟩)) (below_size (by repeat (first | (with_reducible first | exact HB.out | apply below_alloc | apply pw_below_drewN | apply below_drew1) | exact HB.out)))); have n6_ := Aside0.mk (below_step (by repeat (first | (with_reducible first | exact HB.out | apply below_alloc | apply pw_below_drewN | apply below_drew1) | exact HB.out)) hb); clear HO_8; clear HO_11; clear HO_13; clear HO380; clear HO391; clear HB; have HO_8 := n0_; have HO_11 := n1_; have HO_13 := n2_; have HO380 := n3_; have HO391 := n4_; have HO394 := n5_; have HB := n6_; clear n0_ n1_ n2_ n3_ n4_ n5_ n6_; (try clear hb); (try clear hb2); (try clear hk); (try clear hi); (try clear ho0); obtain ⟨Ao73, co73, eo73⟩ := Kd.V_slice HO394.out; subst eo73) | (go_at_call 40; (with_reducible refine (transhumanceref1_Texts.calls k3 _ _ t392 _ _ t352 t395 _ ?side1 ?side2 ?side3 ?side4 A62.out).mono ?_); (case side1 => repeat (first | exact (Kd.V_reads' HO394.out).2.2 | (with_reducible refine Kd.C_alloc ?_ _) | (with_reducible refine Kd.C_drewN ?_ _) | (with_reducible refine Kd.C_drew ?_))); (case side2 => exact (Kd.V_reads' HO394.out).2.1); (case side3 => repeat (first | exact (Kd.V_reads' HO_11.out).2.2 | (with_reducible refine Kd.C_alloc ?_ _) | (with_reducible refine Kd.C_drewN ?_ _) | (with_reducible refine Kd.C_drew ?_))); (case side4 => exact (Kd.V_reads' HO_11.out).2.1); rintro e w' ⟨rfl, ⟨nd, rfl⟩⟩))
                                      go_ret
                                      exact ⟨by first | rfl | (simp [errW_none, errW_some] <;> rfl) | (simp [*, errW_none, errW_some] <;> rfl), by repeat (first | (with_reducible first | exact HB.out | apply below_alloc | apply pw_below_drewN | apply below_drew1) | exact HB.out)⟩
                                    · rw [if_neg c60] at H
                                      exact absurd H (by simp)
                                  · rw [if_neg c59] at H
                                    exact absurd H (by simp)
                                · replace c58 := Bool.eq_false_iff.mpr c58
                                  subst c58
                                  have H1 : (some false) = some r := by rw [if_neg (show ¬ (false = true) by decide)] at H; exact H
                                  clear H
                                  have H := H1
                                  clear H1
                                  obtain rfl := Option.some.inj H
                                  obtain ⟨Ao74, co74, eo74⟩ := Kd.V_slice HO_11.out
                                  subst eo74
                                  go_wp2_with (first | ((with_reducible refine gate_callee (f := 41) rfl ?_); refine goesL_ (some 92) rfl rfl Tryd.func41 (by kernel_rfl) rfl #[.slice Ao33 x8_1.length co33] rfl (by (try simp only [List.map_toArray, List.map_cons, List.map_nil]); first | done | rfl | (simp only [List.length_drop, List.length_take]; rfl)) ?_; (with_reducible refine (transhumanceref1_Sorted.calls k3 _ _ x8_1 t378 _ ?side1 ?side2 A54.out).mono ?_); (case side1 => repeat (first | exact (Kd.R_reads' HO_8.out).2.2 | (with_reducible refine Kd.C_alloc ?_ _) | (with_reducible refine Kd.C_drewN ?_ _) | (with_reducible refine Kd.C_drew ?_))); (case side2 => exact (Kd.R_reads' HO_8.out).2.1); rintro e w75 ⟨v379, rfl, ho0, hb⟩; refine ⟨_, rfl, ?_⟩; have n0_ := Aside0.mk (Kd.R_elder' (by (with_reducible repeat (first | apply Kd.R_alloc | apply Kd.R_drewN | apply Kd.R_drew)); exact HO_8.out) (Kd.R_base ho0) hb); have n1_ := Aside0.mk (Kd.V_elder' (by (with_reducible repeat (first | apply Kd.V_alloc | apply Kd.V_drewN | apply Kd.V_drew)); exact HO_11.out) (Kd.R_base ho0) hb); have n2_ := Aside0.mk (Kd.V_elder' (by (with_reducible repeat (first | apply Kd.V_alloc | apply Kd.V_drewN | apply Kd.V_drew)); exact HO_13.out) (Kd.R_base ho0) hb); have n3_ := Aside0.mk (Kd.R_lower (Kd.R_new' ho0 (Kd.R_lt (by (with_reducible repeat (first | apply Kd.R_alloc | apply Kd.R_drewN | apply Kd.R_drew)); exact HO_8.out))) (below_size (by repeat (first | (with_reducible first | exact HB.out | apply below_alloc | apply pw_below_drewN | apply below_drew1) | exact HB.out)))); have n4_ := Aside0.mk (below_step (by repeat (first | (with_reducible first | exact HB.out | apply below_alloc | apply pw_below_drewN | apply below_drew1) | exact HB.out)) hb); clear HO_8; clear HO_11; clear HO_13; clear HB; have HO_8 := n0_; have HO_11 := n1_; have HO_13 := n2_; have HO380 := n3_; have HB := n4_; clear n0_ n1_ n2_ n3_ n4_; (try clear hb); (try clear hb2); (try clear hk); (try clear hi); (try clear ho0); obtain ⟨Ao76, co76, eo76⟩ := Kd.R_slice HO380.out; subst eo76) | ((with_reducible refine gate_callee (f := 40) rfl ?_); refine goesL_ (some 93) rfl rfl Tryd.func40 (by kernel_rfl) rfl #[.slice Ao74 t352.length co74, .slice Ao76 t378.length co76] rfl (by (try simp only [List.map_toArray, List.map_cons, List.map_nil]); first | done | rfl | (simp only [List.length_drop, List.length_take]; rfl)) ?_; (with_reducible refine (transhumanceref1_Texts.calls k3 _ _ t352 _ _ t378 true _ ?side1 ?side2 ?side3 ?side4 A55.out).mono ?_); (case side1 => repeat (first | exact (Kd.V_reads' HO_11.out).2.2 | (with_reducible refine Kd.C_alloc ?_ _) | (with_reducible refine Kd.C_drewN ?_ _) | (with_reducible refine Kd.C_drew ?_))); (case side2 => exact (Kd.V_reads' HO_11.out).2.1); (case side3 => repeat (first | exact (Kd.R_reads' HO380.out).2.2 | (with_reducible refine Kd.C_alloc ?_ _) | (with_reducible refine Kd.C_drewN ?_ _) | (with_reducible refine Kd.C_drew ?_))); (case side4 => exact (Kd.R_reads' HO380.out).2.1); rintro e w' ⟨rfl, ⟨nd, rfl⟩⟩; refine ⟨_, rfl, ?_⟩; obtain ⟨Ao77, co77, eo77⟩ := Kd.V_slice HO_13.out; subst eo77) | (go_at_call 40; (with_reducible refine (transhumanceref1_Texts.calls k3 _ _ t352 _ _ t373 false _ ?side1 ?side2 ?side3 ?side4 A57.out).mono ?_); (case side1 => repeat (first | exact (Kd.V_reads' HO_11.out).2.2 | (with_reducible refine Kd.C_alloc ?_ _) | (with_reducible refine Kd.C_drewN ?_ _) | (with_reducible refine Kd.C_drew ?_))); (case side2 => exact (Kd.V_reads' HO_11.out).2.1); (case side3 => repeat (first | exact (Kd.V_reads' HO_13.out).2.2 | (with_reducible refine Kd.C_alloc ?_ _) | (with_reducible refine Kd.C_drewN ?_ _) | (with_reducible refine Kd.C_drew ?_))); (case side4 => exact (Kd.V_reads' HO_13.out).2.1); rintro e w' ⟨rfl, ⟨nd, rfl⟩⟩))
                                  go_ret
                                  exact ⟨by first | rfl | (simp [errW_none, errW_some] <;> rfl) | (simp [*, errW_none, errW_some] <;> rfl), by repeat (first | (with_reducible first | exact HB.out | apply below_alloc | apply pw_below_drewN | apply below_drew1) | exact HB.out)⟩
                              · replace c56 := Bool.eq_false_iff.mpr c56
                                subst c56
                                have H1 : (some false) = some r := by rw [if_neg (show ¬ (false = true) by decide)] at H; exact H
                                clear H
                                have H := H1
                                clear H1
                                obtain rfl := Option.some.inj H
                                obtain ⟨Ao78, co78, eo78⟩ := Kd.V_slice HO_11.out
                                subst eo78
                                go_wp2_with (first | ((with_reducible refine gate_callee (f := 41) rfl ?_); refine goesL_ (some 92) rfl rfl Tryd.func41 (by kernel_rfl) rfl #[.slice Ao33 x8_1.length co33] rfl (by (try simp only [List.map_toArray, List.map_cons, List.map_nil]); first | done | rfl | (simp only [List.length_drop, List.length_take]; rfl)) ?_; (with_reducible refine (transhumanceref1_Sorted.calls k3 _ _ x8_1 t378 _ ?side1 ?side2 A54.out).mono ?_); (case side1 => repeat (first | exact (Kd.R_reads' HO_8.out).2.2 | (with_reducible refine Kd.C_alloc ?_ _) | (with_reducible refine Kd.C_drewN ?_ _) | (with_reducible refine Kd.C_drew ?_))); (case side2 => exact (Kd.R_reads' HO_8.out).2.1); rintro e w79 ⟨v379, rfl, ho0, hb⟩; refine ⟨_, rfl, ?_⟩; have n0_ := Aside0.mk (Kd.R_elder' (by (with_reducible repeat (first | apply Kd.R_alloc | apply Kd.R_drewN | apply Kd.R_drew)); exact HO_8.out) (Kd.R_base ho0) hb); have n1_ := Aside0.mk (Kd.V_elder' (by (with_reducible repeat (first | apply Kd.V_alloc | apply Kd.V_drewN | apply Kd.V_drew)); exact HO_11.out) (Kd.R_base ho0) hb); have n2_ := Aside0.mk (Kd.V_elder' (by (with_reducible repeat (first | apply Kd.V_alloc | apply Kd.V_drewN | apply Kd.V_drew)); exact HO_13.out) (Kd.R_base ho0) hb); have n3_ := Aside0.mk (Kd.R_lower (Kd.R_new' ho0 (Kd.R_lt (by (with_reducible repeat (first | apply Kd.R_alloc | apply Kd.R_drewN | apply Kd.R_drew)); exact HO_8.out))) (below_size (by repeat (first | (with_reducible first | exact HB.out | apply below_alloc | apply pw_below_drewN | apply below_drew1) | exact HB.out)))); have n4_ := Aside0.mk (below_step (by repeat (first | (with_reducible first | exact HB.out | apply below_alloc | apply pw_below_drewN | apply below_drew1) | exact HB.out)) hb); clear HO_8; clear HO_11; clear HO_13; clear HB; have HO_8 := n0_; have HO_11 := n1_; have HO_13 := n2_; have HO380 := n3_; have HB := n4_; clear n0_ n1_ n2_ n3_ n4_; (try clear hb); (try clear hb2); (try clear hk); (try clear hi); (try clear ho0); obtain ⟨Ao80, co80, eo80⟩ := Kd.R_slice HO380.out; subst eo80) | ((with_reducible refine gate_callee (f := 40) rfl ?_); refine goesL_ (some 93) rfl rfl Tryd.func40 (by kernel_rfl) rfl #[.slice Ao78 t352.length co78, .slice Ao80 t378.length co80] rfl (by (try simp only [List.map_toArray, List.map_cons, List.map_nil]); first | done | rfl | (simp only [List.length_drop, List.length_take]; rfl)) ?_; (with_reducible refine (transhumanceref1_Texts.calls k3 _ _ t352 _ _ t378 false _ ?side1 ?side2 ?side3 ?side4 A55.out).mono ?_); (case side1 => repeat (first | exact (Kd.V_reads' HO_11.out).2.2 | (with_reducible refine Kd.C_alloc ?_ _) | (with_reducible refine Kd.C_drewN ?_ _) | (with_reducible refine Kd.C_drew ?_))); (case side2 => exact (Kd.V_reads' HO_11.out).2.1); (case side3 => repeat (first | exact (Kd.R_reads' HO380.out).2.2 | (with_reducible refine Kd.C_alloc ?_ _) | (with_reducible refine Kd.C_drewN ?_ _) | (with_reducible refine Kd.C_drew ?_))); (case side4 => exact (Kd.R_reads' HO380.out).2.1); rintro e w' ⟨rfl, ⟨nd, rfl⟩⟩; refine ⟨_, rfl, ?_⟩))
                                go_ret
                                exact ⟨by first | rfl | (simp [errW_none, errW_some] <;> rfl) | (simp [*, errW_none, errW_some] <;> rfl), by repeat (first | (with_reducible first | exact HB.out | apply below_alloc | apply pw_below_drewN | apply below_drew1) | exact HB.out)⟩
                      · rw [if_neg c31] at H
                        exact absurd H (by simp)
                    · rw [if_neg c28] at H
                      exact absurd H (by simp)
                  · rw [if_neg c27] at H
                    exact absurd H (by simp)
                · rw [if_neg c26] at H
                  exact absurd H (by simp)
  · replace c5 := Bool.eq_false_iff.mpr c5
    subst c5
    have H1 : (some false) = some r := by rw [if_neg (show ¬ (false = true) by decide)] at H; exact H
    clear H
    have H := H1
    clear H1
    obtain rfl := Option.some.inj H
    go_enter Tryd.func8, Tryd.ntmps8
    go_wp2_with (first | ((with_reducible refine gate_callee (f := 13) rfl ?_); refine goesL_ (some 15) rfl rfl Tryd.func13 (by kernel_rfl) rfl #[] rfl (by (try simp only [List.map_toArray, List.map_cons, List.map_nil]); first | done | rfl | (simp only [List.length_drop, List.length_take]; rfl)) ?_; (with_reducible refine (transhumancelaw1_known.calls k  false _ A4.out).mono ?_); rintro e w81 ⟨rfl, hb⟩; refine ⟨_, rfl, ?_⟩; have n0_ := Aside0.mk (below_step (by repeat (first | (with_reducible first | exact HB.out | apply below_alloc | apply pw_below_drewN | apply below_drew1) | exact HB.out)) hb); clear HB; have HB := n0_; clear n0_; (try clear hb); (try clear hb2); (try clear hk); (try clear hi)))
    go_ret
    exact ⟨by first | rfl | (simp [errW_none, errW_some] <;> rfl) | (simp [*, errW_none, errW_some] <;> rfl), by repeat (first | (with_reducible first | exact HB.out | apply below_alloc | apply pw_below_drewN | apply below_drew1) | exact HB.out)⟩

/-- THE ONE PURE STATEMENT of transhumancelaw1_TextSorts: yours. -/
def transhumancelaw1_TextSorts.Pure : Prop := ∀ (l0 : List Int) (l1 : List Int) (a2 : Int), l0.length ≤ maxLen → l0.length * 1 ≤ 140737488351232 → (∀ x ∈ l0, (Lit.int .u8 x).wf = true) → l1.length ≤ maxLen → l1.length * 8 ≤ 140737488351232 → (∀ x ∈ l1, (Lit.int .i64 x).wf = true) → (Lit.int .i64 a2).wf = true → ∃ k, transhumancelaw1_TextSorts.f k l0 l1 a2 = some true
theorem transhumancelaw1_TextSorts.walk (P : transhumancelaw1_TextSorts.Pure) (a0 : Option Addr) (len0 cap0 : Nat) (z0 : List Int) (a1 : Option Addr) (len1 cap1 : Nat) (z1 : List Int) (a2 : Int) (w : World) (w0 : (a0 = none ∧ len0 = 0 ∧ cap0 = 0 ∧ z0 = []) ∨ ∃ x, a0 = some x ∧ len0 ≤ cap0 ∧ cap0 ≤ maxLen ∧ z0.length = cap0 ∧ (∀ i, i < z0.length → w.cell? (x.add i) = some (.int .u8 (z0.getD i 0))) ∧ ∀ n ∈ z0, (Lit.int .u8 n).wf = true) (y0 : len0 * 1 ≤ 140737488351232) (w1 : (a1 = none ∧ len1 = 0 ∧ cap1 = 0 ∧ z1 = []) ∨ ∃ x, a1 = some x ∧ len1 ≤ cap1 ∧ cap1 ≤ maxLen ∧ z1.length = cap1 ∧ (∀ i, i < z1.length → w.cell? (x.add i) = some (.int .i64 (z1.getD i 0))) ∧ ∀ n ∈ z1, (Lit.int .i64 n).wf = true) (y1 : len1 * 8 ≤ 140737488351232) (w2 : (Lit.int .i64 a2).wf = true) :
    Calls Tryd.prog 8 #[.slice a0 len0 cap0, .slice a1 len1 cap1, .int .i64 a2] w fun e w' => e = .returned (.bool true) ∧ Below w.heap.size w w' := by
  obtain ⟨l0, rfl, hr0, hm0, hw0, hc0⟩ := ReadsInt.ofRowC w0
  obtain ⟨l1, rfl, hr1, hm1, hw1, hc1⟩ := ReadsInt.ofRowC w1
  obtain ⟨k, h⟩ := P l0 l1 a2 hm0 y0 hw0 hm1 y1 hw1 w2
  refine (transhumancelaw1_TextSorts.calls k _ _ l0 _ _ l1 a2 true w (Kd.C_of_reads (d := (0 : Int)) (h1 := fun _ => rfl) hr0) hc0 (Kd.C_of_reads (d := (0 : Int)) (h1 := fun _ => rfl) hr1) hc1 h).mono ?_
  rintro e w' ⟨rfl, hd⟩
  exact ⟨rfl, hd⟩

end Go.Proofs.YtkejnnnedgmhiaaDoor.X
