-- Laid by this session's own program (wip/xprint.py). Not trusted: Lean checks it.
import Derived.Test.YtkejnnnedgmhiaaDoorXx0
import Derived.Test.YtkejnnnedgmhiaaDoorXx2
import Derived.Test.YtkejnnnedgmhiaaDoorXx5
import Derived.Test.YtkejnnnedgmhiaaDoorXx6
namespace Go.Proofs.YtkejnnnedgmhiaaDoor.X
open Go.RowKit Go.Proofs.YtkejnnnedgmhiaaDoorW.PrintWords Go.Proofs.YtkejnnnedgmhiaaDoorW.PrintLast Go.Proofs.YtkejnnnedgmhiaaDoorW.PrintMore
attribute [local go_sem] max2_int min2_int max_two min_two max_three min_three max_four min_four   -- for this text's walks alone
set_option linter.unusedVariables false
set_option linter.unusedSimpArgs false

/-! ### transhumancelaw1_TextTakes: function 10 -/
mutual
def transhumancelaw1_TextTakes.l0 : Nat → List Int → ByteArray → Int → Int → ByteArray → Int → Option (Bool)
  | 0, _, _, _, _, _, _ => none
  | k + 1, x1, x5, x7, x8, x350000, x350001 => if x7 < (x5.size : Int) then (if x8 < (x1.length : Int) then (if 0 ≤ x8 then ((transhumancelaw1_within.f (rd x1 x8) (wrap64 ((mn 9 (wrap64 ((x5.size : Int) - x7))) + 1))).bind fun t351 => (transhumancelaw1_TextTakes.j1 k x1 x5 x7 x8 t351 x350000 x350001)) else (none)) else (transhumancelaw1_TextTakes.j1 k x1 x5 x7 x8 1 x350000 x350001)) else ((text_front_Peek.f x350000 x350001).bind fun bt368 => (if bt368.2.1 = true then (some false) else ((text_Cursor_Take.f bt368.2.2.1 bt368.2.2.2 (⟨#[120]⟩ : ByteArray)).bind fun bt372 => (if bt372.1 = true then (some false) else ((text_Cursor_Take.f bt372.2.1 bt372.2.2 (⟨#[]⟩ : ByteArray)).bind fun bt375 => (if bt375.1 = true then ((text_Cursor_While.f k bt375.2.1 bt375.2.2 (⟨#[97, 98, 99]⟩ : ByteArray)).bind fun bt378 => (if bt378.1.toList = ([] : List UInt8) then ((text_front_At.f bt378.2.1 bt378.2.2).bind fun bt381 => (some (bt381.1 == (x5.size : Int)))) else (some false))) else (some false)))))))
def transhumancelaw1_TextTakes.j1 : Nat → List Int → ByteArray → Int → Int → Int → ByteArray → Int → Option (Bool)
  | 0, _, _, _, _, _, _, _ => none
  | k + 1, x1, x5, x7, x8, x9, x350000, x350001 => (text_front_Peek.f x350000 x350001).bind fun bt352 => (if bt352.2.1 = true then (if 0 ≤ x7 then (if x7 < (x5.size : Int) then (if bt352.1 = (bt x5 x7) then (if x7 ≤ (x5.size : Int) then (if (x5.extract (x7 : Int).toNat x5.size).size + 1 ≤ 9223372036854775807 then ((text_Cursor_Take.f bt352.2.2.1 bt352.2.2.2 ((x5.extract (x7 : Int).toNat x5.size) ++ (⟨#[120]⟩ : ByteArray))).bind fun bt356 => (if bt356.1 = true then (transhumancelaw1_TextTakes.j2 k x1 x5 x7 x8 x9 true bt356.2.1 bt356.2.2) else ((text_front_At.f bt356.2.1 bt356.2.2).bind fun bt359 => (transhumancelaw1_TextTakes.j2 k x1 x5 x7 x8 x9 (bt359.1 != x7) bt359.2.1 bt359.2.2)))) else (none)) else (none)) else (transhumancelaw1_TextTakes.j2 k x1 x5 x7 x8 x9 true bt352.2.2.1 bt352.2.2.2)) else (none)) else (none)) else (transhumancelaw1_TextTakes.j2 k x1 x5 x7 x8 x9 true bt352.2.2.1 bt352.2.2.2))
def transhumancelaw1_TextTakes.j2 : Nat → List Int → ByteArray → Int → Int → Int → Bool → ByteArray → Int → Option (Bool)
  | 0, _, _, _, _, _, _, _, _ => none
  | k + 1, x1, x5, x7, x8, x9, x77, x350000, x350001 => if x77 = true then (some false) else (if 0 ≤ x7 then (if x7 ≤ (wrap64 (x7 + x9)) then (if (wrap64 (x7 + x9)) ≤ (x5.size : Int) then ((text_Cursor_Take.f x350000 x350001 (x5.extract (x7 : Int).toNat ((wrap64 (x7 + x9)) : Int).toNat)).bind fun bt362 => (if bt362.1 = true then ((text_front_At.f bt362.2.1 bt362.2.2).bind fun bt365 => (if bt365.1 = (wrap64 (x7 + x9)) then (transhumancelaw1_TextTakes.l0 k x1 x5 (wrap64 (x7 + x9)) (wrap64 (x8 + 1)) bt365.2.1 bt365.2.2) else (some false))) else (some false))) else (none)) else (none)) else (none))
end
def transhumancelaw1_TextTakes.f (k : Nat) (l0 : List Int) (l1 : List Int) : Option (Bool) := (transhumancelaw1_known.f k).bind fun t346 => (if t346 = true then (if (l0.length : Int) > 200 then (some true) else ((text_New.f (strOfNums l0)).bind fun bt347 => (transhumancelaw1_TextTakes.l0 k l1 (strOfNums l0) 0 0 bt347.1 bt347.2))) else (some false))
theorem transhumancelaw1_TextTakes.mono_l : ∀ k, (∀ y0 y1 y2 y3 y4 y5, LeO (transhumancelaw1_TextTakes.l0 k y0 y1 y2 y3 y4 y5) (transhumancelaw1_TextTakes.l0 (k + 1) y0 y1 y2 y3 y4 y5)) ∧ (∀ y0 y1 y2 y3 y4 y5 y6, LeO (transhumancelaw1_TextTakes.j1 k y0 y1 y2 y3 y4 y5 y6) (transhumancelaw1_TextTakes.j1 (k + 1) y0 y1 y2 y3 y4 y5 y6)) ∧ (∀ y0 y1 y2 y3 y4 y5 y6 y7, LeO (transhumancelaw1_TextTakes.j2 k y0 y1 y2 y3 y4 y5 y6 y7) (transhumancelaw1_TextTakes.j2 (k + 1) y0 y1 y2 y3 y4 y5 y6 y7))
  | 0 => ⟨fun _ _ _ _ _ _ r h => by simp [transhumancelaw1_TextTakes.l0] at h, fun _ _ _ _ _ _ _ r h => by simp [transhumancelaw1_TextTakes.j1] at h, fun _ _ _ _ _ _ _ _ r h => by simp [transhumancelaw1_TextTakes.j2] at h⟩
  | k + 1 => by
    obtain ⟨ih0, ih1, ih2⟩ := transhumancelaw1_TextTakes.mono_l k
    refine ⟨?_, ?_, ?_⟩
    · intro y0 y1 y2 y3 y4 y5
      unfold transhumancelaw1_TextTakes.l0
      repeat' first
      | (with_reducible exact ih0 _ _ _ _ _ _)
      | (with_reducible exact ih1 _ _ _ _ _ _ _)
      | (with_reducible exact ih2 _ _ _ _ _ _ _ _)
      | (with_reducible exact text_Cursor_While.mono _ _ _ _)
      | (with_reducible exact transhumancelaw1_known.mono _)
      | (with_reducible exact LeO.refl _)
      | (with_reducible exact LeO.none _)
      | (with_reducible refine LeO.ite ?_ ?_)
      | (with_reducible refine LeO.bind ?_ (fun _ => ?_))
      | exact ih0 _ _ _ _ _ _
      | exact ih1 _ _ _ _ _ _ _
      | exact ih2 _ _ _ _ _ _ _ _
      | exact text_Cursor_While.mono _ _ _ _
      | exact transhumancelaw1_known.mono _
      | exact LeO.none _
      | refine LeO.ite ?_ ?_
      | refine LeO.bind ?_ (fun _ => ?_)
    · intro y0 y1 y2 y3 y4 y5 y6
      unfold transhumancelaw1_TextTakes.j1
      repeat' first
      | (with_reducible exact ih0 _ _ _ _ _ _)
      | (with_reducible exact ih1 _ _ _ _ _ _ _)
      | (with_reducible exact ih2 _ _ _ _ _ _ _ _)
      | (with_reducible exact text_Cursor_While.mono _ _ _ _)
      | (with_reducible exact transhumancelaw1_known.mono _)
      | (with_reducible exact LeO.refl _)
      | (with_reducible exact LeO.none _)
      | (with_reducible refine LeO.ite ?_ ?_)
      | (with_reducible refine LeO.bind ?_ (fun _ => ?_))
      | exact ih0 _ _ _ _ _ _
      | exact ih1 _ _ _ _ _ _ _
      | exact ih2 _ _ _ _ _ _ _ _
      | exact text_Cursor_While.mono _ _ _ _
      | exact transhumancelaw1_known.mono _
      | exact LeO.none _
      | refine LeO.ite ?_ ?_
      | refine LeO.bind ?_ (fun _ => ?_)
    · intro y0 y1 y2 y3 y4 y5 y6 y7
      unfold transhumancelaw1_TextTakes.j2
      repeat' first
      | (with_reducible exact ih0 _ _ _ _ _ _)
      | (with_reducible exact ih1 _ _ _ _ _ _ _)
      | (with_reducible exact ih2 _ _ _ _ _ _ _ _)
      | (with_reducible exact text_Cursor_While.mono _ _ _ _)
      | (with_reducible exact transhumancelaw1_known.mono _)
      | (with_reducible exact LeO.refl _)
      | (with_reducible exact LeO.none _)
      | (with_reducible refine LeO.ite ?_ ?_)
      | (with_reducible refine LeO.bind ?_ (fun _ => ?_))
      | exact ih0 _ _ _ _ _ _
      | exact ih1 _ _ _ _ _ _ _
      | exact ih2 _ _ _ _ _ _ _ _
      | exact text_Cursor_While.mono _ _ _ _
      | exact transhumancelaw1_known.mono _
      | exact LeO.none _
      | refine LeO.ite ?_ ?_
      | refine LeO.bind ?_ (fun _ => ?_)
theorem transhumancelaw1_TextTakes.mono : ∀ a0 a1 k, LeO (transhumancelaw1_TextTakes.f k a0 a1) (transhumancelaw1_TextTakes.f (k + 1) a0 a1) := by
  intro a0 a1 k
  obtain ⟨ih0, ih1, ih2⟩ := transhumancelaw1_TextTakes.mono_l k
  unfold transhumancelaw1_TextTakes.f
  repeat' first
      | (with_reducible exact ih0 _ _ _ _ _ _)
      | (with_reducible exact ih1 _ _ _ _ _ _ _)
      | (with_reducible exact ih2 _ _ _ _ _ _ _ _)
      | (with_reducible exact text_Cursor_While.mono _ _ _ _)
      | (with_reducible exact transhumancelaw1_known.mono _)
      | (with_reducible exact LeO.refl _)
      | (with_reducible exact LeO.none _)
      | (with_reducible refine LeO.ite ?_ ?_)
      | (with_reducible refine LeO.bind ?_ (fun _ => ?_))
      | exact ih0 _ _ _ _ _ _
      | exact ih1 _ _ _ _ _ _ _
      | exact ih2 _ _ _ _ _ _ _ _
      | exact text_Cursor_While.mono _ _ _ _
      | exact transhumancelaw1_known.mono _
      | exact LeO.none _
      | refine LeO.ite ?_ ?_
      | refine LeO.bind ?_ (fun _ => ?_)
set_option maxHeartbeats 8000000 in
set_option maxRecDepth 100000 in
theorem transhumancelaw1_TextTakes.calls (k : Nat) (A0 : Option Addr) (c0 : Nat) (l0 : List Int) (A1 : Option Addr) (c1 : Nat) (l1 : List Int) (r : Bool) (w : World) (hr0 : Kd.C (Kd.int .u8) w A0 l0.length l0) (hc0 : l0.length ≤ c0) (hr1 : Kd.C (Kd.int .i64) w A1 l1.length l1) (hc1 : l1.length ≤ c1) (h : transhumancelaw1_TextTakes.f k l0 l1 = some r) :
    Calls Tryd.prog 10 #[.slice A0 l0.length c0, .slice A1 l1.length c1] w fun e w' => e = .returned (.bool r) ∧ Below w.heap.size w w' := by
  have HR0 := Aside0.mk hr0
  have HC0 := Aside0.mk hc0
  clear hr0 hc0
  have HR1 := Aside0.mk hr1
  have HC1 := Aside0.mk hc1
  clear hr1 hc1
  have HB := Aside0.mk (Below.refl w.heap.size w)
  have H : ((transhumancelaw1_known.f k).bind fun t346 => (if t346 = true then (if (l0.length : Int) > 200 then (some true) else ((text_New.f (strOfNums l0)).bind fun bt347 => (transhumancelaw1_TextTakes.l0 k l1 (strOfNums l0) 0 0 bt347.1 bt347.2))) else (some false))) = some r := h
  clear h
  replace H := Option.bind_eq_some_iff.mp H
  obtain ⟨t346, A30, H⟩ := H
  replace H : (if t346 = true then (if (l0.length : Int) > 200 then (some true) else ((text_New.f (strOfNums l0)).bind fun bt347 => (transhumancelaw1_TextTakes.l0 k l1 (strOfNums l0) 0 0 bt347.1 bt347.2))) else (some false)) = some r := H
  have A3 := Aside0.mk A30
  clear A30
  by_cases c4 : t346 = true
  · subst c4
    have H1 : (if (l0.length : Int) > 200 then (some true) else ((text_New.f (strOfNums l0)).bind fun bt347 => (transhumancelaw1_TextTakes.l0 k l1 (strOfNums l0) 0 0 bt347.1 bt347.2))) = some r := by rw [if_pos rfl] at H; exact H
    clear H
    have H := H1
    clear H1
    by_cases c5 : (l0.length : Int) > 200
    · rw [if_pos c5] at H
      have c5b0 : decide (200 < (l0.length : Int)) = true := decide_eq_true c5
      have c5b1 : decide (200 < l0.length) = true := decide_eq_true (by omega)
      clear c5
      obtain rfl := Option.some.inj H
      go_enter Tryd.func10, Tryd.ntmps10
      go_wp2_with (first | ((with_reducible refine gate_callee (f := 13) rfl ?_); refine goesL_ (some 14) rfl rfl Tryd.func13 (by kernel_rfl) rfl #[] rfl (by (try simp only [List.map_toArray, List.map_cons, List.map_nil]); first | done | rfl | (simp only [List.length_drop, List.length_take]; rfl)) ?_; (with_reducible refine (transhumancelaw1_known.calls k  true _ A3.out).mono ?_); rintro e w6 ⟨rfl, hb⟩; refine ⟨_, rfl, ?_⟩; have n0_ := Aside0.mk (below_step (by repeat (first | (with_reducible first | exact HB.out | apply below_alloc | apply pw_below_drewN | apply below_drew1) | exact HB.out)) hb); clear HB; have HB := n0_; clear n0_; (try clear hb); (try clear hb2); (try clear hk); (try clear hi)))
      go_ret
      exact ⟨by first | rfl | (simp [errW_none, errW_some] <;> rfl) | (simp [*, errW_none, errW_some] <;> rfl), by repeat (first | (with_reducible first | exact HB.out | apply below_alloc | apply pw_below_drewN | apply below_drew1) | exact HB.out)⟩
    · rw [if_neg c5] at H
      have c5b0 : decide (200 < (l0.length : Int)) = false := decide_eq_false c5
      have c5b1 : decide (200 < l0.length) = false := decide_eq_false (by omega)
      clear c5
      replace H := Option.bind_eq_some_iff.mp H
      obtain ⟨⟨t347, t348⟩, A70, H⟩ := H
      replace H : (transhumancelaw1_TextTakes.l0 k l1 (strOfNums l0) 0 0 t347 t348) = some r := H
      have A7 := Aside0.mk A70
      clear A70
      have H' := Aside0.mk H
      clear H
      go_enter Tryd.func10, Tryd.ntmps10
      go_wp2_with (first | ((with_reducible refine gate_callee (f := 13) rfl ?_); refine goesL_ (some 14) rfl rfl Tryd.func13 (by kernel_rfl) rfl #[] rfl (by (try simp only [List.map_toArray, List.map_cons, List.map_nil]); first | done | rfl | (simp only [List.length_drop, List.length_take]; rfl)) ?_; (with_reducible refine (transhumancelaw1_known.calls k  true _ A3.out).mono ?_); rintro e w8 ⟨rfl, hb⟩; refine ⟨_, rfl, ?_⟩; have n0_ := Aside0.mk (below_step (by repeat (first | (with_reducible first | exact HB.out | apply below_alloc | apply pw_below_drewN | apply below_drew1) | exact HB.out)) hb); clear HB; have HB := n0_; clear n0_; (try clear hb); (try clear hb2); (try clear hk); (try clear hi); have hcv9 := Kd.C_string (P := Tryd.prog) (A := A0) (c := c0) Tryd.underlying22 Tryd.underlying5 Tryd.underlying9 (Kd.C_below HR0.out HB.out)) | ((with_reducible refine gate_callee (f := 18) rfl ?_); refine goesL_ (some 22) rfl rfl Tryd.func18 (by kernel_rfl) rfl #[.string (strOfNums l0)] rfl (by (try simp only [List.map_toArray, List.map_cons, List.map_nil]); first | done | rfl | (simp only [List.length_drop, List.length_take]; rfl)) ?_; (with_reducible refine (text_New.calls (strOfNums l0) t347 t348 w _ ?side1 A7.out).mono ?_); (case side1 => repeat (first | (with_reducible first | exact HB.out | apply below_alloc | apply pw_below_drewN | apply below_drew1) | exact HB.out)); rintro e w10 ⟨g349, rfl, hi, hb, hb2⟩; refine ⟨_, rfl, ?_⟩; have n0_ := Aside0.mk (hb); have n1_ := Aside0.mk (hi); clear HB; have HB := n0_; have HI349 := n1_; clear n0_ n1_; (try clear hb); (try clear hb2); (try clear hk); (try clear hi)))
      go_loopg [7, 8] k (fun kq v7 v8 w' => ∃ (x7_1 : Int) (x8_1 : Int) (x350000_1 : ByteArray) (x350001_1 : Int), v7 = .int .i64 x7_1 ∧ v8 = .int .i64 x8_1 ∧ Aside0 (transhumancelaw1_TextTakes.l0 kq l1 (strOfNums l0) x7_1 x8_1 x350000_1 x350001_1 = some r) ∧ Aside0 (kq ≤ k) ∧ Aside0 (IsS41 w w' g349 x350000_1 x350001_1) ∧ Aside0 (Below w.heap.size w w'))
      case atStart => exact ⟨(0), (0), (t347), (t348), (by first | rfl | (simp; done) | (simp [*]; done)), (by first | rfl | (simp; done) | (simp [*]; done)), H', ⟨Nat.le_refl _⟩, ⟨by repeat (first | (with_reducible first | exact HI349.out | apply IsS41.alloc | apply IsS41.drewN | apply IsS41.drew | apply IsS41.set_0 | apply IsS41.set_1) | exact HI349.out)⟩, ⟨by repeat (first | (with_reducible first | exact HB.out | apply below_alloc | apply pw_below_drewN | apply below_drew1 | refine below_set ?_ (IsS41.ge HI349.out)) | exact HB.out)⟩⟩
      case round =>
        clear H'
        try clear c1
        try clear p2
        try clear c4
        try clear c5
        try clear c5b0
        try clear c5b1
        try clear hcv9
        try clear c10
        obtain ⟨x7_1, x8_1, x350000_1, x350001_1, rfl, rfl, HA, HK1, HI349, HB⟩ := hrel
        cases gk with
        | zero => exact absurd HA.out (by simp [transhumancelaw1_TextTakes.l0])
        | succ k1 =>
          have H := HA.out
          clear HA
          simp only [transhumancelaw1_TextTakes.l0] at H
          by_cases c11 : x7_1 < ((strOfNums l0).size : Int)
          · rw [if_pos c11] at H
            have c11b0 : decide (x7_1 < ((strOfNums l0).size : Int)) = true := decide_eq_true c11
            clear c11
            have HC12 := Aside0.mk H
            clear H
            go_upto_if 34 with (fail)
            go_cut [9] (fun v9 wc => ∃ (kq : Nat) (x9_11 : Int), v9 = .int .i64 x9_11 ∧ Aside0 (transhumancelaw1_TextTakes.j1 kq l1 (strOfNums l0) x7_1 x8_1 x9_11 x350000_1 x350001_1 = some r) ∧ Aside0 (kq ≤ k1) ∧ Aside0 (IsS41 w wc g349 x350000_1 x350001_1) ∧ Aside0 (Below w.heap.size w wc))
            case first =>
              have H := HC12.out
              clear HC12
              by_cases c13 : x8_1 < (l1.length : Int)
              · rw [if_pos c13] at H
                have c13b0 : decide (x8_1 < (l1.length : Int)) = true := decide_eq_true c13
                clear c13
                (first | rw [c13b0] | (simp only [i64_w, i32_w]; rw [c13b0]) | skip)
                by_cases c14 : 0 ≤ x8_1
                · rw [if_pos c14] at H
                  have c14b0 : decide (0 ≤ x8_1) = true := decide_eq_true c14
                  clear c14
                  obtain ⟨ji15, hji15⟩ : ∃ j_ : Int, (mn 9 (wrap64 (((strOfNums l0).size : Int) - x7_1))) = j_ := ⟨_, rfl⟩
                  replace H : ((transhumancelaw1_within.f (rd l1 x8_1) (wrap64 ((ji15) + 1))).bind fun t351 => (transhumancelaw1_TextTakes.j1 k1 l1 (strOfNums l0) x7_1 x8_1 t351 x350000_1 x350001_1)) = some r := by first | (rw [hji15] at H; exact H) | (simp only [hji15] at H ⊢; exact H)
                  have hji15_ : (if (wrap64 (((strOfNums l0).size : Int) - x7_1)) < 9 then (wrap64 (((strOfNums l0).size : Int) - x7_1)) else 9) = ji15 := hji15
                  replace H := Option.bind_eq_some_iff.mp H
                  obtain ⟨t351, A160, H⟩ := H
                  replace H : (transhumancelaw1_TextTakes.j1 k1 l1 (strOfNums l0) x7_1 x8_1 t351 x350000_1 x350001_1) = some r := H
                  have A16 := Aside0.mk A160
                  clear A160
                  have H' := Aside0.mk H
                  clear H
                  have p350 : 0 ≤ (x8_1 : Int) := of_decide_eq_true (by first | (with_reducible assumption) | assumption)
                  have q350 : x8_1 < (l1.length : Int) := of_decide_eq_true (by first | (with_reducible assumption) | assumption)
                  obtain ⟨ad350, e350, hx350_0⟩ := Kd.at_int HR1.out x8_1 p350 q350
                  cases e350
                  replace hx350_0 := (HB.out.cell (World.block_lt_of_cell? w _ hx350_0)).trans hx350_0
                  replace p350 := eq_true p350
                  replace q350 := eq_true q350
                  go_wp2_with (first | ((with_reducible refine gate_callee (f := 15) rfl ?_); refine goesL_ (some 45) rfl rfl Tryd.func15 (by kernel_rfl) rfl #[.int .i64 (rd l1 x8_1), .int .i64 (wrap64 ((ji15) + 1))] rfl (by (try simp only [List.map_toArray, List.map_cons, List.map_nil]); first | done | (simp only [hji15]; rfl) | rfl | (simp only [List.length_drop, List.length_take]; rfl)) ?_; (with_reducible refine (transhumancelaw1_within.calls (rd l1 x8_1) (wrap64 ((ji15) + 1)) t351 _ A16.out).mono ?_); rintro e w' ⟨rfl, ⟨nd, rfl⟩⟩; refine ⟨_, rfl, ?_⟩))
                  go_meet
                  case rel => exact ⟨_, (t351), (by first | rfl | (simp; done) | (simp [*]; done)), H', ⟨by have := HK1.out; first | omega | exact Nat.le_refl _⟩, ⟨by repeat (first | (with_reducible first | exact HI349.out | apply IsS41.alloc | apply IsS41.drewN | apply IsS41.drew | apply IsS41.set_0 | apply IsS41.set_1) | exact HI349.out)⟩, ⟨by repeat (first | (with_reducible first | exact HB.out | apply below_alloc | apply pw_below_drewN | apply below_drew1 | refine below_set ?_ (IsS41.ge HI349.out)) | exact HB.out)⟩⟩
                · rw [if_neg c14] at H
                  exact absurd H (by simp)
              · rw [if_neg c13] at H
                have c13b0 : decide (x8_1 < (l1.length : Int)) = false := decide_eq_false c13
                clear c13
                (first | rw [c13b0] | (simp only [i64_w, i32_w]; rw [c13b0]) | skip)
                have H' := Aside0.mk H
                clear H
                go_wp2
                go_meet
                case rel => exact ⟨_, (1), (by first | rfl | (simp; done) | (simp [*]; done)), H', ⟨by have := HK1.out; first | omega | exact Nat.le_refl _⟩, ⟨by repeat (first | (with_reducible first | exact HI349.out | apply IsS41.alloc | apply IsS41.drewN | apply IsS41.drew | apply IsS41.set_0 | apply IsS41.set_1) | exact HI349.out)⟩, ⟨by repeat (first | (with_reducible first | exact HB.out | apply below_alloc | apply pw_below_drewN | apply below_drew1 | refine below_set ?_ (IsS41.ge HI349.out)) | exact HB.out)⟩⟩
            case rest =>
              clear HC12
              try clear c1
              try clear p2
              try clear p3
              try clear q3
              try clear hx3
              try clear c4
              try clear c5
              try clear c5b0
              try clear c5b1
              try clear p6
              try clear hcv9
              try clear c10
              try clear c11
              try clear c11b0
              try clear c13
              try clear c13b0
              try clear c14
              try clear c14b0
              try clear c15
              try clear hx350_0
              try clear p2
              try clear p350
              try clear q350
              obtain ⟨kq, x9_11, rfl, HA, HJ11, HI349, HB⟩ := hcut
              cases kq with
              | zero => exact absurd HA.out (by simp [transhumancelaw1_TextTakes.j1])
              | succ kj11 =>
                have H := HA.out
                clear HA
                simp only [transhumancelaw1_TextTakes.j1] at H
                replace H := Option.bind_eq_some_iff.mp H
                obtain ⟨⟨t352, t353, t354, t355⟩, A170, H⟩ := H
                replace H : (if t353 = true then (if 0 ≤ x7_1 then (if x7_1 < ((strOfNums l0).size : Int) then (if t352 = (bt (strOfNums l0) x7_1) then (if x7_1 ≤ ((strOfNums l0).size : Int) then (if ((strOfNums l0).extract (x7_1 : Int).toNat (strOfNums l0).size).size + 1 ≤ 9223372036854775807 then ((text_Cursor_Take.f t354 t355 (((strOfNums l0).extract (x7_1 : Int).toNat (strOfNums l0).size) ++ (⟨#[120]⟩ : ByteArray))).bind fun bt356 => (if bt356.1 = true then (transhumancelaw1_TextTakes.j2 kj11 l1 (strOfNums l0) x7_1 x8_1 x9_11 true bt356.2.1 bt356.2.2) else ((text_front_At.f bt356.2.1 bt356.2.2).bind fun bt359 => (transhumancelaw1_TextTakes.j2 kj11 l1 (strOfNums l0) x7_1 x8_1 x9_11 (bt359.1 != x7_1) bt359.2.1 bt359.2.2)))) else (none)) else (none)) else (transhumancelaw1_TextTakes.j2 kj11 l1 (strOfNums l0) x7_1 x8_1 x9_11 true t354 t355)) else (none)) else (none)) else (transhumancelaw1_TextTakes.j2 kj11 l1 (strOfNums l0) x7_1 x8_1 x9_11 true t354 t355)) = some r := H
                have A17 := Aside0.mk A170
                clear A170
                have HC18 := Aside0.mk H
                clear H
                go_upto_region 17 with (first | ((with_reducible refine gate_callee (f := 20) rfl ?_); refine goesL_ (some 50) rfl rfl Tryd.func20 (by kernel_rfl) rfl #[.pointer (some ⟨g349, 0, none⟩)] rfl (by (try simp only [List.map_toArray, List.map_cons, List.map_nil]); first | done | rfl | (simp only [List.length_drop, List.length_take]; rfl)) ?_; (with_reducible refine (text_front_Peek.calls g349 x350000_1 x350001_1 t352 t353 t354 t355 w _ ?side1 ?side2 A17.out).mono ?_); (case side1 => repeat (first | (with_reducible first | exact HI349.out | apply IsS41.alloc | apply IsS41.drewN | apply IsS41.drew | apply IsS41.set_0 | apply IsS41.set_1) | exact HI349.out)); (case side2 => repeat (first | (with_reducible first | exact HB.out | apply below_alloc | apply pw_below_drewN | apply below_drew1 | refine below_set ?_ (IsS41.ge HI349.out)) | exact HB.out)); rintro e w19 ⟨rfl, hi, hb, hk⟩; refine ⟨_, rfl, ?_⟩; have n0_ := Aside0.mk (hb); have n1_ := Aside0.mk (hi); clear HB; clear HI349; have HB := n0_; have HI349 := n1_; clear n0_ n1_; (try clear hb); (try clear hb2); (try clear hk); (try clear hi)))
                (try simp only [Act.put, List.setIfInBounds_toArray, List.set_cons_zero, List.set_cons_succ])
                go_cut [77] (fun v77 wc => ∃ (kq : Nat) (x77_17 : Bool) (x350000_17 : ByteArray) (x350001_17 : Int), v77 = .bool x77_17 ∧ Aside0 (transhumancelaw1_TextTakes.j2 kq l1 (strOfNums l0) x7_1 x8_1 x9_11 x77_17 x350000_17 x350001_17 = some r) ∧ Aside0 (kq ≤ kj11) ∧ Aside0 (IsS41 w wc g349 x350000_17 x350001_17) ∧ Aside0 (Below w.heap.size w wc))
                case first =>
                  have H := HC18.out
                  clear HC18
                  by_cases c20 : t353 = true
                  · subst c20
                    have H1 : (if 0 ≤ x7_1 then (if x7_1 < ((strOfNums l0).size : Int) then (if t352 = (bt (strOfNums l0) x7_1) then (if x7_1 ≤ ((strOfNums l0).size : Int) then (if ((strOfNums l0).extract (x7_1 : Int).toNat (strOfNums l0).size).size + 1 ≤ 9223372036854775807 then ((text_Cursor_Take.f t354 t355 (((strOfNums l0).extract (x7_1 : Int).toNat (strOfNums l0).size) ++ (⟨#[120]⟩ : ByteArray))).bind fun bt356 => (if bt356.1 = true then (transhumancelaw1_TextTakes.j2 kj11 l1 (strOfNums l0) x7_1 x8_1 x9_11 true bt356.2.1 bt356.2.2) else ((text_front_At.f bt356.2.1 bt356.2.2).bind fun bt359 => (transhumancelaw1_TextTakes.j2 kj11 l1 (strOfNums l0) x7_1 x8_1 x9_11 (bt359.1 != x7_1) bt359.2.1 bt359.2.2)))) else (none)) else (none)) else (transhumancelaw1_TextTakes.j2 kj11 l1 (strOfNums l0) x7_1 x8_1 x9_11 true t354 t355)) else (none)) else (none)) = some r := by rw [if_pos rfl] at H; exact H
                    clear H
                    have H := H1
                    clear H1
                    by_cases c21 : 0 ≤ x7_1
                    · rw [if_pos c21] at H
                      have c21b0 : decide (0 ≤ x7_1) = true := decide_eq_true c21
                      clear c21
                      (first | rw [c21b0] | (simp only [i64_w, i32_w]; rw [c21b0]) | skip)
                      by_cases c22 : x7_1 < ((strOfNums l0).size : Int)
                      · rw [if_pos c22] at H
                        have c22b0 : decide (x7_1 < ((strOfNums l0).size : Int)) = true := decide_eq_true c22
                        clear c22
                        by_cases c24 : t352 = (bt (strOfNums l0) x7_1)
                        · rw [if_pos c24] at H
                          have c24b0 : (t352 == (bt (strOfNums l0) x7_1)) = true := beq_iff_eq.mpr c24
                          have c24b1 : (t352 != (bt (strOfNums l0) x7_1)) = false := bne_eq_false_iff_eq.mpr c24
                          clear c24
                          have c25b0 := eq_true (of_decide_eq_true (by first | (with_reducible assumption) | assumption) : 0 ≤ x7_1)
                          by_cases c26 : x7_1 ≤ ((strOfNums l0).size : Int)
                          · rw [if_pos c26] at H
                            have c26b0 := eq_true c26
                            have c26b1 : decide (x7_1 ≤ ((strOfNums l0).size : Int)) = true := decide_eq_true c26
                            clear c26
                            by_cases c27 : ((strOfNums l0).extract (x7_1 : Int).toNat (strOfNums l0).size).size + 1 ≤ 9223372036854775807
                            · rw [if_pos c27] at H
                              have c27b0 := eq_true c27
                              have c27b1 : decide (((strOfNums l0).extract (x7_1 : Int).toNat (strOfNums l0).size).size + 1 ≤ 9223372036854775807) = true := decide_eq_true c27
                              try have c27b2 : (9223372036854775807 < ((strOfNums l0).extract (x7_1 : Int).toNat (strOfNums l0).size).size + 1) = False := eq_false (Nat.not_lt.2 c27)
                              try have c27b8 : (9223372036854775807 < ((strOfNums l0).size - x7_1.toNat) + 1) = False := eq_false (by have h_ := c27; (try have h0a_ := of_eq_true (‹(x7_1 ≤ ((strOfNums l0).size : Int)) = True›)); (try have h0b_ := of_eq_true (‹(0 ≤ x7_1) = True›)); simp only [ByteArray.size_extract] at h_; omega)
                              try have c27b7 : (9223372036854775807 ≤ ((strOfNums l0).size - x7_1.toNat)) = False := eq_false (by have h_ := c27; (try have h0a_ := of_eq_true (‹(x7_1 ≤ ((strOfNums l0).size : Int)) = True›)); (try have h0b_ := of_eq_true (‹(0 ≤ x7_1) = True›)); simp only [ByteArray.size_extract] at h_; omega)
                              replace H := Option.bind_eq_some_iff.mp H
                              obtain ⟨⟨t356, t357, t358⟩, A280, H⟩ := H
                              replace H : (if t356 = true then (transhumancelaw1_TextTakes.j2 kj11 l1 (strOfNums l0) x7_1 x8_1 x9_11 true t357 t358) else ((text_front_At.f t357 t358).bind fun bt359 => (transhumancelaw1_TextTakes.j2 kj11 l1 (strOfNums l0) x7_1 x8_1 x9_11 (bt359.1 != x7_1) bt359.2.1 bt359.2.2))) = some r := H
                              have A28 := Aside0.mk A280
                              clear A280
                              by_cases c29 : t356 = true
                              · subst c29
                                have H1 : (transhumancelaw1_TextTakes.j2 kj11 l1 (strOfNums l0) x7_1 x8_1 x9_11 true t357 t358) = some r := by rw [if_pos rfl] at H; exact H
                                clear H
                                have H := H1
                                clear H1
                                have H' := Aside0.mk H
                                clear H
                                have p23 : 0 ≤ (x7_1 : Int) := of_decide_eq_true (by first | (with_reducible assumption) | assumption)
                                have q23 : x7_1 < ((strOfNums l0).size : Int) := of_decide_eq_true (by first | (with_reducible assumption) | assumption)
                                have hx23 := bt_at (strOfNums l0) x7_1
                                replace p23 := eq_true p23
                                replace q23 := eq_true q23
                                go_wp2_with (first | (go_at_call 22; (with_reducible refine (text_Cursor_Take.calls g349 t354 t355 (((strOfNums l0).extract (x7_1 : Int).toNat (strOfNums l0).size) ++ (⟨#[120]⟩ : ByteArray)) true t357 t358 w _ ?side1 ?side2 A28.out).mono ?_); (case side1 => repeat (first | (with_reducible first | exact HI349.out | apply IsS41.alloc | apply IsS41.drewN | apply IsS41.drew | apply IsS41.set_0 | apply IsS41.set_1) | exact HI349.out)); (case side2 => repeat (first | (with_reducible first | exact HB.out | apply below_alloc | apply pw_below_drewN | apply below_drew1 | refine below_set ?_ (IsS41.ge HI349.out)) | exact HB.out)); rintro e w30 ⟨rfl, hi, hb, hk⟩; have n0_ := Aside0.mk (hb); have n1_ := Aside0.mk (hi); clear HB; clear HI349; have HB := n0_; have HI349 := n1_; clear n0_ n1_; (try clear hb); (try clear hb2); (try clear hk); (try clear hi)))
                                go_meet
                                case rel => exact ⟨_, (true), (t357), (t358), (by first | rfl | (simp; done) | (simp [*]; done)), H', ⟨by have := HK1.out; have := HJ11.out; first | omega | exact Nat.le_refl _⟩, ⟨by repeat (first | (with_reducible first | exact HI349.out | apply IsS41.alloc | apply IsS41.drewN | apply IsS41.drew | apply IsS41.set_0 | apply IsS41.set_1) | exact HI349.out)⟩, ⟨by repeat (first | (with_reducible first | exact HB.out | apply below_alloc | apply pw_below_drewN | apply below_drew1 | refine below_set ?_ (IsS41.ge HI349.out)) | exact HB.out)⟩⟩
                              · replace c29 := Bool.eq_false_iff.mpr c29
                                subst c29
                                have H1 : ((text_front_At.f t357 t358).bind fun bt359 => (transhumancelaw1_TextTakes.j2 kj11 l1 (strOfNums l0) x7_1 x8_1 x9_11 (bt359.1 != x7_1) bt359.2.1 bt359.2.2)) = some r := by rw [if_neg (show ¬ (false = true) by decide)] at H; exact H
                                clear H
                                have H := H1
                                clear H1
                                replace H := Option.bind_eq_some_iff.mp H
                                obtain ⟨⟨t359, t360, t361⟩, A310, H⟩ := H
                                replace H : (transhumancelaw1_TextTakes.j2 kj11 l1 (strOfNums l0) x7_1 x8_1 x9_11 (t359 != x7_1) t360 t361) = some r := H
                                have A31 := Aside0.mk A310
                                clear A310
                                have H' := Aside0.mk H
                                clear H
                                have p23 : 0 ≤ (x7_1 : Int) := of_decide_eq_true (by first | (with_reducible assumption) | assumption)
                                have q23 : x7_1 < ((strOfNums l0).size : Int) := of_decide_eq_true (by first | (with_reducible assumption) | assumption)
                                have hx23 := bt_at (strOfNums l0) x7_1
                                replace p23 := eq_true p23
                                replace q23 := eq_true q23
                                go_wp2_with (first | (go_at_call 22; (with_reducible refine (text_Cursor_Take.calls g349 t354 t355 (((strOfNums l0).extract (x7_1 : Int).toNat (strOfNums l0).size) ++ (⟨#[120]⟩ : ByteArray)) false t357 t358 w _ ?side1 ?side2 A28.out).mono ?_); (case side1 => repeat (first | (with_reducible first | exact HI349.out | apply IsS41.alloc | apply IsS41.drewN | apply IsS41.drew | apply IsS41.set_0 | apply IsS41.set_1) | exact HI349.out)); (case side2 => repeat (first | (with_reducible first | exact HB.out | apply below_alloc | apply pw_below_drewN | apply below_drew1 | refine below_set ?_ (IsS41.ge HI349.out)) | exact HB.out)); rintro e w32 ⟨rfl, hi, hb, hk⟩; have n0_ := Aside0.mk (hb); have n1_ := Aside0.mk (hi); clear HB; clear HI349; have HB := n0_; have HI349 := n1_; clear n0_ n1_; (try clear hb); (try clear hb2); (try clear hk); (try clear hi)) | (go_at_call 26; (with_reducible refine (text_front_At.calls g349 t357 t358 t359 t360 t361 w _ ?side1 ?side2 A31.out).mono ?_); (case side1 => repeat (first | (with_reducible first | exact HI349.out | apply IsS41.alloc | apply IsS41.drewN | apply IsS41.drew | apply IsS41.set_0 | apply IsS41.set_1) | exact HI349.out)); (case side2 => repeat (first | (with_reducible first | exact HB.out | apply below_alloc | apply pw_below_drewN | apply below_drew1 | refine below_set ?_ (IsS41.ge HI349.out)) | exact HB.out)); rintro e w33 ⟨rfl, hi, hb, hk⟩; have n0_ := Aside0.mk (hb); have n1_ := Aside0.mk (hi); clear HB; clear HI349; have HB := n0_; have HI349 := n1_; clear n0_ n1_; (try clear hb); (try clear hb2); (try clear hk); (try clear hi)))
                                go_meet
                                case rel => exact ⟨_, ((t359 != x7_1)), (t360), (t361), (by first | rfl | (simp; done) | (simp [*]; done)), H', ⟨by have := HK1.out; have := HJ11.out; first | omega | exact Nat.le_refl _⟩, ⟨by repeat (first | (with_reducible first | exact HI349.out | apply IsS41.alloc | apply IsS41.drewN | apply IsS41.drew | apply IsS41.set_0 | apply IsS41.set_1) | exact HI349.out)⟩, ⟨by repeat (first | (with_reducible first | exact HB.out | apply below_alloc | apply pw_below_drewN | apply below_drew1 | refine below_set ?_ (IsS41.ge HI349.out)) | exact HB.out)⟩⟩
                            · rw [if_neg c27] at H
                              exact absurd H (by simp)
                          · rw [if_neg c26] at H
                            exact absurd H (by simp)
                        · rw [if_neg c24] at H
                          have c24b0 : (t352 == (bt (strOfNums l0) x7_1)) = false := beq_eq_false_iff_ne.mpr c24
                          have c24b1 : (t352 != (bt (strOfNums l0) x7_1)) = true := bne_iff_ne.mpr c24
                          have H' := Aside0.mk H
                          clear H
                          have p23 : 0 ≤ (x7_1 : Int) := of_decide_eq_true (by first | (with_reducible assumption) | assumption)
                          have q23 : x7_1 < ((strOfNums l0).size : Int) := of_decide_eq_true (by first | (with_reducible assumption) | assumption)
                          have hx23 := bt_at (strOfNums l0) x7_1
                          replace p23 := eq_true p23
                          replace q23 := eq_true q23
                          go_wp2
                          go_meet
                          case rel => exact ⟨_, (true), (t354), (t355), (by first | rfl | (simp; done) | (simp [*]; done)), H', ⟨by have := HK1.out; have := HJ11.out; first | omega | exact Nat.le_refl _⟩, ⟨by repeat (first | (with_reducible first | exact HI349.out | apply IsS41.alloc | apply IsS41.drewN | apply IsS41.drew | apply IsS41.set_0 | apply IsS41.set_1) | exact HI349.out)⟩, ⟨by repeat (first | (with_reducible first | exact HB.out | apply below_alloc | apply pw_below_drewN | apply below_drew1 | refine below_set ?_ (IsS41.ge HI349.out)) | exact HB.out)⟩⟩
                      · rw [if_neg c22] at H
                        exact absurd H (by simp)
                    · rw [if_neg c21] at H
                      exact absurd H (by simp)
                  · replace c20 := Bool.eq_false_iff.mpr c20
                    subst c20
                    have H1 : (transhumancelaw1_TextTakes.j2 kj11 l1 (strOfNums l0) x7_1 x8_1 x9_11 true t354 t355) = some r := by rw [if_neg (show ¬ (false = true) by decide)] at H; exact H
                    clear H
                    have H := H1
                    clear H1
                    have H' := Aside0.mk H
                    clear H
                    go_wp2
                    go_meet
                    case rel => exact ⟨_, (true), (t354), (t355), (by first | rfl | (simp; done) | (simp [*]; done)), H', ⟨by have := HK1.out; have := HJ11.out; first | omega | exact Nat.le_refl _⟩, ⟨by repeat (first | (with_reducible first | exact HI349.out | apply IsS41.alloc | apply IsS41.drewN | apply IsS41.drew | apply IsS41.set_0 | apply IsS41.set_1) | exact HI349.out)⟩, ⟨by repeat (first | (with_reducible first | exact HB.out | apply below_alloc | apply pw_below_drewN | apply below_drew1 | refine below_set ?_ (IsS41.ge HI349.out)) | exact HB.out)⟩⟩
                case rest =>
                  clear HC18
                  try clear c1
                  try clear c2
                  try clear p2
                  try clear q2
                  try clear hx2
                  try clear p3
                  try clear q3
                  try clear hx3
                  try clear c4
                  try clear c5
                  try clear c5b0
                  try clear c5b1
                  try clear p6
                  try clear hcv9
                  try clear c10
                  try clear c11
                  try clear c11b0
                  try clear c13
                  try clear c13b0
                  try clear c14
                  try clear c14b0
                  try clear c15
                  try clear c18
                  try clear c20
                  try clear c21
                  try clear c21b0
                  try clear c22
                  try clear c22b0
                  try clear p23
                  try clear q23
                  try clear hx23
                  try clear c24
                  try clear c24b0
                  try clear c24b1
                  try clear c25
                  try clear c25b0
                  try clear c26
                  try clear c26b0
                  try clear c26b1
                  try clear c27
                  try clear c27b0
                  try clear c27b1
                  try clear c27b2
                  try clear c29
                  try clear hx350_0
                  try clear p2
                  try clear p23
                  try clear p3
                  try clear p350
                  try clear p6
                  try clear q23
                  try clear q3
                  try clear q350
                  obtain ⟨kq, x77_17, x350000_17, x350001_17, rfl, HA, HJ17, HI349, HB⟩ := hcut
                  cases kq with
                  | zero => exact absurd HA.out (by simp [transhumancelaw1_TextTakes.j2])
                  | succ kj17 =>
                    have H := HA.out
                    clear HA
                    simp only [transhumancelaw1_TextTakes.j2] at H
                    by_cases c34 : x77_17 = true
                    · subst c34
                      have H1 : (some false) = some r := by rw [if_pos rfl] at H; exact H
                      clear H
                      have H := H1
                      clear H1
                      obtain rfl := Option.some.inj H
                      go_wp2
                      go_ret
                      exact ⟨by first | rfl | (simp [errW_none, errW_some] <;> rfl) | (simp [*, errW_none, errW_some] <;> rfl), by repeat (first | (with_reducible first | exact HB.out | apply below_alloc | apply pw_below_drewN | apply below_drew1 | refine below_set ?_ (IsS41.ge HI349.out)) | exact HB.out)⟩
                    · replace c34 := Bool.eq_false_iff.mpr c34
                      subst c34
                      have H1 : (if 0 ≤ x7_1 then (if x7_1 ≤ (wrap64 (x7_1 + x9_11)) then (if (wrap64 (x7_1 + x9_11)) ≤ ((strOfNums l0).size : Int) then ((text_Cursor_Take.f x350000_17 x350001_17 ((strOfNums l0).extract (x7_1 : Int).toNat ((wrap64 (x7_1 + x9_11)) : Int).toNat)).bind fun bt362 => (if bt362.1 = true then ((text_front_At.f bt362.2.1 bt362.2.2).bind fun bt365 => (if bt365.1 = (wrap64 (x7_1 + x9_11)) then (transhumancelaw1_TextTakes.l0 kj17 l1 (strOfNums l0) (wrap64 (x7_1 + x9_11)) (wrap64 (x8_1 + 1)) bt365.2.1 bt365.2.2) else (some false))) else (some false))) else (none)) else (none)) else (none)) = some r := by rw [if_neg (show ¬ (false = true) by decide)] at H; exact H
                      clear H
                      have H := H1
                      clear H1
                      by_cases c35 : 0 ≤ x7_1
                      · rw [if_pos c35] at H
                        have c35b0 := eq_true c35
                        have c35b1 : decide (0 ≤ x7_1) = true := decide_eq_true c35
                        clear c35
                        by_cases c36 : x7_1 ≤ (wrap64 (x7_1 + x9_11))
                        · rw [if_pos c36] at H
                          have c36b0 := eq_true c36
                          have c36b1 : decide (x7_1 ≤ (wrap64 (x7_1 + x9_11))) = true := decide_eq_true c36
                          by_cases c37 : (wrap64 (x7_1 + x9_11)) ≤ ((strOfNums l0).size : Int)
                          · rw [if_pos c37] at H
                            have c37b0 := eq_true c37
                            have c37b1 : decide ((wrap64 (x7_1 + x9_11)) ≤ ((strOfNums l0).size : Int)) = true := decide_eq_true c37
                            replace H := Option.bind_eq_some_iff.mp H
                            obtain ⟨⟨t362, t363, t364⟩, A380, H⟩ := H
                            replace H : (if t362 = true then ((text_front_At.f t363 t364).bind fun bt365 => (if bt365.1 = (wrap64 (x7_1 + x9_11)) then (transhumancelaw1_TextTakes.l0 kj17 l1 (strOfNums l0) (wrap64 (x7_1 + x9_11)) (wrap64 (x8_1 + 1)) bt365.2.1 bt365.2.2) else (some false))) else (some false)) = some r := H
                            have A38 := Aside0.mk A380
                            clear A380
                            by_cases c39 : t362 = true
                            · subst c39
                              have H1 : ((text_front_At.f t363 t364).bind fun bt365 => (if bt365.1 = (wrap64 (x7_1 + x9_11)) then (transhumancelaw1_TextTakes.l0 kj17 l1 (strOfNums l0) (wrap64 (x7_1 + x9_11)) (wrap64 (x8_1 + 1)) bt365.2.1 bt365.2.2) else (some false))) = some r := by rw [if_pos rfl] at H; exact H
                              clear H
                              have H := H1
                              clear H1
                              replace H := Option.bind_eq_some_iff.mp H
                              obtain ⟨⟨t365, t366, t367⟩, A400, H⟩ := H
                              replace H : (if t365 = (wrap64 (x7_1 + x9_11)) then (transhumancelaw1_TextTakes.l0 kj17 l1 (strOfNums l0) (wrap64 (x7_1 + x9_11)) (wrap64 (x8_1 + 1)) t366 t367) else (some false)) = some r := H
                              have A40 := Aside0.mk A400
                              clear A400
                              by_cases c41 : t365 = (wrap64 (x7_1 + x9_11))
                              · rw [if_pos c41] at H
                                have c41b0 : (t365 == (wrap64 (x7_1 + x9_11))) = true := beq_iff_eq.mpr c41
                                have c41b1 : (t365 != (wrap64 (x7_1 + x9_11))) = false := bne_eq_false_iff_eq.mpr c41
                                clear c41
                                have H' := Aside0.mk H
                                clear H
                                go_wp2_with (first | ((with_reducible refine gate_callee (f := 22) rfl ?_); refine goesL_ (some 85) rfl rfl Tryd.func22 (by kernel_rfl) rfl #[.pointer (some ⟨g349, 0, none⟩), .string ((strOfNums l0).extract (x7_1 : Int).toNat ((wrap64 (x7_1 + x9_11)) : Int).toNat)] rfl (by (try simp only [List.map_toArray, List.map_cons, List.map_nil]); first | done | rfl | (simp only [List.length_drop, List.length_take]; rfl)) ?_; (with_reducible refine (text_Cursor_Take.calls g349 x350000_17 x350001_17 ((strOfNums l0).extract (x7_1 : Int).toNat ((wrap64 (x7_1 + x9_11)) : Int).toNat) true t363 t364 w _ ?side1 ?side2 A38.out).mono ?_); (case side1 => repeat (first | (with_reducible first | exact HI349.out | apply IsS41.alloc | apply IsS41.drewN | apply IsS41.drew | apply IsS41.set_0 | apply IsS41.set_1) | exact HI349.out)); (case side2 => repeat (first | (with_reducible first | exact HB.out | apply below_alloc | apply pw_below_drewN | apply below_drew1 | refine below_set ?_ (IsS41.ge HI349.out)) | exact HB.out)); rintro e w42 ⟨rfl, hi, hb, hk⟩; refine ⟨_, rfl, ?_⟩; have n0_ := Aside0.mk (hb); have n1_ := Aside0.mk (hi); clear HB; clear HI349; have HB := n0_; have HI349 := n1_; clear n0_ n1_; (try clear hb); (try clear hb2); (try clear hk); (try clear hi)) | ((with_reducible refine gate_callee (f := 26) rfl ?_); refine goesL_ (some 93) rfl rfl Tryd.func26 (by kernel_rfl) rfl #[.pointer (some ⟨g349, 0, none⟩)] rfl (by (try simp only [List.map_toArray, List.map_cons, List.map_nil]); first | done | rfl | (simp only [List.length_drop, List.length_take]; rfl)) ?_; (with_reducible refine (text_front_At.calls g349 t363 t364 t365 t366 t367 w _ ?side1 ?side2 A40.out).mono ?_); (case side1 => repeat (first | (with_reducible first | exact HI349.out | apply IsS41.alloc | apply IsS41.drewN | apply IsS41.drew | apply IsS41.set_0 | apply IsS41.set_1) | exact HI349.out)); (case side2 => repeat (first | (with_reducible first | exact HB.out | apply below_alloc | apply pw_below_drewN | apply below_drew1 | refine below_set ?_ (IsS41.ge HI349.out)) | exact HB.out)); rintro e w43 ⟨rfl, hi, hb, hk⟩; refine ⟨_, rfl, ?_⟩; have n0_ := Aside0.mk (hb); have n1_ := Aside0.mk (hi); clear HB; clear HI349; have HB := n0_; have HI349 := n1_; clear n0_ n1_; (try clear hb); (try clear hb2); (try clear hk); (try clear hi)))
                                go_roundg kj17
                                case measure => have := HK1.out; have := HJ11.out; have := HJ17.out; omega
                                case rel => exact ⟨(wrap64 (x7_1 + x9_11)), (wrap64 (x8_1 + 1)), (t366), (t367), (by first | rfl | (simp; done) | (simp [*]; done)), (by first | rfl | (simp; done) | (simp [*]; done)), H', ⟨by have := HK1.out; have := HJ11.out; have := HJ17.out; omega⟩, ⟨by repeat (first | (with_reducible first | exact HI349.out | apply IsS41.alloc | apply IsS41.drewN | apply IsS41.drew | apply IsS41.set_0 | apply IsS41.set_1) | exact HI349.out)⟩, ⟨by repeat (first | (with_reducible first | exact HB.out | apply below_alloc | apply pw_below_drewN | apply below_drew1 | refine below_set ?_ (IsS41.ge HI349.out)) | exact HB.out)⟩⟩
                              · rw [if_neg c41] at H
                                have c41b0 : (t365 == (wrap64 (x7_1 + x9_11))) = false := beq_eq_false_iff_ne.mpr c41
                                have c41b1 : (t365 != (wrap64 (x7_1 + x9_11))) = true := bne_iff_ne.mpr c41
                                obtain rfl := Option.some.inj H
                                go_wp2_with (first | ((with_reducible refine gate_callee (f := 22) rfl ?_); refine goesL_ (some 85) rfl rfl Tryd.func22 (by kernel_rfl) rfl #[.pointer (some ⟨g349, 0, none⟩), .string ((strOfNums l0).extract (x7_1 : Int).toNat ((wrap64 (x7_1 + x9_11)) : Int).toNat)] rfl (by (try simp only [List.map_toArray, List.map_cons, List.map_nil]); first | done | rfl | (simp only [List.length_drop, List.length_take]; rfl)) ?_; (with_reducible refine (text_Cursor_Take.calls g349 x350000_17 x350001_17 ((strOfNums l0).extract (x7_1 : Int).toNat ((wrap64 (x7_1 + x9_11)) : Int).toNat) true t363 t364 w _ ?side1 ?side2 A38.out).mono ?_); (case side1 => repeat (first | (with_reducible first | exact HI349.out | apply IsS41.alloc | apply IsS41.drewN | apply IsS41.drew | apply IsS41.set_0 | apply IsS41.set_1) | exact HI349.out)); (case side2 => repeat (first | (with_reducible first | exact HB.out | apply below_alloc | apply pw_below_drewN | apply below_drew1 | refine below_set ?_ (IsS41.ge HI349.out)) | exact HB.out)); rintro e w44 ⟨rfl, hi, hb, hk⟩; refine ⟨_, rfl, ?_⟩; have n0_ := Aside0.mk (hb); have n1_ := Aside0.mk (hi); clear HB; clear HI349; have HB := n0_; have HI349 := n1_; clear n0_ n1_; (try clear hb); (try clear hb2); (try clear hk); (try clear hi)) | ((with_reducible refine gate_callee (f := 26) rfl ?_); refine goesL_ (some 93) rfl rfl Tryd.func26 (by kernel_rfl) rfl #[.pointer (some ⟨g349, 0, none⟩)] rfl (by (try simp only [List.map_toArray, List.map_cons, List.map_nil]); first | done | rfl | (simp only [List.length_drop, List.length_take]; rfl)) ?_; (with_reducible refine (text_front_At.calls g349 t363 t364 t365 t366 t367 w _ ?side1 ?side2 A40.out).mono ?_); (case side1 => repeat (first | (with_reducible first | exact HI349.out | apply IsS41.alloc | apply IsS41.drewN | apply IsS41.drew | apply IsS41.set_0 | apply IsS41.set_1) | exact HI349.out)); (case side2 => repeat (first | (with_reducible first | exact HB.out | apply below_alloc | apply pw_below_drewN | apply below_drew1 | refine below_set ?_ (IsS41.ge HI349.out)) | exact HB.out)); rintro e w45 ⟨rfl, hi, hb, hk⟩; refine ⟨_, rfl, ?_⟩; have n0_ := Aside0.mk (hb); have n1_ := Aside0.mk (hi); clear HB; clear HI349; have HB := n0_; have HI349 := n1_; clear n0_ n1_; (try clear hb); (try clear hb2); (try clear hk); (try clear hi)))
                                go_ret
                                exact ⟨by first | rfl | (simp [errW_none, errW_some] <;> rfl) | (simp [*, errW_none, errW_some] <;> rfl), by repeat (first | (with_reducible first | exact HB.out | apply below_alloc | apply pw_below_drewN | apply below_drew1 | refine below_set ?_ (IsS41.ge HI349.out)) | exact HB.out)⟩
                            · replace c39 := Bool.eq_false_iff.mpr c39
                              subst c39
                              have H1 : (some false) = some r := by rw [if_neg (show ¬ (false = true) by decide)] at H; exact H
                              clear H
                              have H := H1
                              clear H1
                              obtain rfl := Option.some.inj H
                              go_wp2_with (first | ((with_reducible refine gate_callee (f := 22) rfl ?_); refine goesL_ (some 85) rfl rfl Tryd.func22 (by kernel_rfl) rfl #[.pointer (some ⟨g349, 0, none⟩), .string ((strOfNums l0).extract (x7_1 : Int).toNat ((wrap64 (x7_1 + x9_11)) : Int).toNat)] rfl (by (try simp only [List.map_toArray, List.map_cons, List.map_nil]); first | done | rfl | (simp only [List.length_drop, List.length_take]; rfl)) ?_; (with_reducible refine (text_Cursor_Take.calls g349 x350000_17 x350001_17 ((strOfNums l0).extract (x7_1 : Int).toNat ((wrap64 (x7_1 + x9_11)) : Int).toNat) false t363 t364 w _ ?side1 ?side2 A38.out).mono ?_); (case side1 => repeat (first | (with_reducible first | exact HI349.out | apply IsS41.alloc | apply IsS41.drewN | apply IsS41.drew | apply IsS41.set_0 | apply IsS41.set_1) | exact HI349.out)); (case side2 => repeat (first | (with_reducible first | exact HB.out | apply below_alloc | apply pw_below_drewN | apply below_drew1 | refine below_set ?_ (IsS41.ge HI349.out)) | exact HB.out)); rintro e w46 ⟨rfl, hi, hb, hk⟩; refine ⟨_, rfl, ?_⟩; have n0_ := Aside0.mk (hb); have n1_ := Aside0.mk (hi); clear HB; clear HI349; have HB := n0_; have HI349 := n1_; clear n0_ n1_; (try clear hb); (try clear hb2); (try clear hk); (try clear hi)))
                              go_ret
                              exact ⟨by first | rfl | (simp [errW_none, errW_some] <;> rfl) | (simp [*, errW_none, errW_some] <;> rfl), by repeat (first | (with_reducible first | exact HB.out | apply below_alloc | apply pw_below_drewN | apply below_drew1 | refine below_set ?_ (IsS41.ge HI349.out)) | exact HB.out)⟩
                          · rw [if_neg c37] at H
                            exact absurd H (by simp)
                        · rw [if_neg c36] at H
                          exact absurd H (by simp)
                      · rw [if_neg c35] at H
                        exact absurd H (by simp)
          · rw [if_neg c11] at H
            have c11b0 : decide (x7_1 < ((strOfNums l0).size : Int)) = false := decide_eq_false c11
            clear c11
            replace H := Option.bind_eq_some_iff.mp H
            obtain ⟨⟨t368, t369, t370, t371⟩, A470, H⟩ := H
            replace H : (if t369 = true then (some false) else ((text_Cursor_Take.f t370 t371 (⟨#[120]⟩ : ByteArray)).bind fun bt372 => (if bt372.1 = true then (some false) else ((text_Cursor_Take.f bt372.2.1 bt372.2.2 (⟨#[]⟩ : ByteArray)).bind fun bt375 => (if bt375.1 = true then ((text_Cursor_While.f k1 bt375.2.1 bt375.2.2 (⟨#[97, 98, 99]⟩ : ByteArray)).bind fun bt378 => (if bt378.1.toList = ([] : List UInt8) then ((text_front_At.f bt378.2.1 bt378.2.2).bind fun bt381 => (some (bt381.1 == ((strOfNums l0).size : Int)))) else (some false))) else (some false)))))) = some r := H
            have A47 := Aside0.mk A470
            clear A470
            by_cases c48 : t369 = true
            · subst c48
              have H1 : (some false) = some r := by rw [if_pos rfl] at H; exact H
              clear H
              have H := H1
              clear H1
              obtain rfl := Option.some.inj H
              go_wp2_with (first | ((with_reducible refine gate_callee (f := 20) rfl ?_); refine goesL_ (some 100) rfl rfl Tryd.func20 (by kernel_rfl) rfl #[.pointer (some ⟨g349, 0, none⟩)] rfl (by (try simp only [List.map_toArray, List.map_cons, List.map_nil]); first | done | rfl | (simp only [List.length_drop, List.length_take]; rfl)) ?_; (with_reducible refine (text_front_Peek.calls g349 x350000_1 x350001_1 t368 true t370 t371 w _ ?side1 ?side2 A47.out).mono ?_); (case side1 => repeat (first | (with_reducible first | exact HI349.out | apply IsS41.alloc | apply IsS41.drewN | apply IsS41.drew | apply IsS41.set_0 | apply IsS41.set_1) | exact HI349.out)); (case side2 => repeat (first | (with_reducible first | exact HB.out | apply below_alloc | apply pw_below_drewN | apply below_drew1 | refine below_set ?_ (IsS41.ge HI349.out)) | exact HB.out)); rintro e w49 ⟨rfl, hi, hb, hk⟩; refine ⟨_, rfl, ?_⟩; have n0_ := Aside0.mk (hb); have n1_ := Aside0.mk (hi); clear HB; clear HI349; have HB := n0_; have HI349 := n1_; clear n0_ n1_; (try clear hb); (try clear hb2); (try clear hk); (try clear hi)))
              go_ret
              exact ⟨by first | rfl | (simp [errW_none, errW_some] <;> rfl) | (simp [*, errW_none, errW_some] <;> rfl), by repeat (first | (with_reducible first | exact HB.out | apply below_alloc | apply pw_below_drewN | apply below_drew1 | refine below_set ?_ (IsS41.ge HI349.out)) | exact HB.out)⟩
            · replace c48 := Bool.eq_false_iff.mpr c48
              subst c48
              have H1 : ((text_Cursor_Take.f t370 t371 (⟨#[120]⟩ : ByteArray)).bind fun bt372 => (if bt372.1 = true then (some false) else ((text_Cursor_Take.f bt372.2.1 bt372.2.2 (⟨#[]⟩ : ByteArray)).bind fun bt375 => (if bt375.1 = true then ((text_Cursor_While.f k1 bt375.2.1 bt375.2.2 (⟨#[97, 98, 99]⟩ : ByteArray)).bind fun bt378 => (if bt378.1.toList = ([] : List UInt8) then ((text_front_At.f bt378.2.1 bt378.2.2).bind fun bt381 => (some (bt381.1 == ((strOfNums l0).size : Int)))) else (some false))) else (some false))))) = some r := by rw [if_neg (show ¬ (false = true) by decide)] at H; exact H
              clear H
              have H := H1
              clear H1
              replace H := Option.bind_eq_some_iff.mp H
              obtain ⟨⟨t372, t373, t374⟩, A500, H⟩ := H
              replace H : (if t372 = true then (some false) else ((text_Cursor_Take.f t373 t374 (⟨#[]⟩ : ByteArray)).bind fun bt375 => (if bt375.1 = true then ((text_Cursor_While.f k1 bt375.2.1 bt375.2.2 (⟨#[97, 98, 99]⟩ : ByteArray)).bind fun bt378 => (if bt378.1.toList = ([] : List UInt8) then ((text_front_At.f bt378.2.1 bt378.2.2).bind fun bt381 => (some (bt381.1 == ((strOfNums l0).size : Int)))) else (some false))) else (some false)))) = some r := H
              have A50 := Aside0.mk A500
              clear A500
              by_cases c51 : t372 = true
              · subst c51
                have H1 : (some false) = some r := by rw [if_pos rfl] at H; exact H
                clear H
                have H := H1
                clear H1
                obtain rfl := Option.some.inj H
                go_wp2_with (first | ((with_reducible refine gate_callee (f := 20) rfl ?_); refine goesL_ (some 100) rfl rfl Tryd.func20 (by kernel_rfl) rfl #[.pointer (some ⟨g349, 0, none⟩)] rfl (by (try simp only [List.map_toArray, List.map_cons, List.map_nil]); first | done | rfl | (simp only [List.length_drop, List.length_take]; rfl)) ?_; (with_reducible refine (text_front_Peek.calls g349 x350000_1 x350001_1 t368 false t370 t371 w _ ?side1 ?side2 A47.out).mono ?_); (case side1 => repeat (first | (with_reducible first | exact HI349.out | apply IsS41.alloc | apply IsS41.drewN | apply IsS41.drew | apply IsS41.set_0 | apply IsS41.set_1) | exact HI349.out)); (case side2 => repeat (first | (with_reducible first | exact HB.out | apply below_alloc | apply pw_below_drewN | apply below_drew1 | refine below_set ?_ (IsS41.ge HI349.out)) | exact HB.out)); rintro e w52 ⟨rfl, hi, hb, hk⟩; refine ⟨_, rfl, ?_⟩; have n0_ := Aside0.mk (hb); have n1_ := Aside0.mk (hi); clear HB; clear HI349; have HB := n0_; have HI349 := n1_; clear n0_ n1_; (try clear hb); (try clear hb2); (try clear hk); (try clear hi)) | (go_at_call 22; (with_reducible refine (text_Cursor_Take.calls g349 t370 t371 (⟨#[120]⟩ : ByteArray) true t373 t374 w _ ?side1 ?side2 A50.out).mono ?_); (case side1 => repeat (first | (with_reducible first | exact HI349.out | apply IsS41.alloc | apply IsS41.drewN | apply IsS41.drew | apply IsS41.set_0 | apply IsS41.set_1) | exact HI349.out)); (case side2 => repeat (first | (with_reducible first | exact HB.out | apply below_alloc | apply pw_below_drewN | apply below_drew1 | refine below_set ?_ (IsS41.ge HI349.out)) | exact HB.out)); rintro e w53 ⟨rfl, hi, hb, hk⟩; have n0_ := Aside0.mk (hb); have n1_ := Aside0.mk (hi); clear HB; clear HI349; have HB := n0_; have HI349 := n1_; clear n0_ n1_; (try clear hb); (try clear hb2); (try clear hk); (try clear hi)))
                go_ret
                exact ⟨by first | rfl | (simp [errW_none, errW_some] <;> rfl) | (simp [*, errW_none, errW_some] <;> rfl), by repeat (first | (with_reducible first | exact HB.out | apply below_alloc | apply pw_below_drewN | apply below_drew1 | refine below_set ?_ (IsS41.ge HI349.out)) | exact HB.out)⟩
              · replace c51 := Bool.eq_false_iff.mpr c51
                subst c51
                have H1 : ((text_Cursor_Take.f t373 t374 (⟨#[]⟩ : ByteArray)).bind fun bt375 => (if bt375.1 = true then ((text_Cursor_While.f k1 bt375.2.1 bt375.2.2 (⟨#[97, 98, 99]⟩ : ByteArray)).bind fun bt378 => (if bt378.1.toList = ([] : List UInt8) then ((text_front_At.f bt378.2.1 bt378.2.2).bind fun bt381 => (some (bt381.1 == ((strOfNums l0).size : Int)))) else (some false))) else (some false))) = some r := by rw [if_neg (show ¬ (false = true) by decide)] at H; exact H
                clear H
                have H := H1
                clear H1
                replace H := Option.bind_eq_some_iff.mp H
                obtain ⟨⟨t375, t376, t377⟩, A540, H⟩ := H
                replace H : (if t375 = true then ((text_Cursor_While.f k1 t376 t377 (⟨#[97, 98, 99]⟩ : ByteArray)).bind fun bt378 => (if bt378.1.toList = ([] : List UInt8) then ((text_front_At.f bt378.2.1 bt378.2.2).bind fun bt381 => (some (bt381.1 == ((strOfNums l0).size : Int)))) else (some false))) else (some false)) = some r := H
                have A54 := Aside0.mk A540
                clear A540
                by_cases c55 : t375 = true
                · subst c55
                  have H1 : ((text_Cursor_While.f k1 t376 t377 (⟨#[97, 98, 99]⟩ : ByteArray)).bind fun bt378 => (if bt378.1.toList = ([] : List UInt8) then ((text_front_At.f bt378.2.1 bt378.2.2).bind fun bt381 => (some (bt381.1 == ((strOfNums l0).size : Int)))) else (some false))) = some r := by rw [if_pos rfl] at H; exact H
                  clear H
                  have H := H1
                  clear H1
                  replace H := Option.bind_eq_some_iff.mp H
                  obtain ⟨⟨t378, t379, t380⟩, A560, H⟩ := H
                  replace H : (if t378.toList = ([] : List UInt8) then ((text_front_At.f t379 t380).bind fun bt381 => (some (bt381.1 == ((strOfNums l0).size : Int)))) else (some false)) = some r := H
                  have A56 := Aside0.mk A560
                  clear A560
                  by_cases c57 : t378.toList = ([] : List UInt8)
                  · rw [if_pos c57] at H
                    have c57b0 : (t378.toList == ([] : List UInt8)) = true := beq_iff_eq.mpr c57
                    have c57b1 : (t378.toList != ([] : List UInt8)) = false := bne_eq_false_iff_eq.mpr c57
                    clear c57
                    replace H := Option.bind_eq_some_iff.mp H
                    obtain ⟨⟨t381, t382, t383⟩, A580, H⟩ := H
                    replace H : (some (t381 == ((strOfNums l0).size : Int))) = some r := H
                    have A58 := Aside0.mk A580
                    clear A580
                    obtain rfl := Option.some.inj H
                    go_wp2_with (first | ((with_reducible refine gate_callee (f := 20) rfl ?_); refine goesL_ (some 100) rfl rfl Tryd.func20 (by kernel_rfl) rfl #[.pointer (some ⟨g349, 0, none⟩)] rfl (by (try simp only [List.map_toArray, List.map_cons, List.map_nil]); first | done | rfl | (simp only [List.length_drop, List.length_take]; rfl)) ?_; (with_reducible refine (text_front_Peek.calls g349 x350000_1 x350001_1 t368 false t370 t371 w _ ?side1 ?side2 A47.out).mono ?_); (case side1 => repeat (first | (with_reducible first | exact HI349.out | apply IsS41.alloc | apply IsS41.drewN | apply IsS41.drew | apply IsS41.set_0 | apply IsS41.set_1) | exact HI349.out)); (case side2 => repeat (first | (with_reducible first | exact HB.out | apply below_alloc | apply pw_below_drewN | apply below_drew1 | refine below_set ?_ (IsS41.ge HI349.out)) | exact HB.out)); rintro e w59 ⟨rfl, hi, hb, hk⟩; refine ⟨_, rfl, ?_⟩; have n0_ := Aside0.mk (hb); have n1_ := Aside0.mk (hi); clear HB; clear HI349; have HB := n0_; have HI349 := n1_; clear n0_ n1_; (try clear hb); (try clear hb2); (try clear hk); (try clear hi)) | (go_at_call 22; (with_reducible refine (text_Cursor_Take.calls g349 t370 t371 (⟨#[120]⟩ : ByteArray) false t373 t374 w _ ?side1 ?side2 A50.out).mono ?_); (case side1 => repeat (first | (with_reducible first | exact HI349.out | apply IsS41.alloc | apply IsS41.drewN | apply IsS41.drew | apply IsS41.set_0 | apply IsS41.set_1) | exact HI349.out)); (case side2 => repeat (first | (with_reducible first | exact HB.out | apply below_alloc | apply pw_below_drewN | apply below_drew1 | refine below_set ?_ (IsS41.ge HI349.out)) | exact HB.out)); rintro e w60 ⟨rfl, hi, hb, hk⟩; have n0_ := Aside0.mk (hb); have n1_ := Aside0.mk (hi); clear HB; clear HI349; have HB := n0_; have HI349 := n1_; clear n0_ n1_; (try clear hb); (try clear hb2); (try clear hk); (try clear hi)) | (go_at_call 22; (with_reducible refine (text_Cursor_Take.calls g349 t373 t374 (⟨#[]⟩ : ByteArray) true t376 t377 w _ ?side1 ?side2 A54.out).mono ?_); (case side1 => repeat (first | (with_reducible first | exact HI349.out | apply IsS41.alloc | apply IsS41.drewN | apply IsS41.drew | apply IsS41.set_0 | apply IsS41.set_1) | exact HI349.out)); (case side2 => repeat (first | (with_reducible first | exact HB.out | apply below_alloc | apply pw_below_drewN | apply below_drew1 | refine below_set ?_ (IsS41.ge HI349.out)) | exact HB.out)); rintro e w61 ⟨rfl, hi, hb, hk⟩; have n0_ := Aside0.mk (hb); have n1_ := Aside0.mk (hi); clear HB; clear HI349; have HB := n0_; have HI349 := n1_; clear n0_ n1_; (try clear hb); (try clear hb2); (try clear hk); (try clear hi)) | (go_at_call 24; (with_reducible refine (text_Cursor_While.calls k1 g349 t376 t377 (⟨#[97, 98, 99]⟩ : ByteArray) t378 t379 t380 w _ ?side1 ?side2 A56.out).mono ?_); (case side1 => repeat (first | (with_reducible first | exact HI349.out | apply IsS41.alloc | apply IsS41.drewN | apply IsS41.drew | apply IsS41.set_0 | apply IsS41.set_1) | exact HI349.out)); (case side2 => repeat (first | (with_reducible first | exact HB.out | apply below_alloc | apply pw_below_drewN | apply below_drew1 | refine below_set ?_ (IsS41.ge HI349.out)) | exact HB.out)); rintro e w62 ⟨rfl, hi, hb, hk⟩; have n0_ := Aside0.mk (hb); have n1_ := Aside0.mk (hi); clear HB; clear HI349; have HB := n0_; have HI349 := n1_; clear n0_ n1_; (try clear hb); (try clear hb2); (try clear hk); (try clear hi)) | (go_at_call 26; (with_reducible refine (text_front_At.calls g349 t379 t380 t381 t382 t383 w _ ?side1 ?side2 A58.out).mono ?_); (case side1 => repeat (first | (with_reducible first | exact HI349.out | apply IsS41.alloc | apply IsS41.drewN | apply IsS41.drew | apply IsS41.set_0 | apply IsS41.set_1) | exact HI349.out)); (case side2 => repeat (first | (with_reducible first | exact HB.out | apply below_alloc | apply pw_below_drewN | apply below_drew1 | refine below_set ?_ (IsS41.ge HI349.out)) | exact HB.out)); rintro e w63 ⟨rfl, hi, hb, hk⟩; have n0_ := Aside0.mk (hb); have n1_ := Aside0.mk (hi); clear HB; clear HI349; have HB := n0_; have HI349 := n1_; clear n0_ n1_; (try clear hb); (try clear hb2); (try clear hk); (try clear hi)))
                    go_ret
                    exact ⟨by first | rfl | (simp [errW_none, errW_some] <;> rfl) | (simp [*, errW_none, errW_some] <;> rfl), by repeat (first | (with_reducible first | exact HB.out | apply below_alloc | apply pw_below_drewN | apply below_drew1 | refine below_set ?_ (IsS41.ge HI349.out)) | exact HB.out)⟩
                  · rw [if_neg c57] at H
                    have c57b0 : (t378.toList == ([] : List UInt8)) = false := beq_eq_false_iff_ne.mpr c57
                    have c57b1 : (t378.toList != ([] : List UInt8)) = true := bne_iff_ne.mpr c57
                    obtain rfl := Option.some.inj H
                    go_wp2_with (first | ((with_reducible refine gate_callee (f := 20) rfl ?_); refine goesL_ (some 100) rfl rfl Tryd.func20 (by kernel_rfl) rfl #[.pointer (some ⟨g349, 0, none⟩)] rfl (by (try simp only [List.map_toArray, List.map_cons, List.map_nil]); first | done | rfl | (simp only [List.length_drop, List.length_take]; rfl)) ?_; (with_reducible refine (text_front_Peek.calls g349 x350000_1 x350001_1 t368 false t370 t371 w _ ?side1 ?side2 A47.out).mono ?_); (case side1 => repeat (first | (with_reducible first | exact HI349.out | apply IsS41.alloc | apply IsS41.drewN | apply IsS41.drew | apply IsS41.set_0 | apply IsS41.set_1) | exact HI349.out)); (case side2 => repeat (first | (with_reducible first | exact HB.out | apply below_alloc | apply pw_below_drewN | apply below_drew1 | refine below_set ?_ (IsS41.ge HI349.out)) | exact HB.out)); rintro e w64 ⟨rfl, hi, hb, hk⟩; refine ⟨_, rfl, ?_⟩; have n0_ := Aside0.mk (hb); have n1_ := Aside0.mk (hi); clear HB; clear HI349; have HB := n0_; have HI349 := n1_; clear n0_ n1_; (try clear hb); (try clear hb2); (try clear hk); (try clear hi)) | (go_at_call 22; (with_reducible refine (text_Cursor_Take.calls g349 t370 t371 (⟨#[120]⟩ : ByteArray) false t373 t374 w _ ?side1 ?side2 A50.out).mono ?_); (case side1 => repeat (first | (with_reducible first | exact HI349.out | apply IsS41.alloc | apply IsS41.drewN | apply IsS41.drew | apply IsS41.set_0 | apply IsS41.set_1) | exact HI349.out)); (case side2 => repeat (first | (with_reducible first | exact HB.out | apply below_alloc | apply pw_below_drewN | apply below_drew1 | refine below_set ?_ (IsS41.ge HI349.out)) | exact HB.out)); rintro e w65 ⟨rfl, hi, hb, hk⟩; have n0_ := Aside0.mk (hb); have n1_ := Aside0.mk (hi); clear HB; clear HI349; have HB := n0_; have HI349 := n1_; clear n0_ n1_; (try clear hb); (try clear hb2); (try clear hk); (try clear hi)) | (go_at_call 22; (with_reducible refine (text_Cursor_Take.calls g349 t373 t374 (⟨#[]⟩ : ByteArray) true t376 t377 w _ ?side1 ?side2 A54.out).mono ?_); (case side1 => repeat (first | (with_reducible first | exact HI349.out | apply IsS41.alloc | apply IsS41.drewN | apply IsS41.drew | apply IsS41.set_0 | apply IsS41.set_1) | exact HI349.out)); (case side2 => repeat (first | (with_reducible first | exact HB.out | apply below_alloc | apply pw_below_drewN | apply below_drew1 | refine below_set ?_ (IsS41.ge HI349.out)) | exact HB.out)); rintro e w66 ⟨rfl, hi, hb, hk⟩; have n0_ := Aside0.mk (hb); have n1_ := Aside0.mk (hi); clear HB; clear HI349; have HB := n0_; have HI349 := n1_; clear n0_ n1_; (try clear hb); (try clear hb2); (try clear hk); (try clear hi)) | (go_at_call 24; (with_reducible refine (text_Cursor_While.calls k1 g349 t376 t377 (⟨#[97, 98, 99]⟩ : ByteArray) t378 t379 t380 w _ ?side1 ?side2 A56.out).mono ?_); (case side1 => repeat (first | (with_reducible first | exact HI349.out | apply IsS41.alloc | apply IsS41.drewN | apply IsS41.drew | apply IsS41.set_0 | apply IsS41.set_1) | exact HI349.out)); (case side2 => repeat (first | (with_reducible first | exact HB.out | apply below_alloc | apply pw_below_drewN | apply below_drew1 | refine below_set ?_ (IsS41.ge HI349.out)) | exact HB.out)); rintro e w67 ⟨rfl, hi, hb, hk⟩; have n0_ := Aside0.mk (hb); have n1_ := Aside0.mk (hi); clear HB; clear HI349; have HB := n0_; have HI349 := n1_; clear n0_ n1_; (try clear hb); (try clear hb2); (try clear hk); (try clear hi)))
                    go_ret
                    exact ⟨by first | rfl | (simp [errW_none, errW_some] <;> rfl) | (simp [*, errW_none, errW_some] <;> rfl), by repeat (first | (with_reducible first | exact HB.out | apply below_alloc | apply pw_below_drewN | apply below_drew1 | refine below_set ?_ (IsS41.ge HI349.out)) | exact HB.out)⟩
                · replace c55 := Bool.eq_false_iff.mpr c55
                  subst c55
                  have H1 : (some false) = some r := by rw [if_neg (show ¬ (false = true) by decide)] at H; exact H
                  clear H
                  have H := H1
                  clear H1
                  obtain rfl := Option.some.inj H
                  go_wp2_with (first | ((with_reducible refine gate_callee (f := 20) rfl ?_); refine goesL_ (some 100) rfl rfl Tryd.func20 (by kernel_rfl) rfl #[.pointer (some ⟨g349, 0, none⟩)] rfl (by (try simp only [List.map_toArray, List.map_cons, List.map_nil]); first | done | rfl | (simp only [List.length_drop, List.length_take]; rfl)) ?_; (with_reducible refine (text_front_Peek.calls g349 x350000_1 x350001_1 t368 false t370 t371 w _ ?side1 ?side2 A47.out).mono ?_); (case side1 => repeat (first | (with_reducible first | exact HI349.out | apply IsS41.alloc | apply IsS41.drewN | apply IsS41.drew | apply IsS41.set_0 | apply IsS41.set_1) | exact HI349.out)); (case side2 => repeat (first | (with_reducible first | exact HB.out | apply below_alloc | apply pw_below_drewN | apply below_drew1 | refine below_set ?_ (IsS41.ge HI349.out)) | exact HB.out)); rintro e w68 ⟨rfl, hi, hb, hk⟩; refine ⟨_, rfl, ?_⟩; have n0_ := Aside0.mk (hb); have n1_ := Aside0.mk (hi); clear HB; clear HI349; have HB := n0_; have HI349 := n1_; clear n0_ n1_; (try clear hb); (try clear hb2); (try clear hk); (try clear hi)) | (go_at_call 22; (with_reducible refine (text_Cursor_Take.calls g349 t370 t371 (⟨#[120]⟩ : ByteArray) false t373 t374 w _ ?side1 ?side2 A50.out).mono ?_); (case side1 => repeat (first | (with_reducible first | exact HI349.out | apply IsS41.alloc | apply IsS41.drewN | apply IsS41.drew | apply IsS41.set_0 | apply IsS41.set_1) | exact HI349.out)); (case side2 => repeat (first | (with_reducible first | exact HB.out | apply below_alloc | apply pw_below_drewN | apply below_drew1 | refine below_set ?_ (IsS41.ge HI349.out)) | exact HB.out)); rintro e w69 ⟨rfl, hi, hb, hk⟩; have n0_ := Aside0.mk (hb); have n1_ := Aside0.mk (hi); clear HB; clear HI349; have HB := n0_; have HI349 := n1_; clear n0_ n1_; (try clear hb); (try clear hb2); (try clear hk); (try clear hi)) | (go_at_call 22; (with_reducible refine (text_Cursor_Take.calls g349 t373 t374 (⟨#[]⟩ : ByteArray) false t376 t377 w _ ?side1 ?side2 A54.out).mono ?_); (case side1 => repeat (first | (with_reducible first | exact HI349.out | apply IsS41.alloc | apply IsS41.drewN | apply IsS41.drew | apply IsS41.set_0 | apply IsS41.set_1) | exact HI349.out)); (case side2 => repeat (first | (with_reducible first | exact HB.out | apply below_alloc | apply pw_below_drewN | apply below_drew1 | refine below_set ?_ (IsS41.ge HI349.out)) | exact HB.out)); rintro e w70 ⟨rfl, hi, hb, hk⟩; have n0_ := Aside0.mk (hb); have n1_ := Aside0.mk (hi); clear HB; clear HI349; have HB := n0_; have HI349 := n1_; clear n0_ n1_; (try clear hb); (try clear hb2); (try clear hk); (try clear hi)))
                  go_ret
                  exact ⟨by first | rfl | (simp [errW_none, errW_some] <;> rfl) | (simp [*, errW_none, errW_some] <;> rfl), by repeat (first | (with_reducible first | exact HB.out | apply below_alloc | apply pw_below_drewN | apply below_drew1 | refine below_set ?_ (IsS41.ge HI349.out)) | exact HB.out)⟩
  · replace c4 := Bool.eq_false_iff.mpr c4
    subst c4
    have H1 : (some false) = some r := by rw [if_neg (show ¬ (false = true) by decide)] at H; exact H
    clear H
    have H := H1
    clear H1
    obtain rfl := Option.some.inj H
    go_enter Tryd.func10, Tryd.ntmps10
    go_wp2_with (first | ((with_reducible refine gate_callee (f := 13) rfl ?_); refine goesL_ (some 14) rfl rfl Tryd.func13 (by kernel_rfl) rfl #[] rfl (by (try simp only [List.map_toArray, List.map_cons, List.map_nil]); first | done | rfl | (simp only [List.length_drop, List.length_take]; rfl)) ?_; (with_reducible refine (transhumancelaw1_known.calls k  false _ A3.out).mono ?_); rintro e w71 ⟨rfl, hb⟩; refine ⟨_, rfl, ?_⟩; have n0_ := Aside0.mk (below_step (by repeat (first | (with_reducible first | exact HB.out | apply below_alloc | apply pw_below_drewN | apply below_drew1) | exact HB.out)) hb); clear HB; have HB := n0_; clear n0_; (try clear hb); (try clear hb2); (try clear hk); (try clear hi)))
    go_ret
    exact ⟨by first | rfl | (simp [errW_none, errW_some] <;> rfl) | (simp [*, errW_none, errW_some] <;> rfl), by repeat (first | (with_reducible first | exact HB.out | apply below_alloc | apply pw_below_drewN | apply below_drew1) | exact HB.out)⟩

/-- THE ONE PURE STATEMENT of transhumancelaw1_TextTakes: yours. -/
def transhumancelaw1_TextTakes.Pure : Prop := ∀ (l0 : List Int) (l1 : List Int), l0.length ≤ maxLen → l0.length * 1 ≤ 140737488351232 → (∀ x ∈ l0, (Lit.int .u8 x).wf = true) → l1.length ≤ maxLen → l1.length * 8 ≤ 140737488351232 → (∀ x ∈ l1, (Lit.int .i64 x).wf = true) → ∃ k, transhumancelaw1_TextTakes.f k l0 l1 = some true
theorem transhumancelaw1_TextTakes.walk (P : transhumancelaw1_TextTakes.Pure) (a0 : Option Addr) (len0 cap0 : Nat) (z0 : List Int) (a1 : Option Addr) (len1 cap1 : Nat) (z1 : List Int) (w : World) (w0 : (a0 = none ∧ len0 = 0 ∧ cap0 = 0 ∧ z0 = []) ∨ ∃ x, a0 = some x ∧ len0 ≤ cap0 ∧ cap0 ≤ maxLen ∧ z0.length = cap0 ∧ (∀ i, i < z0.length → w.cell? (x.add i) = some (.int .u8 (z0.getD i 0))) ∧ ∀ n ∈ z0, (Lit.int .u8 n).wf = true) (y0 : len0 * 1 ≤ 140737488351232) (w1 : (a1 = none ∧ len1 = 0 ∧ cap1 = 0 ∧ z1 = []) ∨ ∃ x, a1 = some x ∧ len1 ≤ cap1 ∧ cap1 ≤ maxLen ∧ z1.length = cap1 ∧ (∀ i, i < z1.length → w.cell? (x.add i) = some (.int .i64 (z1.getD i 0))) ∧ ∀ n ∈ z1, (Lit.int .i64 n).wf = true) (y1 : len1 * 8 ≤ 140737488351232) :
    Calls Tryd.prog 10 #[.slice a0 len0 cap0, .slice a1 len1 cap1] w fun e w' => e = .returned (.bool true) ∧ Below w.heap.size w w' := by
  obtain ⟨l0, rfl, hr0, hm0, hw0, hc0⟩ := ReadsInt.ofRowC w0
  obtain ⟨l1, rfl, hr1, hm1, hw1, hc1⟩ := ReadsInt.ofRowC w1
  obtain ⟨k, h⟩ := P l0 l1 hm0 y0 hw0 hm1 y1 hw1
  refine (transhumancelaw1_TextTakes.calls k _ _ l0 _ _ l1 true w (Kd.C_of_reads (d := (0 : Int)) (h1 := fun _ => rfl) hr0) hc0 (Kd.C_of_reads (d := (0 : Int)) (h1 := fun _ => rfl) hr1) hc1 h).mono ?_
  rintro e w' ⟨rfl, hd⟩
  exact ⟨rfl, hd⟩

end Go.Proofs.YtkejnnnedgmhiaaDoor.X
