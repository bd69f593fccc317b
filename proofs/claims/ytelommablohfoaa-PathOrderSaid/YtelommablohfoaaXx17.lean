-- Laid by this session's own program (wip/xprint.py). Not trusted: Lean checks it.
import Derived.Test.YtelommablohfoaaXx0
import Derived.Test.YtelommablohfoaaXx4
import Derived.Test.YtelommablohfoaaXx5
import Derived.Test.YtelommablohfoaaXx9
namespace Go.Proofs.Ytelommablohfoaa.X
open Go.RowKit Go.Proofs.YtelommablohfoaaW.PrintWords Go.Proofs.YtelommablohfoaaW.PrintLast Go.Proofs.YtelommablohfoaaW.PrintMore
attribute [local go_sem] max2_int min2_int max_two min_two max_three min_three max_four min_four   -- for this text's walks alone
set_option linter.unusedVariables false
set_option linter.unusedSimpArgs false

/-! ### transhumancelaw4_PathOrder: function 10 -/
mutual
def transhumancelaw4_PathOrder.l0 : Nat → List Int → Int → Int → Int → List ByteArray → Int → Option (Bool)
  | 0, _, _, _, _, _, _ => none
  | k + 1, x0, x1, x2, x3, x9, x10 => if x10 < (x0.length : Int) then (transhumancelaw4_PathOrder.j1 k x0 x1 x2 x3 x9 x10 (decide (x10 < 12))) else (transhumancelaw4_PathOrder.j1 k x0 x1 x2 x3 x9 x10 false)
def transhumancelaw4_PathOrder.j1 : Nat → List Int → Int → Int → Int → List ByteArray → Int → Bool → Option (Bool)
  | 0, _, _, _, _, _, _, _ => none
  | k + 1, x0, x1, x2, x3, x9, x10, x27 => if x27 = true then (if 0 ≤ x10 then (if x10 < (x0.length : Int) then ((transhumancelaw4_Make.f k (rd x0 x10)).bind fun t307 => (if x9.length < 8796093022208 then (transhumancelaw4_PathOrder.l0 k x0 x1 x2 x3 (x9 ++ [t307]) (wrap64 (x10 + 1))) else (none))) else (none)) else (none)) else ((transhumancelaw4_within.f x3 (wrap64 ((x9.length : Int) + 1))).bind fun t311 => ((transhumancelaw2_Make.f k x2 0).bind fun bt312 => ((transhumancelaw4_within.f x2 4).bind fun t317 => ((transhumancelaw4_Make.f k x1).bind fun t318 => (if (x9.length : Int) > 0 then ((transhumancelaw4_within.f x1 3).bind fun t319 => (transhumancelaw4_PathOrder.j2 k x1 x9 t311 t318 (decide (t319 > 0)) t317 bt312.2.1 bt312.2.2.1 bt312.2.2.2)) else (transhumancelaw4_PathOrder.j2 k x1 x9 t311 t318 false t317 bt312.2.1 bt312.2.2.1 bt312.2.2.2))))))
def transhumancelaw4_PathOrder.j2 : Nat → Int → List ByteArray → Int → ByteArray → Bool → Int → Int → Int → ByteArray → Option (Bool)
  | 0, _, _, _, _, _, _, _, _, _ => none
  | k + 1, x1, x9, x11, x13, x57, x317000, x317001, x317002, x317003 => if x57 = true then ((transhumancelaw4_within.f x1 (x9.length : Int)).bind fun t320 => (if 0 ≤ t320 then (if t320 < (x9.length : Int) then (if (rdOf ByteArray.empty x9 t320).size + 2 ≤ 9223372036854775807 then (transhumancelaw4_PathOrder.j3 k x9 x11 ((rdOf ByteArray.empty x9 t320) ++ (⟨#[47, 120]⟩ : ByteArray)) x317000 x317001 x317002 x317003) else (none)) else (none)) else (none))) else (transhumancelaw4_PathOrder.j3 k x9 x11 x13 x317000 x317001 x317002 x317003)
def transhumancelaw4_PathOrder.j3 : Nat → List ByteArray → Int → ByteArray → Int → Int → Int → ByteArray → Option (Bool)
  | 0, _, _, _, _, _, _, _ => none
  | k + 1, x9, x11, x13, x317000, x317001, x317002, x317003 => (path_Find.f k x9 x13 x317000 x317001 x317002 x317003).bind fun bt322 => ((some (([] : List ByteArray) : List ByteArray)).bind fun y324 => (if 0 ≤ x11 then (if x11 ≤ (x9.length : Int) then ((some (x9.drop (x11 : Int).toNat : List ByteArray)).bind fun y327 => (if y324.length + y327.length < 8796093022208 then ((some (y324 ++ y327 : List ByteArray)).bind fun y331 => ((some (x9.take (x11 : Int).toNat : List ByteArray)).bind fun y334 => (if y331.length + y334.length < 8796093022208 then ((some (y331 ++ y334 : List ByteArray)).bind fun y338 => (if y338.length + x9.length < 8796093022208 then ((path_Find.f k (y338 ++ x9) x13 x317000 x317001 x317002 x317003).bind fun bt344 => (if bt322.1.toList = bt344.1.toList then (some (bt322.2 == bt344.2)) else (some false))) else (none))) else (none)))) else (none))) else (none)) else (none)))
end
def transhumancelaw4_PathOrder.f (k : Nat) (l0 : List Int) (a1 : Int) (a2 : Int) (a3 : Int) : Option (Bool) := (transhumancelaw4_known.f k).bind fun t305 => (if t305 = true then (transhumancelaw4_PathOrder.l0 k l0 a1 a2 a3 ([] : List ByteArray) 0) else (some false))
theorem transhumancelaw4_PathOrder.mono_l : ∀ k, (∀ y0 y1 y2 y3 y4 y5, LeO (transhumancelaw4_PathOrder.l0 k y0 y1 y2 y3 y4 y5) (transhumancelaw4_PathOrder.l0 (k + 1) y0 y1 y2 y3 y4 y5)) ∧ (∀ y0 y1 y2 y3 y4 y5 y6, LeO (transhumancelaw4_PathOrder.j1 k y0 y1 y2 y3 y4 y5 y6) (transhumancelaw4_PathOrder.j1 (k + 1) y0 y1 y2 y3 y4 y5 y6)) ∧ (∀ y0 y1 y2 y3 y4 y5 y6 y7 y8, LeO (transhumancelaw4_PathOrder.j2 k y0 y1 y2 y3 y4 y5 y6 y7 y8) (transhumancelaw4_PathOrder.j2 (k + 1) y0 y1 y2 y3 y4 y5 y6 y7 y8)) ∧ (∀ y0 y1 y2 y3 y4 y5 y6, LeO (transhumancelaw4_PathOrder.j3 k y0 y1 y2 y3 y4 y5 y6) (transhumancelaw4_PathOrder.j3 (k + 1) y0 y1 y2 y3 y4 y5 y6))
  | 0 => ⟨fun _ _ _ _ _ _ r h => by simp [transhumancelaw4_PathOrder.l0] at h, fun _ _ _ _ _ _ _ r h => by simp [transhumancelaw4_PathOrder.j1] at h, fun _ _ _ _ _ _ _ _ _ r h => by simp [transhumancelaw4_PathOrder.j2] at h, fun _ _ _ _ _ _ _ r h => by simp [transhumancelaw4_PathOrder.j3] at h⟩
  | k + 1 => by
    obtain ⟨ih0, ih1, ih2, ih3⟩ := transhumancelaw4_PathOrder.mono_l k
    refine ⟨?_, ?_, ?_, ?_⟩
    · intro y0 y1 y2 y3 y4 y5
      unfold transhumancelaw4_PathOrder.l0
      repeat' first
      | (with_reducible exact ih0 _ _ _ _ _ _)
      | (with_reducible exact ih1 _ _ _ _ _ _ _)
      | (with_reducible exact ih2 _ _ _ _ _ _ _ _ _)
      | (with_reducible exact ih3 _ _ _ _ _ _ _)
      | (with_reducible exact path_Find.mono _ _ _ _ _ _ _)
      | (with_reducible exact transhumancelaw2_Make.mono _ _ _)
      | (with_reducible exact transhumancelaw4_Make.mono _ _)
      | (with_reducible exact transhumancelaw4_known.mono _)
      | (with_reducible exact LeO.refl _)
      | (with_reducible exact LeO.none _)
      | (with_reducible refine LeO.ite ?_ ?_)
      | (with_reducible refine LeO.bind ?_ (fun _ => ?_))
      | exact ih0 _ _ _ _ _ _
      | exact ih1 _ _ _ _ _ _ _
      | exact ih2 _ _ _ _ _ _ _ _ _
      | exact ih3 _ _ _ _ _ _ _
      | exact path_Find.mono _ _ _ _ _ _ _
      | exact transhumancelaw2_Make.mono _ _ _
      | exact transhumancelaw4_Make.mono _ _
      | exact transhumancelaw4_known.mono _
      | exact LeO.none _
      | refine LeO.ite ?_ ?_
      | refine LeO.bind ?_ (fun _ => ?_)
    · intro y0 y1 y2 y3 y4 y5 y6
      unfold transhumancelaw4_PathOrder.j1
      repeat' first
      | (with_reducible exact ih0 _ _ _ _ _ _)
      | (with_reducible exact ih1 _ _ _ _ _ _ _)
      | (with_reducible exact ih2 _ _ _ _ _ _ _ _ _)
      | (with_reducible exact ih3 _ _ _ _ _ _ _)
      | (with_reducible exact path_Find.mono _ _ _ _ _ _ _)
      | (with_reducible exact transhumancelaw2_Make.mono _ _ _)
      | (with_reducible exact transhumancelaw4_Make.mono _ _)
      | (with_reducible exact transhumancelaw4_known.mono _)
      | (with_reducible exact LeO.refl _)
      | (with_reducible exact LeO.none _)
      | (with_reducible refine LeO.ite ?_ ?_)
      | (with_reducible refine LeO.bind ?_ (fun _ => ?_))
      | exact ih0 _ _ _ _ _ _
      | exact ih1 _ _ _ _ _ _ _
      | exact ih2 _ _ _ _ _ _ _ _ _
      | exact ih3 _ _ _ _ _ _ _
      | exact path_Find.mono _ _ _ _ _ _ _
      | exact transhumancelaw2_Make.mono _ _ _
      | exact transhumancelaw4_Make.mono _ _
      | exact transhumancelaw4_known.mono _
      | exact LeO.none _
      | refine LeO.ite ?_ ?_
      | refine LeO.bind ?_ (fun _ => ?_)
    · intro y0 y1 y2 y3 y4 y5 y6 y7 y8
      unfold transhumancelaw4_PathOrder.j2
      repeat' first
      | (with_reducible exact ih0 _ _ _ _ _ _)
      | (with_reducible exact ih1 _ _ _ _ _ _ _)
      | (with_reducible exact ih2 _ _ _ _ _ _ _ _ _)
      | (with_reducible exact ih3 _ _ _ _ _ _ _)
      | (with_reducible exact path_Find.mono _ _ _ _ _ _ _)
      | (with_reducible exact transhumancelaw2_Make.mono _ _ _)
      | (with_reducible exact transhumancelaw4_Make.mono _ _)
      | (with_reducible exact transhumancelaw4_known.mono _)
      | (with_reducible exact LeO.refl _)
      | (with_reducible exact LeO.none _)
      | (with_reducible refine LeO.ite ?_ ?_)
      | (with_reducible refine LeO.bind ?_ (fun _ => ?_))
      | exact ih0 _ _ _ _ _ _
      | exact ih1 _ _ _ _ _ _ _
      | exact ih2 _ _ _ _ _ _ _ _ _
      | exact ih3 _ _ _ _ _ _ _
      | exact path_Find.mono _ _ _ _ _ _ _
      | exact transhumancelaw2_Make.mono _ _ _
      | exact transhumancelaw4_Make.mono _ _
      | exact transhumancelaw4_known.mono _
      | exact LeO.none _
      | refine LeO.ite ?_ ?_
      | refine LeO.bind ?_ (fun _ => ?_)
    · intro y0 y1 y2 y3 y4 y5 y6
      unfold transhumancelaw4_PathOrder.j3
      repeat' first
      | (with_reducible exact ih0 _ _ _ _ _ _)
      | (with_reducible exact ih1 _ _ _ _ _ _ _)
      | (with_reducible exact ih2 _ _ _ _ _ _ _ _ _)
      | (with_reducible exact ih3 _ _ _ _ _ _ _)
      | (with_reducible exact path_Find.mono _ _ _ _ _ _ _)
      | (with_reducible exact transhumancelaw2_Make.mono _ _ _)
      | (with_reducible exact transhumancelaw4_Make.mono _ _)
      | (with_reducible exact transhumancelaw4_known.mono _)
      | (with_reducible exact LeO.refl _)
      | (with_reducible exact LeO.none _)
      | (with_reducible refine LeO.ite ?_ ?_)
      | (with_reducible refine LeO.bind ?_ (fun _ => ?_))
      | exact ih0 _ _ _ _ _ _
      | exact ih1 _ _ _ _ _ _ _
      | exact ih2 _ _ _ _ _ _ _ _ _
      | exact ih3 _ _ _ _ _ _ _
      | exact path_Find.mono _ _ _ _ _ _ _
      | exact transhumancelaw2_Make.mono _ _ _
      | exact transhumancelaw4_Make.mono _ _
      | exact transhumancelaw4_known.mono _
      | exact LeO.none _
      | refine LeO.ite ?_ ?_
      | refine LeO.bind ?_ (fun _ => ?_)
theorem transhumancelaw4_PathOrder.mono : ∀ a0 a1 a2 a3 k, LeO (transhumancelaw4_PathOrder.f k a0 a1 a2 a3) (transhumancelaw4_PathOrder.f (k + 1) a0 a1 a2 a3) := by
  intro a0 a1 a2 a3 k
  obtain ⟨ih0, ih1, ih2, ih3⟩ := transhumancelaw4_PathOrder.mono_l k
  unfold transhumancelaw4_PathOrder.f
  repeat' first
      | (with_reducible exact ih0 _ _ _ _ _ _)
      | (with_reducible exact ih1 _ _ _ _ _ _ _)
      | (with_reducible exact ih2 _ _ _ _ _ _ _ _ _)
      | (with_reducible exact ih3 _ _ _ _ _ _ _)
      | (with_reducible exact path_Find.mono _ _ _ _ _ _ _)
      | (with_reducible exact transhumancelaw2_Make.mono _ _ _)
      | (with_reducible exact transhumancelaw4_Make.mono _ _)
      | (with_reducible exact transhumancelaw4_known.mono _)
      | (with_reducible exact LeO.refl _)
      | (with_reducible exact LeO.none _)
      | (with_reducible refine LeO.ite ?_ ?_)
      | (with_reducible refine LeO.bind ?_ (fun _ => ?_))
      | exact ih0 _ _ _ _ _ _
      | exact ih1 _ _ _ _ _ _ _
      | exact ih2 _ _ _ _ _ _ _ _ _
      | exact ih3 _ _ _ _ _ _ _
      | exact path_Find.mono _ _ _ _ _ _ _
      | exact transhumancelaw2_Make.mono _ _ _
      | exact transhumancelaw4_Make.mono _ _
      | exact transhumancelaw4_known.mono _
      | exact LeO.none _
      | refine LeO.ite ?_ ?_
      | refine LeO.bind ?_ (fun _ => ?_)
def transhumancelaw4_PathOrder.T15 : Bool × List (List Nat × List Nat) := (true, [([], []), ([], []), ([], []), ([1, 2], [1, 2]), ([0, 3], [0, 3]), ([], []), ([], []), ([5, 6], [5, 6]), ([4, 7, 4], [4, 7]), ([], []), ([8, 9, 8], [8, 9]), ([], []), ([], []), ([10, 11, 12, 10], [10, 11, 12]), ([13], [13]), ([14], [14]), ([14], [14]), ([15, 13, 0, 1, 2, 3, 4, 5, 6, 7, 8, 9, 10, 11, 12, 13, 14, 15], [15]), ([16, 17, 0, 1, 2, 3, 4, 5, 6, 7, 8, 9, 10, 11, 12, 13, 14, 15, 16, 17], [16])])
def transhumancelaw4_PathOrder.B15 : List Nat := [0, 0, 0, 6, 15, 0, 0, 96, 255, 0, 1023, 0, 0, 8191, 16383, 32767, 32767, 65535, 262143]
theorem transhumancelaw4_PathOrder.tab15 : rtab .any (opsOf Try.f10 15) = transhumancelaw4_PathOrder.T15 := by kernel_rfl
theorem transhumancelaw4_PathOrder.bits15 : waitsOk transhumancelaw4_PathOrder.T15.2 transhumancelaw4_PathOrder.B15 = true := by kernel_rfl
set_option maxHeartbeats 8000000 in
set_option maxRecDepth 100000 in
theorem transhumancelaw4_PathOrder.calls (k : Nat) (A0 : Option Addr) (c0 : Nat) (l0 : List Int) (a1 : Int) (a2 : Int) (a3 : Int) (r : Bool) (w : World) (hr0 : Kd.C (Kd.int .i64) w A0 l0.length l0) (hc0 : l0.length ≤ c0) (h : transhumancelaw4_PathOrder.f k l0 a1 a2 a3 = some r) :
    Calls Try.prog 10 #[.slice A0 l0.length c0, .int .i64 a1, .int .i64 a2, .int .i64 a3] w fun e w' => e = .returned (.bool r) ∧ Below w.heap.size w w' := by
  have hu33 := Try.underlying33
  have HR0 := Aside0.mk hr0
  have HC0 := Aside0.mk hc0
  clear hr0 hc0
  have HB := Aside0.mk (Below.refl w.heap.size w)
  have H : ((transhumancelaw4_known.f k).bind fun t305 => (if t305 = true then (transhumancelaw4_PathOrder.l0 k l0 a1 a2 a3 ([] : List ByteArray) 0) else (some false))) = some r := h
  clear h
  replace H := Option.bind_eq_some_iff.mp H
  obtain ⟨t305, A50, H⟩ := H
  replace H : (if t305 = true then (transhumancelaw4_PathOrder.l0 k l0 a1 a2 a3 ([] : List ByteArray) 0) else (some false)) = some r := H
  have A5 := Aside0.mk A50
  clear A50
  by_cases c6 : t305 = true
  · subst c6
    have H1 : (transhumancelaw4_PathOrder.l0 k l0 a1 a2 a3 ([] : List ByteArray) 0) = some r := by rw [if_pos rfl] at H; exact H
    clear H
    have H := H1
    clear H1
    have H' := Aside0.mk H
    clear H
    go_enter Try.func10, Try.ntmps10
    go_wp2_with (first | ((with_reducible refine gate_callee (f := 12) rfl ?_); refine goesL_ (some 18) rfl rfl Try.func12 (by kernel_rfl) rfl #[] rfl (by (try simp only [List.map_toArray, List.map_cons, List.map_nil]); first | done | rfl | (simp only [List.length_drop, List.length_take]; rfl)) ?_; (with_reducible refine (transhumancelaw4_known.calls k  true _ A5.out).mono ?_); rintro e w7 ⟨rfl, hb⟩; refine ⟨_, rfl, ?_⟩; have n0_ := Aside0.mk (below_step (by repeat (first | (with_reducible first | exact HB.out | apply below_alloc | apply pw_below_drewN | apply below_drew1) | exact HB.out)) hb); clear HB; have HB := n0_; clear n0_; (try clear hb); (try clear hb2); (try clear hk); (try clear hi)))
    go_loopg [9, 10] k (fun kq v9 v10 w' => ∃ (x9_1 : List ByteArray) (x10_1 : Int), v10 = .int .i64 x10_1 ∧ Aside0 (transhumancelaw4_PathOrder.l0 kq l0 a1 a2 a3 x9_1 x10_1 = some r) ∧ Aside0 (kq ≤ k) ∧ Aside0 (Kd.R Kd.string 9 w' w.heap.size (fun _ => True) v9 x9_1) ∧ Aside0 (Below w.heap.size w w'))
    case atStart => exact ⟨(([] : List ByteArray)), (0), (by first | rfl | (simp; done) | (simp [*]; done)), H', ⟨Nat.le_refl _⟩, ⟨by first | exact Kd.R_nil _ _ _ _ _ | exact Kd.N_nil _ _ _ _ _ | exact Kd.V_nil _ _ _ _ _ | exact Kd.Q_nil _ _ _ _ _ | exact Kd.S_nil _ _ _ _ _⟩, ⟨by repeat (first | (with_reducible first | exact HB.out | apply below_alloc | apply pw_below_drewN | apply below_drew1) | exact HB.out)⟩⟩
    case round =>
      clear H'
      try clear c1
      try clear p2
      try clear c6
      obtain ⟨x9_1, x10_1, rfl, HA, HK1, HO_9, HB⟩ := hrel
      cases gk with
      | zero => exact absurd HA.out (by simp [transhumancelaw4_PathOrder.l0])
      | succ k1 =>
        have H := HA.out
        clear HA
        simp only [transhumancelaw4_PathOrder.l0] at H
        have HC8 := Aside0.mk H
        clear H
        go_upto_region 5 with (fail)
        go_cut [27] (fun v27 wc => ∃ (kq : Nat) (x27_7 : Bool), v27 = .bool x27_7 ∧ Aside0 (transhumancelaw4_PathOrder.j1 kq l0 a1 a2 a3 x9_1 x10_1 x27_7 = some r) ∧ Aside0 (kq ≤ k1) ∧ Aside0 (Kd.R Kd.string 9 wc w.heap.size (fun _ => True) u9 x9_1) ∧ Aside0 (Below w.heap.size w wc))
        case first =>
          have H := HC8.out
          clear HC8
          by_cases c9 : x10_1 < (l0.length : Int)
          · rw [if_pos c9] at H
            have c9b0 : decide (x10_1 < (l0.length : Int)) = true := decide_eq_true c9
            clear c9
            (first | rw [c9b0] | (simp only [i64_w, i32_w]; rw [c9b0]) | skip)
            have H' := Aside0.mk H
            clear H
            go_wp2
            go_meet
            case rel => exact ⟨_, (decide (x10_1 < 12)), (by first | rfl | (simp; done) | (simp [*]; done)), H', ⟨by have := HK1.out; first | omega | exact Nat.le_refl _⟩, ⟨by (with_reducible repeat (first | apply Kd.R_alloc | apply Kd.R_drewN | apply Kd.R_drew)); exact HO_9.out⟩, ⟨by repeat (first | (with_reducible first | exact HB.out | apply below_alloc | apply pw_below_drewN | apply below_drew1) | exact HB.out)⟩⟩
          · rw [if_neg c9] at H
            have c9b0 : decide (x10_1 < (l0.length : Int)) = false := decide_eq_false c9
            clear c9
            (first | rw [c9b0] | (simp only [i64_w, i32_w]; rw [c9b0]) | skip)
            have H' := Aside0.mk H
            clear H
            go_wp2
            go_meet
            case rel => exact ⟨_, (false), (by first | rfl | (simp; done) | (simp [*]; done)), H', ⟨by have := HK1.out; first | omega | exact Nat.le_refl _⟩, ⟨by (with_reducible repeat (first | apply Kd.R_alloc | apply Kd.R_drewN | apply Kd.R_drew)); exact HO_9.out⟩, ⟨by repeat (first | (with_reducible first | exact HB.out | apply below_alloc | apply pw_below_drewN | apply below_drew1) | exact HB.out)⟩⟩
        case rest =>
          clear HC8
          try clear c1
          try clear p2
          try clear c6
          try clear c9
          try clear c9b0
          try clear p2
          obtain ⟨kq, x27_7, rfl, HA, HJ7, HO_9, HB⟩ := hcut
          cases kq with
          | zero => exact absurd HA.out (by simp [transhumancelaw4_PathOrder.j1])
          | succ kj7 =>
            have H := HA.out
            clear HA
            simp only [transhumancelaw4_PathOrder.j1] at H
            by_cases c10 : x27_7 = true
            · subst c10
              have H1 : (if 0 ≤ x10_1 then (if x10_1 < (l0.length : Int) then ((transhumancelaw4_Make.f kj7 (rd l0 x10_1)).bind fun t307 => (if x9_1.length < 8796093022208 then (transhumancelaw4_PathOrder.l0 kj7 l0 a1 a2 a3 (x9_1 ++ [t307]) (wrap64 (x10_1 + 1))) else (none))) else (none)) else (none)) = some r := by rw [if_pos rfl] at H; exact H
              clear H
              have H := H1
              clear H1
              by_cases c11 : 0 ≤ x10_1
              · rw [if_pos c11] at H
                have c11b0 : decide (0 ≤ x10_1) = true := decide_eq_true c11
                clear c11
                by_cases c12 : x10_1 < (l0.length : Int)
                · rw [if_pos c12] at H
                  have c12b0 : decide (x10_1 < (l0.length : Int)) = true := decide_eq_true c12
                  clear c12
                  replace H := Option.bind_eq_some_iff.mp H
                  obtain ⟨t307, A130, H⟩ := H
                  replace H : (if x9_1.length < 8796093022208 then (transhumancelaw4_PathOrder.l0 kj7 l0 a1 a2 a3 (x9_1 ++ [t307]) (wrap64 (x10_1 + 1))) else (none)) = some r := H
                  have A13 := Aside0.mk A130
                  clear A130
                  by_cases c14 : x9_1.length < 8796093022208
                  · rw [if_pos c14] at H
                    have LMc14 := Aside0.mk c14
                    clear c14
                    obtain ⟨y308, hy308⟩ : ∃ y_ : List ByteArray, y_ = (x9_1 ++ [t307]) := ⟨_, rfl⟩
                    replace H : (transhumancelaw4_PathOrder.l0 kj7 l0 a1 a2 a3 y308 (wrap64 (x10_1 + 1))) = some r := by first | (rw [hy308]; with_reducible exact H) | (have H2_ := (Option.bind_some _ _).symm.trans H; rw [hy308]; with_reducible exact H2_) | (have H2_ := (Option.bind_some _ _).symm.trans H; with_reducible exact H2_) | with_reducible exact H | (rw [hy308]; exact H) | exact H
                    have Ny308 := Aside0.mk hy308
                    clear hy308
                    have H' := Aside0.mk H
                    clear H
                    have p306 : 0 ≤ (x10_1 : Int) := of_decide_eq_true (by first | (with_reducible assumption) | assumption)
                    have q306 : x10_1 < (l0.length : Int) := of_decide_eq_true (by first | (with_reducible assumption) | assumption)
                    obtain ⟨ad306, e306, hx306_0⟩ := Kd.at_int HR0.out x10_1 p306 q306
                    cases e306
                    replace hx306_0 := (HB.out.cell (World.block_lt_of_cell? w _ hx306_0)).trans hx306_0
                    replace p306 := eq_true p306
                    replace q306 := eq_true q306
                    go_wp2_with (first | ((with_reducible refine gate_callee (f := 13) rfl ?_); refine goesL_ (some 35) rfl rfl Try.func13 (by kernel_rfl) rfl #[.int .i64 (rd l0 x10_1)] rfl (by (try simp only [List.map_toArray, List.map_cons, List.map_nil]); first | done | rfl | (simp only [List.length_drop, List.length_take]; rfl)) ?_; (with_reducible refine (transhumancelaw4_Make.calls kj7 (rd l0 x10_1) t307 _ A13.out).mono ?_); rintro e w15 ⟨rfl, hb⟩; refine ⟨_, rfl, ?_⟩; have n0_ := Aside0.mk (Kd.R_below (by (with_reducible repeat (first | apply Kd.R_alloc | apply Kd.R_drewN | apply Kd.R_drew)); exact HO_9.out) hb); have n1_ := Aside0.mk (below_step (by repeat (first | (with_reducible first | exact HB.out | apply below_alloc | apply pw_below_drewN | apply below_drew1) | exact HB.out)) hb); clear HO_9; clear HB; have HO_9 := n0_; have HB := n1_; clear n0_ n1_; (try clear hb); (try clear hb2); (try clear hk); (try clear hi)) | ((with_reducible refine gate_builtin (b := .append) (xs := #[.tmp 30, .tmp 36]) rfl ?_); at_builtin; refine Kd.R_append Kd.string (w0 := w) w.heap.size rfl (.tmp 30) (.tmp 36) 26 9 (.string ⟨#[]⟩) 16 rfl Try.underlying26 info9 rfl (by decide) (by omega) u9 x9_1 t307 [.string t307] (fun _ => True) (fun _ => False) rfl rfl ?aP (fun _ hk => hk.elim) ?aF ?aO ?aB ?aS ?aL ?_; (case aP => exact rfl); (case aB => exact (by repeat (first | (with_reducible first | exact HB.out | apply below_alloc | apply pw_below_drewN | apply below_drew1) | exact HB.out))); (case aF => exact (fun _ _ => trivial)); (case aO => exact (by (with_reducible repeat (first | apply Kd.R_alloc | apply Kd.R_drewN | apply Kd.R_drew)); exact HO_9.out)); (case aS => exact (below_size (by repeat (first | (with_reducible first | exact HB.out | apply below_alloc | apply pw_below_drewN | apply below_drew1) | exact HB.out)))); (case aL => have := LMc14.out; omega); intro v309 w16 ho hb hg hat; rw [← Ny308.out] at ho; have n0_ := Aside0.mk (hb); have n1_ := Aside0.mk (ho); clear HB; clear HO_9; have HB := n0_; have HO310 := n1_; clear n0_ n1_; clear ho hb hg hat))
                    go_roundg kj7
                    case measure => have := HK1.out; have := HJ7.out; omega
                    case rel => exact ⟨(y308), (wrap64 (x10_1 + 1)), (by first | rfl | (simp; done) | (simp [*]; done)), H', ⟨by have := HK1.out; have := HJ7.out; omega⟩, ⟨by (with_reducible repeat (first | apply Kd.R_alloc | apply Kd.R_drewN | apply Kd.R_drew)); exact HO310.out⟩, ⟨by repeat (first | (with_reducible first | exact HB.out | apply below_alloc | apply pw_below_drewN | apply below_drew1) | exact HB.out)⟩⟩
                  · rw [if_neg c14] at H
                    exact absurd H (by simp)
                · rw [if_neg c12] at H
                  exact absurd H (by simp)
              · rw [if_neg c11] at H
                exact absurd H (by simp)
            · replace c10 := Bool.eq_false_iff.mpr c10
              subst c10
              have H1 : ((transhumancelaw4_within.f a3 (wrap64 ((x9_1.length : Int) + 1))).bind fun t311 => ((transhumancelaw2_Make.f kj7 a2 0).bind fun bt312 => ((transhumancelaw4_within.f a2 4).bind fun t317 => ((transhumancelaw4_Make.f kj7 a1).bind fun t318 => (if (x9_1.length : Int) > 0 then ((transhumancelaw4_within.f a1 3).bind fun t319 => (transhumancelaw4_PathOrder.j2 kj7 a1 x9_1 t311 t318 (decide (t319 > 0)) t317 bt312.2.1 bt312.2.2.1 bt312.2.2.2)) else (transhumancelaw4_PathOrder.j2 kj7 a1 x9_1 t311 t318 false t317 bt312.2.1 bt312.2.2.1 bt312.2.2.2)))))) = some r := by rw [if_neg (show ¬ (false = true) by decide)] at H; exact H
              clear H
              have H := H1
              clear H1
              replace H := Option.bind_eq_some_iff.mp H
              obtain ⟨t311, A170, H⟩ := H
              replace H : ((transhumancelaw2_Make.f kj7 a2 0).bind fun bt312 => ((transhumancelaw4_within.f a2 4).bind fun t317 => ((transhumancelaw4_Make.f kj7 a1).bind fun t318 => (if (x9_1.length : Int) > 0 then ((transhumancelaw4_within.f a1 3).bind fun t319 => (transhumancelaw4_PathOrder.j2 kj7 a1 x9_1 t311 t318 (decide (t319 > 0)) t317 bt312.2.1 bt312.2.2.1 bt312.2.2.2)) else (transhumancelaw4_PathOrder.j2 kj7 a1 x9_1 t311 t318 false t317 bt312.2.1 bt312.2.2.1 bt312.2.2.2))))) = some r := H
              have A17 := Aside0.mk A170
              clear A170
              replace H := Option.bind_eq_some_iff.mp H
              obtain ⟨⟨t312, t313, t314, t315⟩, A180, H⟩ := H
              replace H : ((transhumancelaw4_within.f a2 4).bind fun t317 => ((transhumancelaw4_Make.f kj7 a1).bind fun t318 => (if (x9_1.length : Int) > 0 then ((transhumancelaw4_within.f a1 3).bind fun t319 => (transhumancelaw4_PathOrder.j2 kj7 a1 x9_1 t311 t318 (decide (t319 > 0)) t317 t313 t314 t315)) else (transhumancelaw4_PathOrder.j2 kj7 a1 x9_1 t311 t318 false t317 t313 t314 t315)))) = some r := H
              have A18 := Aside0.mk A180
              clear A180
              replace H := Option.bind_eq_some_iff.mp H
              obtain ⟨t317, A190, H⟩ := H
              replace H : ((transhumancelaw4_Make.f kj7 a1).bind fun t318 => (if (x9_1.length : Int) > 0 then ((transhumancelaw4_within.f a1 3).bind fun t319 => (transhumancelaw4_PathOrder.j2 kj7 a1 x9_1 t311 t318 (decide (t319 > 0)) t317 t313 t314 t315)) else (transhumancelaw4_PathOrder.j2 kj7 a1 x9_1 t311 t318 false t317 t313 t314 t315))) = some r := H
              have A19 := Aside0.mk A190
              clear A190
              replace H := Option.bind_eq_some_iff.mp H
              obtain ⟨t318, A200, H⟩ := H
              replace H : (if (x9_1.length : Int) > 0 then ((transhumancelaw4_within.f a1 3).bind fun t319 => (transhumancelaw4_PathOrder.j2 kj7 a1 x9_1 t311 t318 (decide (t319 > 0)) t317 t313 t314 t315)) else (transhumancelaw4_PathOrder.j2 kj7 a1 x9_1 t311 t318 false t317 t313 t314 t315)) = some r := H
              have A20 := Aside0.mk A200
              clear A200
              have HC21 := Aside0.mk H
              clear H
              obtain ⟨Ao22, co22, eo22⟩ := Kd.R_slice HO_9.out
              subst eo22
              go_upto_region 12 with (first | ((with_reducible refine gate_callee (f := 14) rfl ?_); refine goesL_ (some 42) rfl rfl Try.func14 (by kernel_rfl) rfl #[.int .i64 a3, .int .i64 (wrap64 ((x9_1.length : Int) + 1))] rfl (by (try simp only [List.map_toArray, List.map_cons, List.map_nil]); first | done | rfl | (simp only [List.length_drop, List.length_take]; rfl)) ?_; (with_reducible refine (transhumancelaw4_within.calls a3 (wrap64 ((x9_1.length : Int) + 1)) t311 _ A17.out).mono ?_); rintro e w' ⟨rfl, ⟨nd, rfl⟩⟩; refine ⟨_, rfl, ?_⟩; (try (rw [drewN_self wc]; generalize hq_ : World.drewN wc _ = wc; have n0_ : Aside0 (Kd.R Kd.string 9 wc w.heap.size (fun _ => True) (.slice Ao22 x9_1.length co22) x9_1) := ⟨by rw [← hq_]; exact (by (with_reducible repeat (first | apply Kd.R_alloc | apply Kd.R_drewN | apply Kd.R_drew)); exact HO_9.out)⟩; have n1_ : Aside0 (Below w.heap.size w wc) := ⟨by rw [← hq_]; exact (by repeat (first | (with_reducible first | exact HB.out | apply below_alloc | apply pw_below_drewN | apply below_drew1) | exact HB.out))⟩; clear HO_9 HB hq_; have HO_9 := n0_; have HB := n1_; clear n0_ n1_))) | ((with_reducible refine gate_callee (f := 20) rfl ?_); refine goesL_ (some 44) rfl rfl Try.func20 (by kernel_rfl) rfl #[.int .i64 a2, .int .i64 0] rfl (by (try simp only [List.map_toArray, List.map_cons, List.map_nil]); first | done | rfl | (simp only [List.length_drop, List.length_take]; rfl)) ?_; (with_reducible refine (transhumancelaw2_Make.calls kj7 a2 0 t312 t313 t314 t315 _ A18.out).mono ?_); rintro e w23 ⟨rfl, hb⟩; refine ⟨_, rfl, ?_⟩; have n0_ := Aside0.mk (Kd.R_below (by (with_reducible repeat (first | apply Kd.R_alloc | apply Kd.R_drewN | apply Kd.R_drew)); exact HO_9.out) hb); have n1_ := Aside0.mk (below_step (by repeat (first | (with_reducible first | exact HB.out | apply below_alloc | apply pw_below_drewN | apply below_drew1) | exact HB.out)) hb); clear HO_9; clear HB; have HO_9 := n0_; have HB := n1_; clear n0_ n1_; (try clear hb); (try clear hb2); (try clear hk); (try clear hi)) | ((with_reducible refine gate_dst (N := 12) rfl ?_); refine box_event ?hg (N := 12) ?hd (cs := #[.int .i64 0, .int .i64 0, .int .i64 0, .string (⟨#[]⟩ : ByteArray)]) (t := 33) ?hr ?_; (case hd => rfl); (case hg => rfl); (case hr => first | (go_simp; done) | (go_simp; rfl)); intro gb316 hg w24 hbox hb; have n0_ := Aside0.mk (Kd.R_below (by (with_reducible repeat (first | apply Kd.R_alloc | apply Kd.R_drewN | apply Kd.R_drew)); exact HO_9.out) hb); have n1_ := Aside0.mk (below_step (by repeat (first | (with_reducible first | exact HB.out | apply below_alloc | apply pw_below_drewN | apply below_drew1) | exact HB.out)) hb); have n2_ := Aside0.mk (hbox); have n3_ := Aside0.mk ((by rw [hg]; exact (below_size (by repeat (first | (with_reducible first | exact HB.out | apply below_alloc | apply pw_below_drewN | apply below_drew1) | exact HB.out))) : w.heap.size ≤ gb316)); have n4_ := Aside0.mk ((by rw [hg]; exact (below_size (by repeat (first | (with_reducible first | exact HB.out | apply below_alloc | apply pw_below_drewN | apply below_drew1) | exact HB.out))) : w.heap.size ≤ gb316)); clear HO_9; clear HB; have HO_9 := n0_; have HB := n1_; have BK316 := n2_; have GW316 := n3_; have GE316 := n4_; clear n0_ n1_ n2_ n3_ n4_; clear hb hbox hg; have hcz25_0 : w24.cell? ⟨gb316, 0, none⟩ = some (.int .i64 0) := (blk_cell BK316.out 0).trans rfl; have hcz25_1 : w24.cell? ⟨gb316, 1, none⟩ = some (.int .i64 0) := (blk_cell BK316.out 1).trans rfl; have hcz25_2 : w24.cell? ⟨gb316, 2, none⟩ = some (.int .i64 0) := (blk_cell BK316.out 2).trans rfl; have hcz25_3 : w24.cell? ⟨gb316, 3, none⟩ = some (.string (⟨#[]⟩ : ByteArray)) := (blk_cell BK316.out 3).trans rfl; have hfz25_0 := blk_frozen BK316.out 0; have hfz25_1 := blk_frozen BK316.out 1; have hfz25_2 := blk_frozen BK316.out 2; have hfz25_3 := blk_frozen BK316.out 3) | ((with_reducible refine gate_callee (f := 14) rfl ?_); refine goesL_ (some 46) rfl rfl Try.func14 (by kernel_rfl) rfl #[.int .i64 a2, .int .i64 4] rfl (by (try simp only [List.map_toArray, List.map_cons, List.map_nil]); first | done | rfl | (simp only [List.length_drop, List.length_take]; rfl)) ?_; (with_reducible refine (transhumancelaw4_within.calls a2 4 t317 _ A19.out).mono ?_); rintro e w' ⟨rfl, ⟨nd, rfl⟩⟩; refine ⟨_, rfl, ?_⟩) | ((with_reducible refine gate_callee (f := 13) rfl ?_); refine goesL_ (some 49) rfl rfl Try.func13 (by kernel_rfl) rfl #[.int .i64 a1] rfl (by (try simp only [List.map_toArray, List.map_cons, List.map_nil]); first | done | rfl | (simp only [List.length_drop, List.length_take]; rfl)) ?_; (with_reducible refine (transhumancelaw4_Make.calls kj7 a1 t318 _ A20.out).mono ?_); rintro e w26 ⟨rfl, hb⟩; refine ⟨_, rfl, ?_⟩; have n0_ := Aside0.mk (Kd.R_below (by (with_reducible repeat (first | apply Kd.R_alloc | apply Kd.R_drewN | apply Kd.R_drew)); exact (Kd.R_mono (Kd.R_far (p := ⟨gb316, 0, none⟩) (Kd.R_far (p := ⟨gb316, 3, none⟩) (Kd.R_far (p := ⟨gb316, 2, none⟩) (Kd.R_far (p := ⟨gb316, 1, none⟩) (Kd.R_far (p := ⟨gb316, 0, none⟩) (Kd.R_types HO_9.out BK316.out (by decide)) (fun _ hk => hk.2) (.int .i64 t312)) (fun _ hk => hk.2) (.int .i64 t313)) (fun _ hk => hk.2) (.int .i64 t314)) (fun _ hk => hk.2) (.string t315)) (fun _ hk => hk.2) (.int .i64 t317)) (fun _ h_ => h_.1))) hb); have n1_ := Aside0.mk (blk_below (g := gb316) (o := .cells #[.int .i64 t317, .int .i64 t313, .int .i64 t314, .string t315] 33 (0, 0)) (by (with_reducible repeat (first | refine blk_drewN ?_ _ | refine blk_drew ?_ | refine blk_alloc ?_ _)); refine blk_put (cs := #[.int .i64 t312, .int .i64 t313, .int .i64 t314, .string t315]) ?_ 0 _ rfl; (with_reducible repeat (first | refine blk_drewN ?_ _ | refine blk_drew ?_ | refine blk_alloc ?_ _)); refine blk_put (cs := #[.int .i64 t312, .int .i64 t313, .int .i64 t314, .string (⟨#[]⟩ : ByteArray)]) ?_ 3 _ rfl; (with_reducible repeat (first | refine blk_drewN ?_ _ | refine blk_drew ?_ | refine blk_alloc ?_ _)); refine blk_put (cs := #[.int .i64 t312, .int .i64 t313, .int .i64 0, .string (⟨#[]⟩ : ByteArray)]) ?_ 2 _ rfl; (with_reducible repeat (first | refine blk_drewN ?_ _ | refine blk_drew ?_ | refine blk_alloc ?_ _)); refine blk_put (cs := #[.int .i64 t312, .int .i64 0, .int .i64 0, .string (⟨#[]⟩ : ByteArray)]) ?_ 1 _ rfl; (with_reducible repeat (first | refine blk_drewN ?_ _ | refine blk_drew ?_ | refine blk_alloc ?_ _)); refine blk_put (cs := #[.int .i64 0, .int .i64 0, .int .i64 0, .string (⟨#[]⟩ : ByteArray)]) ?_ 0 _ rfl; (with_reducible repeat (first | refine blk_drewN ?_ _ | refine blk_drew ?_ | refine blk_alloc ?_ _)); exact BK316.out) hb); have n2_ := Aside0.mk (below_step (by repeat (first | (with_reducible first | exact HB.out | apply below_alloc | apply pw_below_drewN | apply below_drew1 | refine below_set ?_ GE316.out) | exact HB.out)) hb); clear HO_9; clear BK316; clear HB; have HO_9 := n0_; have BK316 := n1_; have HB := n2_; clear n0_ n1_ n2_; (try clear hb); (try clear hb2); (try clear hk); (try clear hi)))
              (try simp only [Act.put, List.setIfInBounds_toArray, List.set_cons_zero, List.set_cons_succ])
              go_cut [57] (fun v57 wc => ∃ (kq : Nat) (x57_20 : Bool), v57 = .bool x57_20 ∧ Aside0 (transhumancelaw4_PathOrder.j2 kq a1 x9_1 t311 t318 x57_20 t317 t313 t314 t315 = some r) ∧ Aside0 (kq ≤ kj7) ∧ Aside0 (Kd.R Kd.string 9 wc w.heap.size (fun _ => True) (.slice Ao22 x9_1.length co22) x9_1) ∧ Aside0 (wc.heap[gb316]? = some (.cells #[.int .i64 t317, .int .i64 t313, .int .i64 t314, .string t315] 33 (0, 0))) ∧ Aside0 (Below w.heap.size w wc))
              case first =>
                have H := HC21.out
                clear HC21
                by_cases c27 : (x9_1.length : Int) > 0
                · rw [if_pos c27] at H
                  have c27b0 : decide (0 < (x9_1.length : Int)) = true := decide_eq_true c27
                  have c27b1 : decide (0 < x9_1.length) = true := decide_eq_true (by omega)
                  clear c27
                  (first | rw [c27b0] | (simp only [i64_w, i32_w]; rw [c27b0]) | skip)
                  replace H := Option.bind_eq_some_iff.mp H
                  obtain ⟨t319, A280, H⟩ := H
                  replace H : (transhumancelaw4_PathOrder.j2 kj7 a1 x9_1 t311 t318 (decide (t319 > 0)) t317 t313 t314 t315) = some r := H
                  have A28 := Aside0.mk A280
                  clear A280
                  have H' := Aside0.mk H
                  clear H
                  go_wp2_with (first | (go_at_call 14; (with_reducible refine (transhumancelaw4_within.calls a1 3 t319 _ A28.out).mono ?_); rintro e w' ⟨rfl, ⟨nd, rfl⟩⟩))
                  go_meet
                  case rel => exact ⟨_, (decide (t319 > 0)), (by first | rfl | (simp; done) | (simp [*]; done)), H', ⟨by have := HK1.out; have := HJ7.out; first | omega | exact Nat.le_refl _⟩, ⟨by (with_reducible repeat (first | apply Kd.R_alloc | apply Kd.R_drewN | apply Kd.R_drew)); exact HO_9.out⟩, ⟨by (with_reducible repeat (first | refine blk_drewN ?_ _ | refine blk_drew ?_ | refine blk_alloc ?_ _)); exact BK316.out⟩, ⟨by repeat (first | (with_reducible first | exact HB.out | apply below_alloc | apply pw_below_drewN | apply below_drew1 | refine below_set ?_ GE316.out) | exact HB.out)⟩⟩
                · rw [if_neg c27] at H
                  have c27b0 : decide (0 < (x9_1.length : Int)) = false := decide_eq_false c27
                  have c27b1 : decide (0 < x9_1.length) = false := decide_eq_false (by omega)
                  clear c27
                  (first | rw [c27b0] | (simp only [i64_w, i32_w]; rw [c27b0]) | skip)
                  have H' := Aside0.mk H
                  clear H
                  go_wp2
                  go_meet
                  case rel => exact ⟨_, (false), (by first | rfl | (simp; done) | (simp [*]; done)), H', ⟨by have := HK1.out; have := HJ7.out; first | omega | exact Nat.le_refl _⟩, ⟨by (with_reducible repeat (first | apply Kd.R_alloc | apply Kd.R_drewN | apply Kd.R_drew)); exact HO_9.out⟩, ⟨by (with_reducible repeat (first | refine blk_drewN ?_ _ | refine blk_drew ?_ | refine blk_alloc ?_ _)); exact BK316.out⟩, ⟨by repeat (first | (with_reducible first | exact HB.out | apply below_alloc | apply pw_below_drewN | apply below_drew1 | refine below_set ?_ GE316.out) | exact HB.out)⟩⟩
              case rest =>
                clear HC21
                try clear c1
                try clear c2
                try clear p2
                try clear p3
                try clear q3
                try clear hx3
                try clear c6
                try clear p6
                try clear c9
                try clear c9b0
                try clear c10
                try clear c11
                try clear c11b0
                try clear c12
                try clear c12b0
                try clear c13
                try clear c14
                try clear c20
                try clear c27
                try clear c27b0
                try clear c27b1
                try clear hcz25_0
                try clear hcz25_1
                try clear hcz25_2
                try clear hcz25_3
                try clear hfz25_0
                try clear hfz25_1
                try clear hfz25_2
                try clear hfz25_3
                try clear hx306_0
                try clear p2
                try clear p306
                try clear q306
                obtain ⟨kq, x57_20, rfl, HA, HJ20, HO_9, BK316, HB⟩ := hcut
                cases kq with
                | zero => exact absurd HA.out (by simp [transhumancelaw4_PathOrder.j2])
                | succ kj20 =>
                  have H := HA.out
                  clear HA
                  simp only [transhumancelaw4_PathOrder.j2] at H
                  have HC29 := Aside0.mk H
                  clear H
                  go_upto_if 57 with (fail)
                  go_cut [13] (fun v13 wc => ∃ (kq : Nat) (x13_28 : ByteArray), v13 = .string x13_28 ∧ Aside0 (transhumancelaw4_PathOrder.j3 kq x9_1 t311 x13_28 t317 t313 t314 t315 = some r) ∧ Aside0 (kq ≤ kj20) ∧ Aside0 (Kd.R Kd.string 9 wc w.heap.size (fun _ => True) (.slice Ao22 x9_1.length co22) x9_1) ∧ Aside0 (wc.heap[gb316]? = some (.cells #[.int .i64 t317, .int .i64 t313, .int .i64 t314, .string t315] 33 (0, 0))) ∧ Aside0 (Below w.heap.size w wc))
                  case first =>
                    have H := HC29.out
                    clear HC29
                    by_cases c30 : x57_20 = true
                    · subst c30
                      have H1 : ((transhumancelaw4_within.f a1 (x9_1.length : Int)).bind fun t320 => (if 0 ≤ t320 then (if t320 < (x9_1.length : Int) then (if (rdOf ByteArray.empty x9_1 t320).size + 2 ≤ 9223372036854775807 then (transhumancelaw4_PathOrder.j3 kj20 x9_1 t311 ((rdOf ByteArray.empty x9_1 t320) ++ (⟨#[47, 120]⟩ : ByteArray)) t317 t313 t314 t315) else (none)) else (none)) else (none))) = some r := by rw [if_pos rfl] at H; exact H
                      clear H
                      have H := H1
                      clear H1
                      replace H := Option.bind_eq_some_iff.mp H
                      obtain ⟨t320, A310, H⟩ := H
                      replace H : (if 0 ≤ t320 then (if t320 < (x9_1.length : Int) then (if (rdOf ByteArray.empty x9_1 t320).size + 2 ≤ 9223372036854775807 then (transhumancelaw4_PathOrder.j3 kj20 x9_1 t311 ((rdOf ByteArray.empty x9_1 t320) ++ (⟨#[47, 120]⟩ : ByteArray)) t317 t313 t314 t315) else (none)) else (none)) else (none)) = some r := H
                      have A31 := Aside0.mk A310
                      clear A310
                      by_cases c32 : 0 ≤ t320
                      · rw [if_pos c32] at H
                        have c32b0 : decide (0 ≤ t320) = true := decide_eq_true c32
                        clear c32
                        (first | rw [c32b0] | (simp only [i64_w, i32_w]; rw [c32b0]) | skip)
                        by_cases c33 : t320 < (x9_1.length : Int)
                        · rw [if_pos c33] at H
                          have c33b0 : decide (t320 < (x9_1.length : Int)) = true := decide_eq_true c33
                          clear c33
                          by_cases c34 : (rdOf ByteArray.empty x9_1 t320).size + 2 ≤ 9223372036854775807
                          · rw [if_pos c34] at H
                            have c34b0 := eq_true c34
                            have c34b1 : decide ((rdOf ByteArray.empty x9_1 t320).size + 2 ≤ 9223372036854775807) = true := decide_eq_true c34
                            try have c34b2 : (9223372036854775807 < (rdOf ByteArray.empty x9_1 t320).size + 2) = False := eq_false (Nat.not_lt.2 c34)
                            have H' := Aside0.mk H
                            clear H
                            go_wp2_with (first | ((with_reducible refine gate_callee (f := 14) rfl ?_); refine goesL_ (some 62) rfl rfl Try.func14 (by kernel_rfl) rfl #[.int .i64 a1, .int .i64 (x9_1.length : Int)] rfl (by (try simp only [List.map_toArray, List.map_cons, List.map_nil]); first | done | rfl | (simp only [List.length_drop, List.length_take]; rfl)) ?_; (with_reducible refine (transhumancelaw4_within.calls a1 (x9_1.length : Int) t320 _ A31.out).mono ?_); rintro e w' ⟨rfl, ⟨nd, rfl⟩⟩; refine ⟨_, rfl, ?_⟩; have p321 : 0 ≤ (t320 : Int) := of_decide_eq_true (by first | (with_reducible assumption) | assumption); have q321 : t320 < (x9_1.length : Int) := of_decide_eq_true (by first | (with_reducible assumption) | assumption); obtain ⟨ad321, e321, hx321_0⟩ := Kd.at_string (Kd.R_reads' HO_9.out).2.2 t320 p321 q321; cases e321; replace p321 := eq_true p321; replace q321 := eq_true q321))
                            go_meet
                            case rel => exact ⟨_, ((rdOf ByteArray.empty x9_1 t320) ++ (⟨#[47, 120]⟩ : ByteArray)), (by first | rfl | (simp; done) | (simp [*]; done)), H', ⟨by have := HK1.out; have := HJ7.out; have := HJ20.out; first | omega | exact Nat.le_refl _⟩, ⟨by (with_reducible repeat (first | apply Kd.R_alloc | apply Kd.R_drewN | apply Kd.R_drew)); exact HO_9.out⟩, ⟨by (with_reducible repeat (first | refine blk_drewN ?_ _ | refine blk_drew ?_ | refine blk_alloc ?_ _)); exact BK316.out⟩, ⟨by repeat (first | (with_reducible first | exact HB.out | apply below_alloc | apply pw_below_drewN | apply below_drew1 | refine below_set ?_ GE316.out) | exact HB.out)⟩⟩
                          · rw [if_neg c34] at H
                            exact absurd H (by simp)
                        · rw [if_neg c33] at H
                          exact absurd H (by simp)
                      · rw [if_neg c32] at H
                        exact absurd H (by simp)
                    · replace c30 := Bool.eq_false_iff.mpr c30
                      subst c30
                      have H1 : (transhumancelaw4_PathOrder.j3 kj20 x9_1 t311 t318 t317 t313 t314 t315) = some r := by rw [if_neg (show ¬ (false = true) by decide)] at H; exact H
                      clear H
                      have H := H1
                      clear H1
                      have H' := Aside0.mk H
                      clear H
                      go_wp2
                      go_meet
                      case rel => exact ⟨_, (t318), (by first | rfl | (simp; done) | (simp [*]; done)), H', ⟨by have := HK1.out; have := HJ7.out; have := HJ20.out; first | omega | exact Nat.le_refl _⟩, ⟨by (with_reducible repeat (first | apply Kd.R_alloc | apply Kd.R_drewN | apply Kd.R_drew)); exact HO_9.out⟩, ⟨by (with_reducible repeat (first | refine blk_drewN ?_ _ | refine blk_drew ?_ | refine blk_alloc ?_ _)); exact BK316.out⟩, ⟨by repeat (first | (with_reducible first | exact HB.out | apply below_alloc | apply pw_below_drewN | apply below_drew1 | refine below_set ?_ GE316.out) | exact HB.out)⟩⟩
                  case rest =>
                    clear HC29
                    try clear c1
                    try clear c2
                    try clear p2
                    try clear c3
                    try clear p3
                    try clear q3
                    try clear hx3
                    try clear c6
                    try clear p6
                    try clear c9
                    try clear c9b0
                    try clear c10
                    try clear c11
                    try clear c11b0
                    try clear c12
                    try clear c12b0
                    try clear c13
                    try clear c14
                    try clear c20
                    try clear c27
                    try clear c27b0
                    try clear c27b1
                    try clear c30
                    try clear p30
                    try clear q30
                    try clear hx30
                    try clear c32
                    try clear c32b0
                    try clear p32
                    try clear q32
                    try clear hx32
                    try clear c33
                    try clear c33b0
                    try clear c34
                    try clear c34b0
                    try clear c34b1
                    try clear c34b2
                    try clear hcz25_0
                    try clear hcz25_1
                    try clear hcz25_2
                    try clear hcz25_3
                    try clear hfz25_0
                    try clear hfz25_1
                    try clear hfz25_2
                    try clear hfz25_3
                    try clear hx306_0
                    try clear hx321_0
                    try clear p2
                    try clear p3
                    try clear p306
                    try clear p321
                    try clear p6
                    try clear q3
                    try clear q306
                    try clear q321
                    obtain ⟨kq, x13_28, rfl, HA, HJ28, HO_9, BK316, HB⟩ := hcut
                    cases kq with
                    | zero => exact absurd HA.out (by simp [transhumancelaw4_PathOrder.j3])
                    | succ kj28 =>
                      have H := HA.out
                      clear HA
                      simp only [transhumancelaw4_PathOrder.j3] at H
                      replace H := Option.bind_eq_some_iff.mp H
                      obtain ⟨⟨t322, t323⟩, A350, H⟩ := H
                      replace H : ((some (([] : List ByteArray) : List ByteArray)).bind fun y324 => (if 0 ≤ t311 then (if t311 ≤ (x9_1.length : Int) then ((some (x9_1.drop (t311 : Int).toNat : List ByteArray)).bind fun y327 => (if y324.length + y327.length < 8796093022208 then ((some (y324 ++ y327 : List ByteArray)).bind fun y331 => ((some (x9_1.take (t311 : Int).toNat : List ByteArray)).bind fun y334 => (if y331.length + y334.length < 8796093022208 then ((some (y331 ++ y334 : List ByteArray)).bind fun y338 => (if y338.length + x9_1.length < 8796093022208 then ((path_Find.f kj28 (y338 ++ x9_1) x13_28 t317 t313 t314 t315).bind fun bt344 => (if t322.toList = bt344.1.toList then (some (t323 == bt344.2)) else (some false))) else (none))) else (none)))) else (none))) else (none)) else (none))) = some r := H
                      have A35 := Aside0.mk A350
                      clear A350
                      obtain ⟨y324, hy324⟩ : ∃ y_ : List ByteArray, y_ = (([] : List ByteArray)) := ⟨_, rfl⟩
                      replace H : (if 0 ≤ t311 then (if t311 ≤ (x9_1.length : Int) then ((some (x9_1.drop (t311 : Int).toNat : List ByteArray)).bind fun y327 => (if y324.length + y327.length < 8796093022208 then ((some (y324 ++ y327 : List ByteArray)).bind fun y331 => ((some (x9_1.take (t311 : Int).toNat : List ByteArray)).bind fun y334 => (if y331.length + y334.length < 8796093022208 then ((some (y331 ++ y334 : List ByteArray)).bind fun y338 => (if y338.length + x9_1.length < 8796093022208 then ((path_Find.f kj28 (y338 ++ x9_1) x13_28 t317 t313 t314 t315).bind fun bt344 => (if t322.toList = bt344.1.toList then (some (t323 == bt344.2)) else (some false))) else (none))) else (none)))) else (none))) else (none)) else (none)) = some r := by first | (rw [hy324]; with_reducible exact H) | (have H2_ := (Option.bind_some _ _).symm.trans H; rw [hy324]; with_reducible exact H2_) | (have H2_ := (Option.bind_some _ _).symm.trans H; with_reducible exact H2_) | with_reducible exact H | (rw [hy324]; exact H) | exact H
                      have Ny324 := Aside0.mk hy324
                      clear hy324
                      by_cases c36 : 0 ≤ t311
                      · rw [if_pos c36] at H
                        have c36b0 := eq_true c36
                        have c36b1 : decide (0 ≤ t311) = true := decide_eq_true c36
                        clear c36
                        by_cases c37 : t311 ≤ (x9_1.length : Int)
                        · rw [if_pos c37] at H
                          have c37b0 := eq_true c37
                          have c37b1 : decide (t311 ≤ (x9_1.length : Int)) = true := decide_eq_true c37
                          clear c37
                          obtain ⟨y327, hy327⟩ : ∃ y_ : List ByteArray, y_ = (x9_1.drop (t311 : Int).toNat) := ⟨_, rfl⟩
                          replace H : (if y324.length + y327.length < 8796093022208 then ((some (y324 ++ y327 : List ByteArray)).bind fun y331 => ((some (x9_1.take (t311 : Int).toNat : List ByteArray)).bind fun y334 => (if y331.length + y334.length < 8796093022208 then ((some (y331 ++ y334 : List ByteArray)).bind fun y338 => (if y338.length + x9_1.length < 8796093022208 then ((path_Find.f kj28 (y338 ++ x9_1) x13_28 t317 t313 t314 t315).bind fun bt344 => (if t322.toList = bt344.1.toList then (some (t323 == bt344.2)) else (some false))) else (none))) else (none)))) else (none)) = some r := by first | (rw [hy327]; with_reducible exact H) | (have H2_ := (Option.bind_some _ _).symm.trans H; rw [hy327]; with_reducible exact H2_) | (have H2_ := (Option.bind_some _ _).symm.trans H; with_reducible exact H2_) | with_reducible exact H | (rw [hy327]; exact H) | exact H
                          have Ny327 := Aside0.mk hy327
                          clear hy327
                          by_cases c38 : y324.length + y327.length < 8796093022208
                          · rw [if_pos c38] at H
                            have LMc38 := Aside0.mk c38
                            clear c38
                            obtain ⟨y331, hy331⟩ : ∃ y_ : List ByteArray, y_ = (y324 ++ y327) := ⟨_, rfl⟩
                            replace H : ((some (x9_1.take (t311 : Int).toNat : List ByteArray)).bind fun y334 => (if y331.length + y334.length < 8796093022208 then ((some (y331 ++ y334 : List ByteArray)).bind fun y338 => (if y338.length + x9_1.length < 8796093022208 then ((path_Find.f kj28 (y338 ++ x9_1) x13_28 t317 t313 t314 t315).bind fun bt344 => (if t322.toList = bt344.1.toList then (some (t323 == bt344.2)) else (some false))) else (none))) else (none))) = some r := by first | (rw [hy331]; with_reducible exact H) | (have H2_ := (Option.bind_some _ _).symm.trans H; rw [hy331]; with_reducible exact H2_) | (have H2_ := (Option.bind_some _ _).symm.trans H; with_reducible exact H2_) | with_reducible exact H | (rw [hy331]; exact H) | exact H
                            have Ny331 := Aside0.mk hy331
                            clear hy331
                            have c39b0 := eq_true (of_decide_eq_true (by first | (with_reducible assumption) | assumption) : 0 ≤ t311)
                            have c40b0 := eq_true (of_decide_eq_true (by first | (with_reducible assumption) | assumption) : t311 ≤ (x9_1.length : Int))
                            obtain ⟨y334, hy334⟩ : ∃ y_ : List ByteArray, y_ = (x9_1.take (t311 : Int).toNat) := ⟨_, rfl⟩
                            replace H : (if y331.length + y334.length < 8796093022208 then ((some (y331 ++ y334 : List ByteArray)).bind fun y338 => (if y338.length + x9_1.length < 8796093022208 then ((path_Find.f kj28 (y338 ++ x9_1) x13_28 t317 t313 t314 t315).bind fun bt344 => (if t322.toList = bt344.1.toList then (some (t323 == bt344.2)) else (some false))) else (none))) else (none)) = some r := by first | (rw [hy334]; with_reducible exact H) | (have H2_ := (Option.bind_some _ _).symm.trans H; rw [hy334]; with_reducible exact H2_) | (have H2_ := (Option.bind_some _ _).symm.trans H; with_reducible exact H2_) | with_reducible exact H | (rw [hy334]; exact H) | exact H
                            have Ny334 := Aside0.mk hy334
                            clear hy334
                            by_cases c41 : y331.length + y334.length < 8796093022208
                            · rw [if_pos c41] at H
                              have LMc41 := Aside0.mk c41
                              clear c41
                              obtain ⟨y338, hy338⟩ : ∃ y_ : List ByteArray, y_ = (y331 ++ y334) := ⟨_, rfl⟩
                              replace H : (if y338.length + x9_1.length < 8796093022208 then ((path_Find.f kj28 (y338 ++ x9_1) x13_28 t317 t313 t314 t315).bind fun bt344 => (if t322.toList = bt344.1.toList then (some (t323 == bt344.2)) else (some false))) else (none)) = some r := by first | (rw [hy338]; with_reducible exact H) | (have H2_ := (Option.bind_some _ _).symm.trans H; rw [hy338]; with_reducible exact H2_) | (have H2_ := (Option.bind_some _ _).symm.trans H; with_reducible exact H2_) | with_reducible exact H | (rw [hy338]; exact H) | exact H
                              have Ny338 := Aside0.mk hy338
                              clear hy338
                              by_cases c42 : y338.length + x9_1.length < 8796093022208
                              · rw [if_pos c42] at H
                                have LMc42 := Aside0.mk c42
                                clear c42
                                obtain ⟨y341, hy341⟩ : ∃ y_ : List ByteArray, y_ = (y338 ++ x9_1) := ⟨_, rfl⟩
                                replace H : ((path_Find.f kj28 y341 x13_28 t317 t313 t314 t315).bind fun bt344 => (if t322.toList = bt344.1.toList then (some (t323 == bt344.2)) else (some false))) = some r := by first | (rw [hy341]; with_reducible exact H) | (have H2_ := (Option.bind_some _ _).symm.trans H; rw [hy341]; with_reducible exact H2_) | (have H2_ := (Option.bind_some _ _).symm.trans H; with_reducible exact H2_) | with_reducible exact H | (rw [hy341]; exact H) | exact H
                                have Ny341 := Aside0.mk hy341
                                clear hy341
                                replace H := Option.bind_eq_some_iff.mp H
                                obtain ⟨⟨t344, t345⟩, A430, H⟩ := H
                                replace H : (if t322.toList = t344.toList then (some (t323 == t345)) else (some false)) = some r := H
                                have A43 := Aside0.mk A430
                                clear A430
                                by_cases c44 : t322.toList = t344.toList
                                · rw [if_pos c44] at H
                                  have c44b0 : (t322.toList == t344.toList) = true := beq_iff_eq.mpr c44
                                  have c44b1 : (t322.toList != t344.toList) = false := bne_eq_false_iff_eq.mpr c44
                                  clear c44
                                  obtain rfl := Option.some.inj H
                                  have hcz45_0 : wc.cell? ⟨gb316, 0, none⟩ = some (.int .i64 t317) := (blk_cell BK316.out 0).trans rfl
                                  have hcz45_1 : wc.cell? ⟨gb316, 1, none⟩ = some (.int .i64 t313) := (blk_cell BK316.out 1).trans rfl
                                  have hcz45_2 : wc.cell? ⟨gb316, 2, none⟩ = some (.int .i64 t314) := (blk_cell BK316.out 2).trans rfl
                                  have hcz45_3 : wc.cell? ⟨gb316, 3, none⟩ = some (.string t315) := (blk_cell BK316.out 3).trans rfl
                                  have hfz45_0 := blk_frozen BK316.out 0
                                  have hfz45_1 := blk_frozen BK316.out 1
                                  have hfz45_2 := blk_frozen BK316.out 2
                                  have hfz45_3 := blk_frozen BK316.out 3
                                  try go_wp2_with (first | ((with_reducible refine gate_callee (f := 25) rfl ?_); refine goesL_ (some 70) rfl rfl Try.func25 (by kernel_rfl) rfl #[.slice Ao22 x9_1.length co22, .string x13_28, .agg #[.int .i64 t317, .int .i64 t313, .int .i64 t314, .string t315]] rfl (by (try simp only [List.map_toArray, List.map_cons, List.map_nil]); first | done | rfl | (simp only [List.length_drop, List.length_take]; rfl)) ?_; (with_reducible refine (path_Find.calls kj28 _ _ x9_1 x13_28 t317 t313 t314 t315 t322 t323 _ ?side1 ?side2 A35.out).mono ?_); (case side1 => repeat (first | exact (Kd.R_reads' HO_9.out).2.2 | (with_reducible refine Kd.C_alloc ?_ _) | (with_reducible refine Kd.C_drewN ?_ _) | (with_reducible refine Kd.C_drew ?_))); (case side2 => exact (Kd.R_reads' HO_9.out).2.1); rintro e w46 ⟨rfl, hb⟩; refine ⟨_, rfl, ?_⟩; have n0_ := Aside0.mk (Kd.R_below (by (with_reducible repeat (first | apply Kd.R_alloc | apply Kd.R_drewN | apply Kd.R_drew)); exact HO_9.out) hb); have n1_ := Aside0.mk (blk_below (g := gb316) (o := .cells #[.int .i64 t317, .int .i64 t313, .int .i64 t314, .string t315] 33 (0, 0)) (by (with_reducible repeat (first | refine blk_drewN ?_ _ | refine blk_drew ?_ | refine blk_alloc ?_ _)); exact BK316.out) hb); have n2_ := Aside0.mk (below_step (by repeat (first | (with_reducible first | exact HB.out | apply below_alloc | apply pw_below_drewN | apply below_drew1 | refine below_set ?_ GE316.out) | exact HB.out)) hb); clear HO_9; clear BK316; clear HB; have HO_9 := n0_; have BK316 := n1_; have HB := n2_; clear n0_ n1_ n2_; (try clear hb); (try clear hb2); (try clear hk); (try clear hi)))
                                  have n0_ := Aside0.mk (Kd.R_drew HO_9.out)
                                  have n1_ := Aside0.mk (blk_drew BK316.out)
                                  have n2_ := Aside0.mk (below_drew1 HB.out)
                                  clear HO_9
                                  clear BK316
                                  clear HB
                                  have HO_9 := n0_
                                  have BK316 := n1_
                                  have HB := n2_
                                  clear n0_ n1_ n2_
                                  have q48 : (t311 : Int) ≤ ((x9_1.length : Int) : Int) := of_decide_eq_true (by first | (with_reducible assumption) | assumption)
                                  obtain ⟨i048, hi048, _, hsz48, _⟩ := info_parts info9
                                  have hroom48 : x9_1.length ≤ co22 := (Kd.R_reads' HO_9.out).2.1
                                  have hC48 : Kd.C Kd.string _ Ao22 x9_1.length x9_1 := (Kd.R_reads' HO_9.out).2.2
                                  have q048 : (0 : Int) ≤ (t311 : Int) := of_decide_eq_true (by first | (with_reducible assumption) | assumption)
                                  have hcut48 := cut_from (P := Try.prog) 26 9 .i64 Try.underlying26 hi048 1 hsz48 Ao22 x9_1.length co22 t311 q048 q48
                                  have hr48 := Kd.C_drop (m := (t311 : Int).toNat) (c := co22) hC48 (by omega) hroom48
                                  obtain ⟨A48, hA48⟩ : ∃ A1, A1 = (if co22 = (t311 : Int).toNat then Ao22 else (Ao22 : Option Addr).map (·.add ((t311 : Int).toNat * 1))) := ⟨_, rfl⟩
                                  obtain ⟨c48, hc48⟩ : ∃ c1, c1 = co22 - (t311 : Int).toNat := ⟨_, rfl⟩
                                  have hy48 : y327.length = x9_1.length - (t311 : Int).toNat := (by rw [Ny327.out, List.length_drop] <;> omega)
                                  rw [show (x9_1).drop (t311 : Int).toNat = y327 from Ny327.out.symm] at hr48
                                  replace hr48 : Kd.C Kd.string _ A48 y327.length y327 := (by rw [hA48]; exact hr48)
                                  rw [← hy48, ← hA48, ← hc48] at hcut48
                                  have HR330 := Aside0.mk hr48
                                  have HC330 := Aside0.mk (show y327.length ≤ c48 from by rw [hy48, hc48]; exact Nat.sub_le_sub_right hroom48 _)
                                  clear hr48 hC48 hroom48 hi048 hsz48 hc48
                                  have KY48 := Aside0.mk hy48
                                  have KA48 := Aside0.mk hA48
                                  clear hy48 hA48
                                  have KL48 := Aside0.mk (show (t311 : Int).toNat ≤ x9_1.length from by omega)
                                  replace q48 := eq_true q48
                                  have q49 : (t311 : Int) ≤ ((x9_1.length : Int) : Int) := of_decide_eq_true (by first | (with_reducible assumption) | assumption)
                                  obtain ⟨i049, hi049, _, hsz49, _⟩ := info_parts info9
                                  have hroom49 : x9_1.length ≤ co22 := (Kd.R_reads' HO_9.out).2.1
                                  have hC49 : Kd.C Kd.string _ Ao22 x9_1.length x9_1 := (Kd.R_reads' HO_9.out).2.2
                                  have hcut49 := cut_to (P := Try.prog) 26 9 .i64 Try.underlying26 hi049 Ao22 x9_1.length co22 t311 (of_decide_eq_true (by first | (with_reducible assumption) | assumption)) q49 hroom49
                                  have hr49 := Kd.C_take (m := (t311 : Int).toNat) hC49 (by omega)
                                  have hy49 : y334.length = (t311 : Int).toNat := (by rw [Ny334.out, List.length_take]; omega)
                                  rw [← Ny334.out] at hr49
                                  rw [← hy49] at hcut49
                                  have HR337 := Aside0.mk hr49
                                  have HC337 := Aside0.mk (show y334.length ≤ co22 from by omega)
                                  clear hr49 hC49 hroom49 hi049 hsz49
                                  have KY49 := Aside0.mk hy49
                                  clear hy49
                                  have KL49 := Aside0.mk (show (t311 : Int).toNat ≤ x9_1.length from by omega)
                                  replace q49 := eq_true q49
                                  refine start_ (n := 19) (S := fun w' => w'.cell? ⟨gb316, 0, none⟩ = some (.int .i64 t317) ∧ w'.cell? ⟨gb316, 1, none⟩ = some (.int .i64 t313) ∧ w'.cell? ⟨gb316, 2, none⟩ = some (.int .i64 t314) ∧ w'.cell? ⟨gb316, 3, none⟩ = some (.string t315)) (ds := []) #[false, false, false, false, false, false, false, false, false, false, false, false, false, false, false, false, false, false, false] (by kernel_rfl) rfl rfl ⟨(blk_cell BK316.out 0).trans rfl, (blk_cell BK316.out 1).trans rfl, (blk_cell BK316.out 2).trans rfl, (blk_cell BK316.out 3).trans rfl⟩ (fun hHeld => ?_); refine with_tabW transhumancelaw4_PathOrder.tab15 transhumancelaw4_PathOrder.bits15 (fun HT_ HW_ => ?_)
                                  generalize w46.drew = w47 at HO_9 BK316 HB HR330 HR337 hHeld ⊢
                                  refine pure_ (i := 1) (N := some 75) (v := ?_) (a' := ?_) #[false, true, false, false, false, false, false, false, false, false, false, false, false, false, false, false, false, false, false] rfl rfl (any_of HT_.out (by kernel_rfl)) (fun _ _ _ h => h) (Or.inl ⟨by rfl, ?_⟩) ?_ ?_
                                  rotate_left
                                  · intro w'
                                    go_simp
                                    with_reducible rfl
                                  rotate_left
                                  · simp only [Act.put, List.setIfInBounds_toArray, List.set_cons_zero, List.set_cons_succ, i64_w, i32_w]
                                    rfl
                                  refine pure_ (i := 2) (N := some 76) (v := ?_) (a' := ?_) #[false, true, true, false, false, false, false, false, false, false, false, false, false, false, false, false, false, false, false] rfl rfl (any_of HT_.out (by kernel_rfl)) (fun _ _ _ h => h) (Or.inl ⟨by rfl, ?_⟩) ?_ ?_
                                  rotate_left
                                  · intro w'
                                    go_simp
                                    with_reducible rfl
                                  rotate_left
                                  · simp only [Act.put, List.setIfInBounds_toArray, List.set_cons_zero, List.set_cons_succ, i64_w, i32_w]
                                    rfl
                                  refine pure_ (i := 3) (N := some 77) (v := ?_) (a' := ?_) #[false, true, true, true, false, false, false, false, false, false, false, false, false, false, false, false, false, false, false] rfl rfl (any_of HT_.out (by kernel_rfl)) (fun _ _ _ h => h) (Or.inl ⟨by rfl, ?_⟩) ?_ ?_
                                  rotate_left
                                  · intro w'
                                    go_simp
                                    with_reducible rfl
                                  rotate_left
                                  · simp only [Act.put, List.setIfInBounds_toArray, List.set_cons_zero, List.set_cons_succ, i64_w, i32_w]
                                    rfl
                                  refine pure_ (i := 5) (N := some 79) (v := ?_) (a' := ?_) #[false, true, true, true, false, true, false, false, false, false, false, false, false, false, false, false, false, false, false] rfl rfl (any_of HT_.out (by kernel_rfl)) (fun _ _ _ h => h) (Or.inl ⟨by rfl, ?_⟩) ?_ ?_
                                  rotate_left
                                  · intro w'
                                    go_simp
                                    with_reducible rfl
                                  rotate_left
                                  · simp only [Act.put, List.setIfInBounds_toArray, List.set_cons_zero, List.set_cons_succ, i64_w, i32_w]
                                    rfl
                                  refine pure_ (i := 6) (N := some 80) (v := ?_) (a' := ?_) #[false, true, true, true, false, true, true, false, false, false, false, false, false, false, false, false, false, false, false] rfl rfl (any_of HT_.out (by kernel_rfl)) (fun _ _ _ h => h) (Or.inl ⟨by rfl, ?_⟩) ?_ ?_
                                  rotate_left
                                  · intro w'
                                    go_simp
                                    with_reducible rfl
                                  rotate_left
                                  · simp only [Act.put, List.setIfInBounds_toArray, List.set_cons_zero, List.set_cons_succ, i64_w, i32_w]
                                    rfl
                                  refine pure_ (i := 7) (N := some 81) (v := ?_) (a' := ?_) #[false, true, true, true, false, true, true, true, false, false, false, false, false, false, false, false, false, false, false] rfl rfl (any_of HT_.out (by kernel_rfl)) (fun _ _ _ h => h) (Or.inl ⟨by rfl, ?_⟩) ?_ ?_
                                  rotate_left
                                  · intro w'
                                    go_simp
                                    with_reducible rfl
                                  rotate_left
                                  · simp only [Act.put, List.setIfInBounds_toArray, List.set_cons_zero, List.set_cons_succ, i64_w, i32_w]
                                    rfl
                                  refine pure_ (i := 9) (N := some 83) (v := ?_) (a' := ?_) #[false, true, true, true, false, true, true, true, false, true, false, false, false, false, false, false, false, false, false] rfl rfl (any_of HT_.out (by kernel_rfl)) (fun _ _ _ h => h) (Or.inl ⟨by rfl, ?_⟩) ?_ ?_
                                  rotate_left
                                  · intro w'
                                    go_simp
                                    with_reducible rfl
                                  rotate_left
                                  · simp only [Act.put, List.setIfInBounds_toArray, List.set_cons_zero, List.set_cons_succ, i64_w, i32_w]
                                    rfl
                                  refine pure_ (i := 11) (N := some 85) (v := ?_) (a' := ?_) #[false, true, true, true, false, true, true, true, false, true, false, true, false, false, false, false, false, false, false] rfl rfl (any_of HT_.out (by kernel_rfl)) (fun _ _ _ h => h) (Or.inl ⟨by rfl, ?_⟩) ?_ ?_
                                  rotate_left
                                  · intro w'
                                    go_simp
                                    with_reducible rfl
                                  rotate_left
                                  · simp only [Act.put, List.setIfInBounds_toArray, List.set_cons_zero, List.set_cons_succ, i64_w, i32_w]
                                    rfl
                                  refine take_ (i := 12) (N := some 86) (v := ?_) (a' := ?_) #[false, true, true, true, false, true, true, true, false, true, false, true, true, false, false, false, false, false, false] rfl rfl (take_ofW HT_.out HW_.out (by kernel_rfl)) (fun _ _ _ h => h) (Or.inl ⟨by rfl, ?_⟩) hHeld ?_ ?_
                                  rotate_left
                                  · rintro w' ⟨s0, s1, s2, s3⟩
                                    go_simp
                                    with_reducible rfl
                                  rotate_left
                                  · simp only [Act.put, List.setIfInBounds_toArray, List.set_cons_zero, List.set_cons_succ, i64_w, i32_w]
                                    rfl
                                  refine one_ (i := 0) (N := some 74) #[true, true, true, true, false, true, true, true, false, true, false, true, true, false, false, false, false, false, false] rfl rfl (one_of HT_.out (by kernel_rfl)) (by decide) (fun K hK => ?_)
                                  refine Kd.R_lit_step Kd.string _ 9 ?hg (N := 74) ?hd (xs := ([] : List ByteArray)) (inner := []) (ok := fun _ => True) (okp := fun _ => True) ?hr ?hp (fun _ hk => hk) trivial (Below.refl _ _) (Nat.le_refl _) (by simp) ?_; (case hd => rfl); (case hg => rfl); (case hr => first | (go_simp; done) | (go_simp; rfl)); (case hp => exact (Reps.none _ _))
                                  intro v325 w50 ho51 hb hg_ hnew_
                                  clear hg_ hnew_
                                  (first | rw [← Ny324.out] at ho51 | (simp only [Int.reduceToNat] at ho51; rw [← Ny324.out] at ho51))
                                  have n0_ := Aside0.mk (Kd.R_elder' (by (with_reducible repeat (first | apply Kd.R_alloc | apply Kd.R_drewN | apply Kd.R_drew)); exact HO_9.out) (Kd.R_base ho51) hb)
                                  have n1_ := Aside0.mk (Kd.R_lower (Kd.R_new' ho51 (Kd.R_lt (by (with_reducible repeat (first | apply Kd.R_alloc | apply Kd.R_drewN | apply Kd.R_drew)); exact HO_9.out))) (below_size (by repeat (first | (with_reducible first | exact HB.out | apply below_alloc | apply pw_below_drewN | apply below_drew1 | refine below_set ?_ GE316.out) | exact HB.out))))
                                  have n2_ := Aside0.mk (blk_below (g := gb316) (o := .cells #[.int .i64 t317, .int .i64 t313, .int .i64 t314, .string t315] 33 (0, 0)) (by (with_reducible repeat (first | refine blk_drewN ?_ _ | refine blk_drew ?_ | refine blk_alloc ?_ _)); exact BK316.out) hb)
                                  have n3_ := Aside0.mk (Kd.C_below (by repeat (first | (with_reducible exact HR330.out) | (with_reducible refine Kd.C_alloc ?_ _) | (with_reducible refine Kd.C_drewN ?_ _) | (with_reducible refine Kd.C_drew ?_) | exact HR330.out)) hb)
                                  have n4_ := Aside0.mk (Kd.C_below (by repeat (first | (with_reducible exact HR337.out) | (with_reducible refine Kd.C_alloc ?_ _) | (with_reducible refine Kd.C_drewN ?_ _) | (with_reducible refine Kd.C_drew ?_) | exact HR337.out)) hb)
                                  have n5_ := Aside0.mk (below_step (by repeat (first | (with_reducible first | exact HB.out | apply below_alloc | apply pw_below_drewN | apply below_drew1 | refine below_set ?_ GE316.out) | exact HB.out)) hb)
                                  clear HO_9
                                  clear BK316
                                  clear HR330
                                  clear HR337
                                  clear HB
                                  have HO_9 := n0_
                                  have HO326 := n1_
                                  have BK316 := n2_
                                  have HR330 := n3_
                                  have HR337 := n4_
                                  have HB := n5_
                                  clear n0_ n1_ n2_ n3_ n4_ n5_
                                  clear hb ho51
                                  refine hK.out _ _ ⟨(blk_cell BK316.out 0).trans rfl, (blk_cell BK316.out 1).trans rfl, (blk_cell BK316.out 2).trans rfl, (blk_cell BK316.out 3).trans rfl⟩ (fun hHeld => ?_)
                                  clear hK K
                                  refine norm_ (a' := ?_) ?_ ?_
                                  rotate_left
                                  · show Act.put _ (some 74) _ = _
                                    simp only [Act.put, List.setIfInBounds_toArray, List.set_cons_zero, List.set_cons_succ, i64_w, i32_w]
                                    rfl
                                  refine one_ (i := 4) (N := some 78) #[true, true, true, true, true, true, true, true, false, true, false, true, true, false, false, false, false, false, false] rfl rfl (one_of HT_.out (by kernel_rfl)) (by decide) (fun K hK => ?_)
                                  refine Kd.R_append_rows_step Kd.string (w0 := w) w.heap.size (by rfl) (.tmp 74) (.tmp 77) 26 9 (.string ⟨#[]⟩) 16 rfl Try.underlying26 info9 rfl (by decide) (by omega) v325 y324 y327 _ _ _ (fun k_ => some k_ ≠ (.slice Ao22 x9_1.length co22 : Value).ownBlock) (fun _ => False) rfl rfl ?aO ?aR (fun _ _ h => h) (fun _ h => h.elim) ?aF ?aB ?aS ?aL ?_
                                  (case aR => repeat (first | exact (by repeat (first | (with_reducible exact HR330.out) | (with_reducible refine Kd.C_alloc ?_ _) | (with_reducible refine Kd.C_drewN ?_ _) | (with_reducible refine Kd.C_drew ?_) | exact HR330.out)) | (with_reducible refine Kd.C_alloc ?_ _) | (with_reducible refine Kd.C_drewN ?_ _) | (with_reducible refine Kd.C_drew ?_)))
                                  (case aB => exact (by repeat (first | (with_reducible first | exact HB.out | apply below_alloc | apply pw_below_drewN | apply below_drew1 | refine below_set ?_ GE316.out) | exact HB.out)))
                                  (case aF => exact (fun k_ hk => Kd.fresh' (Kd.R_lt (by (with_reducible repeat (first | apply Kd.R_alloc | apply Kd.R_drewN | apply Kd.R_drew)); exact HO_9.out)) k_ hk))
                                  (case aO => exact (by (with_reducible repeat (first | apply Kd.R_alloc | apply Kd.R_drewN | apply Kd.R_drew)); exact Kd.R_mono HO326.out (fun _ hk => hk.2)))
                                  (case aS => exact (below_size (by repeat (first | (with_reducible first | exact HB.out | apply below_alloc | apply pw_below_drewN | apply below_drew1 | refine below_set ?_ GE316.out) | exact HB.out))))
                                  (case aL => have := LMc38.out; omega)
                                  intro v332 w52 ho hb hg hat
                                  rw [← Ny331.out] at ho
                                  have n0_ := Aside0.mk (Kd.R_after (ok := (fun _ => True)) (by (with_reducible repeat (first | apply Kd.R_alloc | apply Kd.R_drewN | apply Kd.R_drew)); exact HO_9.out) hg hat)
                                  have n1_ := Aside0.mk (blk_grown (g := gb316) (o := .cells #[.int .i64 t317, .int .i64 t313, .int .i64 t314, .string t315] 33 (0, 0)) (by (with_reducible repeat (first | refine blk_drewN ?_ _ | refine blk_drew ?_ | refine blk_alloc ?_ _)); exact BK316.out) hg (Kd.R_ne HO326.out BK316.out (by decide)))
                                  have n2_ := Aside0.mk (hb)
                                  have n3_ := Aside0.mk ((show Kd.C Kd.string w52 A48 y327.length y327 from by rw [Ny327.out, KA48.out]; exact Kd.C_drop (m := (t311 : Int).toNat) (c := co22) ((Kd.R_reads' (Kd.R_after (ok := (fun _ => True)) (by (with_reducible repeat (first | apply Kd.R_alloc | apply Kd.R_drewN | apply Kd.R_drew)); exact HO_9.out) hg hat)).2.2) KL48.out ((Kd.R_reads' (Kd.R_after (ok := (fun _ => True)) (by (with_reducible repeat (first | apply Kd.R_alloc | apply Kd.R_drewN | apply Kd.R_drew)); exact HO_9.out) hg hat)).2.1)))
                                  have n4_ := Aside0.mk ((show Kd.C Kd.string w52 Ao22 y334.length y334 from by rw [Ny334.out]; exact Kd.C_take (m := (t311 : Int).toNat) ((Kd.R_reads' (Kd.R_after (ok := (fun _ => True)) (by (with_reducible repeat (first | apply Kd.R_alloc | apply Kd.R_drewN | apply Kd.R_drew)); exact HO_9.out) hg hat)).2.2) KL49.out))
                                  have n5_ := Aside0.mk (ho)
                                  clear HO_9
                                  clear BK316
                                  clear HB
                                  clear HR330
                                  clear HR337
                                  clear HO326
                                  have HO_9 := n0_
                                  have BK316 := n1_
                                  have HB := n2_
                                  have HR330 := n3_
                                  have HR337 := n4_
                                  have HO333 := n5_
                                  clear n0_ n1_ n2_ n3_ n4_ n5_
                                  clear ho hb hg hat
                                  refine hK.out _ _ ⟨(blk_cell BK316.out 0).trans rfl, (blk_cell BK316.out 1).trans rfl, (blk_cell BK316.out 2).trans rfl, (blk_cell BK316.out 3).trans rfl⟩ (fun hHeld => ?_)
                                  clear hK K
                                  refine norm_ (a' := ?_) ?_ ?_
                                  rotate_left
                                  · show Act.put _ (some 78) _ = _
                                    simp only [Act.put, List.setIfInBounds_toArray, List.set_cons_zero, List.set_cons_succ, i64_w, i32_w]
                                    rfl
                                  refine one_ (i := 8) (N := some 82) #[true, true, true, true, true, true, true, true, true, true, false, true, true, false, false, false, false, false, false] rfl rfl (one_of HT_.out (by kernel_rfl)) (by decide) (fun K hK => ?_)
                                  refine Kd.R_append_rows_step Kd.string (w0 := w) w.heap.size (by rfl) (.tmp 78) (.tmp 81) 26 9 (.string ⟨#[]⟩) 16 rfl Try.underlying26 info9 rfl (by decide) (by omega) v332 y331 y334 _ _ _ (fun k_ => some k_ ≠ (.slice Ao22 x9_1.length co22 : Value).ownBlock) (fun _ => False) rfl rfl ?aO ?aR (fun _ _ h => h) (fun _ h => h.elim) ?aF ?aB ?aS ?aL ?_
                                  (case aR => repeat (first | exact (by repeat (first | (with_reducible exact HR337.out) | (with_reducible refine Kd.C_alloc ?_ _) | (with_reducible refine Kd.C_drewN ?_ _) | (with_reducible refine Kd.C_drew ?_) | exact HR337.out)) | (with_reducible refine Kd.C_alloc ?_ _) | (with_reducible refine Kd.C_drewN ?_ _) | (with_reducible refine Kd.C_drew ?_)))
                                  (case aB => exact (by repeat (first | (with_reducible first | exact HB.out | apply below_alloc | apply pw_below_drewN | apply below_drew1 | refine below_set ?_ GE316.out) | exact HB.out)))
                                  (case aF => exact (fun k_ hk => Kd.fresh' (Kd.R_lt (by (with_reducible repeat (first | apply Kd.R_alloc | apply Kd.R_drewN | apply Kd.R_drew)); exact HO_9.out)) k_ hk))
                                  (case aO => exact (by (with_reducible repeat (first | apply Kd.R_alloc | apply Kd.R_drewN | apply Kd.R_drew)); exact HO333.out))
                                  (case aS => exact (below_size (by repeat (first | (with_reducible first | exact HB.out | apply below_alloc | apply pw_below_drewN | apply below_drew1 | refine below_set ?_ GE316.out) | exact HB.out))))
                                  (case aL => have := LMc41.out; omega)
                                  intro v339 w53 ho hb hg hat
                                  rw [← Ny338.out] at ho
                                  have n0_ := Aside0.mk (Kd.R_after (ok := (fun _ => True)) (by (with_reducible repeat (first | apply Kd.R_alloc | apply Kd.R_drewN | apply Kd.R_drew)); exact HO_9.out) hg hat)
                                  have n1_ := Aside0.mk (blk_grown (g := gb316) (o := .cells #[.int .i64 t317, .int .i64 t313, .int .i64 t314, .string t315] 33 (0, 0)) (by (with_reducible repeat (first | refine blk_drewN ?_ _ | refine blk_drew ?_ | refine blk_alloc ?_ _)); exact BK316.out) hg (Kd.R_ne HO333.out BK316.out (by decide)))
                                  have n2_ := Aside0.mk (hb)
                                  have n3_ := Aside0.mk ((show Kd.C Kd.string w53 A48 y327.length y327 from by rw [Ny327.out, KA48.out]; exact Kd.C_drop (m := (t311 : Int).toNat) (c := co22) ((Kd.R_reads' (Kd.R_after (ok := (fun _ => True)) (by (with_reducible repeat (first | apply Kd.R_alloc | apply Kd.R_drewN | apply Kd.R_drew)); exact HO_9.out) hg hat)).2.2) KL48.out ((Kd.R_reads' (Kd.R_after (ok := (fun _ => True)) (by (with_reducible repeat (first | apply Kd.R_alloc | apply Kd.R_drewN | apply Kd.R_drew)); exact HO_9.out) hg hat)).2.1)))
                                  have n4_ := Aside0.mk ((show Kd.C Kd.string w53 Ao22 y334.length y334 from by rw [Ny334.out]; exact Kd.C_take (m := (t311 : Int).toNat) ((Kd.R_reads' (Kd.R_after (ok := (fun _ => True)) (by (with_reducible repeat (first | apply Kd.R_alloc | apply Kd.R_drewN | apply Kd.R_drew)); exact HO_9.out) hg hat)).2.2) KL49.out))
                                  have n5_ := Aside0.mk (ho)
                                  clear HO_9
                                  clear BK316
                                  clear HB
                                  clear HR330
                                  clear HR337
                                  clear HO333
                                  have HO_9 := n0_
                                  have BK316 := n1_
                                  have HB := n2_
                                  have HR330 := n3_
                                  have HR337 := n4_
                                  have HO340 := n5_
                                  clear n0_ n1_ n2_ n3_ n4_ n5_
                                  clear ho hb hg hat
                                  refine hK.out _ _ ⟨(blk_cell BK316.out 0).trans rfl, (blk_cell BK316.out 1).trans rfl, (blk_cell BK316.out 2).trans rfl, (blk_cell BK316.out 3).trans rfl⟩ (fun hHeld => ?_)
                                  clear hK K
                                  refine norm_ (a' := ?_) ?_ ?_
                                  rotate_left
                                  · show Act.put _ (some 82) _ = _
                                    simp only [Act.put, List.setIfInBounds_toArray, List.set_cons_zero, List.set_cons_succ, i64_w, i32_w]
                                    rfl
                                  refine one_ (i := 10) (N := some 84) #[true, true, true, true, true, true, true, true, true, true, true, true, true, false, false, false, false, false, false] rfl rfl (one_of HT_.out (by kernel_rfl)) (by decide) (fun K hK => ?_)
                                  refine Kd.R_append_rows_step Kd.string (w0 := w) w.heap.size (by rfl) (.tmp 82) (.tmp 83) 26 9 (.string ⟨#[]⟩) 16 rfl Try.underlying26 info9 rfl (by decide) (by omega) v339 y338 x9_1 _ _ _ (fun k_ => some k_ ≠ (.slice Ao22 x9_1.length co22 : Value).ownBlock) (fun _ => False) rfl rfl ?aO ?aR (fun _ _ h => h) (fun _ h => h.elim) ?aF ?aB ?aS ?aL ?_
                                  (case aR => repeat (first | exact (Kd.R_reads' HO_9.out).2.2 | (with_reducible refine Kd.C_alloc ?_ _) | (with_reducible refine Kd.C_drewN ?_ _) | (with_reducible refine Kd.C_drew ?_)))
                                  (case aB => exact (by repeat (first | (with_reducible first | exact HB.out | apply below_alloc | apply pw_below_drewN | apply below_drew1 | refine below_set ?_ GE316.out) | exact HB.out)))
                                  (case aF => exact (fun k_ hk => Kd.fresh' (Kd.R_lt (by (with_reducible repeat (first | apply Kd.R_alloc | apply Kd.R_drewN | apply Kd.R_drew)); exact HO_9.out)) k_ hk))
                                  (case aO => exact (by (with_reducible repeat (first | apply Kd.R_alloc | apply Kd.R_drewN | apply Kd.R_drew)); exact HO340.out))
                                  (case aS => exact (below_size (by repeat (first | (with_reducible first | exact HB.out | apply below_alloc | apply pw_below_drewN | apply below_drew1 | refine below_set ?_ GE316.out) | exact HB.out))))
                                  (case aL => have := LMc42.out; omega)
                                  intro v342 w54 ho hb hg hat
                                  rw [← Ny341.out] at ho
                                  have n0_ := Aside0.mk (Kd.R_after (ok := (fun _ => True)) (by (with_reducible repeat (first | apply Kd.R_alloc | apply Kd.R_drewN | apply Kd.R_drew)); exact HO_9.out) hg hat)
                                  have n1_ := Aside0.mk (blk_grown (g := gb316) (o := .cells #[.int .i64 t317, .int .i64 t313, .int .i64 t314, .string t315] 33 (0, 0)) (by (with_reducible repeat (first | refine blk_drewN ?_ _ | refine blk_drew ?_ | refine blk_alloc ?_ _)); exact BK316.out) hg (Kd.R_ne HO340.out BK316.out (by decide)))
                                  have n2_ := Aside0.mk (hb)
                                  have n3_ := Aside0.mk ((show Kd.C Kd.string w54 A48 y327.length y327 from by rw [Ny327.out, KA48.out]; exact Kd.C_drop (m := (t311 : Int).toNat) (c := co22) ((Kd.R_reads' (Kd.R_after (ok := (fun _ => True)) (by (with_reducible repeat (first | apply Kd.R_alloc | apply Kd.R_drewN | apply Kd.R_drew)); exact HO_9.out) hg hat)).2.2) KL48.out ((Kd.R_reads' (Kd.R_after (ok := (fun _ => True)) (by (with_reducible repeat (first | apply Kd.R_alloc | apply Kd.R_drewN | apply Kd.R_drew)); exact HO_9.out) hg hat)).2.1)))
                                  have n4_ := Aside0.mk ((show Kd.C Kd.string w54 Ao22 y334.length y334 from by rw [Ny334.out]; exact Kd.C_take (m := (t311 : Int).toNat) ((Kd.R_reads' (Kd.R_after (ok := (fun _ => True)) (by (with_reducible repeat (first | apply Kd.R_alloc | apply Kd.R_drewN | apply Kd.R_drew)); exact HO_9.out) hg hat)).2.2) KL49.out))
                                  have n5_ := Aside0.mk (ho)
                                  clear HO_9
                                  clear BK316
                                  clear HB
                                  clear HR330
                                  clear HR337
                                  clear HO340
                                  have HO_9 := n0_
                                  have BK316 := n1_
                                  have HB := n2_
                                  have HR330 := n3_
                                  have HR337 := n4_
                                  have HO343 := n5_
                                  clear n0_ n1_ n2_ n3_ n4_ n5_
                                  clear ho hb hg hat
                                  obtain ⟨Ao55, co55, eo55⟩ := Kd.R_slice HO343.out
                                  (first | subst eo55 | (injection eo55 with f1_ f2_ f3_; have f4_ := f1_.symm; have f5_ := f3_.symm; clear f1_ f2_ f3_; subst f4_; subst f5_))
                                  refine hK.out _ _ ⟨(blk_cell BK316.out 0).trans rfl, (blk_cell BK316.out 1).trans rfl, (blk_cell BK316.out 2).trans rfl, (blk_cell BK316.out 3).trans rfl⟩ (fun hHeld => ?_)
                                  clear hK K
                                  refine norm_ (a' := ?_) ?_ ?_
                                  rotate_left
                                  · show Act.put _ (some 84) _ = _
                                    simp only [Act.put, List.setIfInBounds_toArray, List.set_cons_zero, List.set_cons_succ, i64_w, i32_w]
                                    rfl
                                  refine one_ (i := 13) (N := some 87) #[true, true, true, true, true, true, true, true, true, true, true, true, true, true, false, false, false, false, false] rfl rfl (one_of HT_.out (by kernel_rfl)) (by decide) (fun K hK => ?_)
                                  refine goes_ Try.func25 (by kernel_rfl) rfl #[.slice Ao55 y341.length co55, .string x13_28, .agg #[.int .i64 t317, .int .i64 t313, .int .i64 t314, .string t315]] (by rfl) rfl rfl (by (try simp only [List.map_toArray, List.map_cons, List.map_nil]); first | done | rfl | (simp only [List.length_drop, List.length_take]; rfl)) ?_
                                  with_reducible refine (path_Find.calls kj28 _ _ y341 x13_28 t317 t313 t314 t315 t344 t345 _ ?side1 ?side2 A43.out).mono ?_
                                  (case side1 => repeat (first | exact (Kd.R_reads' HO343.out).2.2 | (with_reducible refine Kd.C_alloc ?_ _) | (with_reducible refine Kd.C_drewN ?_ _) | (with_reducible refine Kd.C_drew ?_)))
                                  (case side2 => exact (Kd.R_reads' HO343.out).2.1)
                                  rintro e w56 ⟨rfl, hb⟩
                                  refine ⟨_, rfl, ?_⟩
                                  have n0_ := Aside0.mk (Kd.R_below (by (with_reducible repeat (first | apply Kd.R_alloc | apply Kd.R_drewN | apply Kd.R_drew)); exact HO_9.out) hb)
                                  have n1_ := Aside0.mk (Kd.R_below (by (with_reducible repeat (first | apply Kd.R_alloc | apply Kd.R_drewN | apply Kd.R_drew)); exact HO343.out) hb)
                                  have n2_ := Aside0.mk (blk_below (g := gb316) (o := .cells #[.int .i64 t317, .int .i64 t313, .int .i64 t314, .string t315] 33 (0, 0)) (by (with_reducible repeat (first | refine blk_drewN ?_ _ | refine blk_drew ?_ | refine blk_alloc ?_ _)); exact BK316.out) hb)
                                  have n3_ := Aside0.mk (Kd.C_below (by repeat (first | (with_reducible exact HR330.out) | (with_reducible refine Kd.C_alloc ?_ _) | (with_reducible refine Kd.C_drewN ?_ _) | (with_reducible refine Kd.C_drew ?_) | exact HR330.out)) hb)
                                  have n4_ := Aside0.mk (Kd.C_below (by repeat (first | (with_reducible exact HR337.out) | (with_reducible refine Kd.C_alloc ?_ _) | (with_reducible refine Kd.C_drewN ?_ _) | (with_reducible refine Kd.C_drew ?_) | exact HR337.out)) hb)
                                  have n5_ := Aside0.mk (below_step (by repeat (first | (with_reducible first | exact HB.out | apply below_alloc | apply pw_below_drewN | apply below_drew1 | refine below_set ?_ GE316.out) | exact HB.out)) hb)
                                  clear HO_9
                                  clear HO343
                                  clear BK316
                                  clear HR330
                                  clear HR337
                                  clear HB
                                  have HO_9 := n0_
                                  have HO343 := n1_
                                  have BK316 := n2_
                                  have HR330 := n3_
                                  have HR337 := n4_
                                  have HB := n5_
                                  clear n0_ n1_ n2_ n3_ n4_ n5_
                                  (try clear hb)
                                  (try clear hb2)
                                  (try clear hk)
                                  (try clear hi)
                                  refine hK.out _ _ ⟨(blk_cell BK316.out 0).trans rfl, (blk_cell BK316.out 1).trans rfl, (blk_cell BK316.out 2).trans rfl, (blk_cell BK316.out 3).trans rfl⟩ (fun hHeld => ?_)
                                  clear hK K
                                  refine norm_ (a' := ?_) ?_ ?_
                                  rotate_left
                                  · show Act.put _ (some 87) _ = _
                                    simp only [Act.put, List.setIfInBounds_toArray, List.set_cons_zero, List.set_cons_succ, i64_w, i32_w]
                                    rfl
                                  refine pure_ (i := 14) (N := some 73) (v := ?_) (a' := ?_) #[true, true, true, true, true, true, true, true, true, true, true, true, true, true, true, false, false, false, false] rfl rfl (any_of HT_.out (by kernel_rfl)) (fun _ _ _ h => h) (Or.inl ⟨by rfl, ?_⟩) ?_ ?_
                                  rotate_left
                                  · intro w'
                                    go_simp
                                    with_reducible rfl
                                  rotate_left
                                  · simp only [Act.put, List.setIfInBounds_toArray, List.set_cons_zero, List.set_cons_succ, i64_w, i32_w]
                                    rfl
                                  refine pure_ (i := 15) (N := some 88) (v := ?_) (a' := ?_) #[true, true, true, true, true, true, true, true, true, true, true, true, true, true, true, true, false, false, false] rfl rfl (any_of HT_.out (by kernel_rfl)) (fun _ _ _ h => h) (Or.inl ⟨by rfl, ?_⟩) ?_ ?_
                                  rotate_left
                                  · intro w'
                                    go_simp
                                    with_reducible rfl
                                  rotate_left
                                  · simp only [Act.put, List.setIfInBounds_toArray, List.set_cons_zero, List.set_cons_succ, i64_w, i32_w]
                                    rfl
                                  refine pure_ (i := 16) (N := some 89) (v := ?_) (a' := ?_) #[true, true, true, true, true, true, true, true, true, true, true, true, true, true, true, true, true, false, false] rfl rfl (any_of HT_.out (by kernel_rfl)) (fun _ _ _ h => h) (Or.inl ⟨by rfl, ?_⟩) ?_ ?_
                                  rotate_left
                                  · intro w'
                                    go_simp
                                    with_reducible rfl
                                  rotate_left
                                  · simp only [Act.put, List.setIfInBounds_toArray, List.set_cons_zero, List.set_cons_succ, i64_w, i32_w]
                                    rfl
                                  refine pure_ (i := 17) (N := some 16) (v := ?_) (a' := ?_) #[true, true, true, true, true, true, true, true, true, true, true, true, true, true, true, true, true, true, false] rfl rfl (any_of HT_.out (by kernel_rfl)) (fun _ _ _ h => h) (Or.inl ⟨by rfl, ?_⟩) ?_ ?_
                                  rotate_left
                                  · intro w'
                                    go_simp
                                    with_reducible rfl
                                  rotate_left
                                  · simp only [Act.put, List.setIfInBounds_toArray, List.set_cons_zero, List.set_cons_succ, i64_w, i32_w]
                                    rfl
                                  refine pure_ (i := 18) (N := some 17) (v := ?_) (a' := ?_) #[true, true, true, true, true, true, true, true, true, true, true, true, true, true, true, true, true, true, true] rfl rfl (any_of HT_.out (by kernel_rfl)) (fun _ _ _ h => h) (Or.inl ⟨by rfl, ?_⟩) ?_ ?_
                                  rotate_left
                                  · intro w'
                                    go_simp
                                    with_reducible rfl
                                  rotate_left
                                  · simp only [Act.put, List.setIfInBounds_toArray, List.set_cons_zero, List.set_cons_succ, i64_w, i32_w]
                                    rfl
                                  refine done_ (done_of HT_.out (by kernel_rfl)) ?_
                                  try go_wp2
                                  go_ret
                                  exact ⟨by first | rfl | (simp [errW_none, errW_some] <;> rfl) | (simp [*, errW_none, errW_some] <;> rfl), by repeat (first | (with_reducible first | exact HB.out | apply below_alloc | apply pw_below_drewN | apply below_drew1 | refine below_set ?_ GE316.out) | exact HB.out)⟩
                                · rw [if_neg c44] at H
                                  have c44b0 : (t322.toList == t344.toList) = false := beq_eq_false_iff_ne.mpr c44
                                  have c44b1 : (t322.toList != t344.toList) = true := bne_iff_ne.mpr c44
                                  obtain rfl := Option.some.inj H
                                  have hcz57_0 : wc.cell? ⟨gb316, 0, none⟩ = some (.int .i64 t317) := (blk_cell BK316.out 0).trans rfl
                                  have hcz57_1 : wc.cell? ⟨gb316, 1, none⟩ = some (.int .i64 t313) := (blk_cell BK316.out 1).trans rfl
                                  have hcz57_2 : wc.cell? ⟨gb316, 2, none⟩ = some (.int .i64 t314) := (blk_cell BK316.out 2).trans rfl
                                  have hcz57_3 : wc.cell? ⟨gb316, 3, none⟩ = some (.string t315) := (blk_cell BK316.out 3).trans rfl
                                  have hfz57_0 := blk_frozen BK316.out 0
                                  have hfz57_1 := blk_frozen BK316.out 1
                                  have hfz57_2 := blk_frozen BK316.out 2
                                  have hfz57_3 := blk_frozen BK316.out 3
                                  try go_wp2_with (first | ((with_reducible refine gate_callee (f := 25) rfl ?_); refine goesL_ (some 70) rfl rfl Try.func25 (by kernel_rfl) rfl #[.slice Ao22 x9_1.length co22, .string x13_28, .agg #[.int .i64 t317, .int .i64 t313, .int .i64 t314, .string t315]] rfl (by (try simp only [List.map_toArray, List.map_cons, List.map_nil]); first | done | rfl | (simp only [List.length_drop, List.length_take]; rfl)) ?_; (with_reducible refine (path_Find.calls kj28 _ _ x9_1 x13_28 t317 t313 t314 t315 t322 t323 _ ?side1 ?side2 A35.out).mono ?_); (case side1 => repeat (first | exact (Kd.R_reads' HO_9.out).2.2 | (with_reducible refine Kd.C_alloc ?_ _) | (with_reducible refine Kd.C_drewN ?_ _) | (with_reducible refine Kd.C_drew ?_))); (case side2 => exact (Kd.R_reads' HO_9.out).2.1); rintro e w58 ⟨rfl, hb⟩; refine ⟨_, rfl, ?_⟩; have n0_ := Aside0.mk (Kd.R_below (by (with_reducible repeat (first | apply Kd.R_alloc | apply Kd.R_drewN | apply Kd.R_drew)); exact HO_9.out) hb); have n1_ := Aside0.mk (blk_below (g := gb316) (o := .cells #[.int .i64 t317, .int .i64 t313, .int .i64 t314, .string t315] 33 (0, 0)) (by (with_reducible repeat (first | refine blk_drewN ?_ _ | refine blk_drew ?_ | refine blk_alloc ?_ _)); exact BK316.out) hb); have n2_ := Aside0.mk (below_step (by repeat (first | (with_reducible first | exact HB.out | apply below_alloc | apply pw_below_drewN | apply below_drew1 | refine below_set ?_ GE316.out) | exact HB.out)) hb); clear HO_9; clear BK316; clear HB; have HO_9 := n0_; have BK316 := n1_; have HB := n2_; clear n0_ n1_ n2_; (try clear hb); (try clear hb2); (try clear hk); (try clear hi)))
                                  have n0_ := Aside0.mk (Kd.R_drew HO_9.out)
                                  have n1_ := Aside0.mk (blk_drew BK316.out)
                                  have n2_ := Aside0.mk (below_drew1 HB.out)
                                  clear HO_9
                                  clear BK316
                                  clear HB
                                  have HO_9 := n0_
                                  have BK316 := n1_
                                  have HB := n2_
                                  clear n0_ n1_ n2_
                                  have q60 : (t311 : Int) ≤ ((x9_1.length : Int) : Int) := of_decide_eq_true (by first | (with_reducible assumption) | assumption)
                                  obtain ⟨i060, hi060, _, hsz60, _⟩ := info_parts info9
                                  have hroom60 : x9_1.length ≤ co22 := (Kd.R_reads' HO_9.out).2.1
                                  have hC60 : Kd.C Kd.string _ Ao22 x9_1.length x9_1 := (Kd.R_reads' HO_9.out).2.2
                                  have q060 : (0 : Int) ≤ (t311 : Int) := of_decide_eq_true (by first | (with_reducible assumption) | assumption)
                                  have hcut60 := cut_from (P := Try.prog) 26 9 .i64 Try.underlying26 hi060 1 hsz60 Ao22 x9_1.length co22 t311 q060 q60
                                  have hr60 := Kd.C_drop (m := (t311 : Int).toNat) (c := co22) hC60 (by omega) hroom60
                                  obtain ⟨A60, hA60⟩ : ∃ A1, A1 = (if co22 = (t311 : Int).toNat then Ao22 else (Ao22 : Option Addr).map (·.add ((t311 : Int).toNat * 1))) := ⟨_, rfl⟩
                                  obtain ⟨c60, hc60⟩ : ∃ c1, c1 = co22 - (t311 : Int).toNat := ⟨_, rfl⟩
                                  have hy60 : y327.length = x9_1.length - (t311 : Int).toNat := (by rw [Ny327.out, List.length_drop] <;> omega)
                                  rw [show (x9_1).drop (t311 : Int).toNat = y327 from Ny327.out.symm] at hr60
                                  replace hr60 : Kd.C Kd.string _ A60 y327.length y327 := (by rw [hA60]; exact hr60)
                                  rw [← hy60, ← hA60, ← hc60] at hcut60
                                  have HR330 := Aside0.mk hr60
                                  have HC330 := Aside0.mk (show y327.length ≤ c60 from by rw [hy60, hc60]; exact Nat.sub_le_sub_right hroom60 _)
                                  clear hr60 hC60 hroom60 hi060 hsz60 hc60
                                  have KY60 := Aside0.mk hy60
                                  have KA60 := Aside0.mk hA60
                                  clear hy60 hA60
                                  have KL60 := Aside0.mk (show (t311 : Int).toNat ≤ x9_1.length from by omega)
                                  replace q60 := eq_true q60
                                  have q61 : (t311 : Int) ≤ ((x9_1.length : Int) : Int) := of_decide_eq_true (by first | (with_reducible assumption) | assumption)
                                  obtain ⟨i061, hi061, _, hsz61, _⟩ := info_parts info9
                                  have hroom61 : x9_1.length ≤ co22 := (Kd.R_reads' HO_9.out).2.1
                                  have hC61 : Kd.C Kd.string _ Ao22 x9_1.length x9_1 := (Kd.R_reads' HO_9.out).2.2
                                  have hcut61 := cut_to (P := Try.prog) 26 9 .i64 Try.underlying26 hi061 Ao22 x9_1.length co22 t311 (of_decide_eq_true (by first | (with_reducible assumption) | assumption)) q61 hroom61
                                  have hr61 := Kd.C_take (m := (t311 : Int).toNat) hC61 (by omega)
                                  have hy61 : y334.length = (t311 : Int).toNat := (by rw [Ny334.out, List.length_take]; omega)
                                  rw [← Ny334.out] at hr61
                                  rw [← hy61] at hcut61
                                  have HR337 := Aside0.mk hr61
                                  have HC337 := Aside0.mk (show y334.length ≤ co22 from by omega)
                                  clear hr61 hC61 hroom61 hi061 hsz61
                                  have KY61 := Aside0.mk hy61
                                  clear hy61
                                  have KL61 := Aside0.mk (show (t311 : Int).toNat ≤ x9_1.length from by omega)
                                  replace q61 := eq_true q61
                                  refine start_ (n := 19) (S := fun w' => w'.cell? ⟨gb316, 0, none⟩ = some (.int .i64 t317) ∧ w'.cell? ⟨gb316, 1, none⟩ = some (.int .i64 t313) ∧ w'.cell? ⟨gb316, 2, none⟩ = some (.int .i64 t314) ∧ w'.cell? ⟨gb316, 3, none⟩ = some (.string t315)) (ds := []) #[false, false, false, false, false, false, false, false, false, false, false, false, false, false, false, false, false, false, false] (by kernel_rfl) rfl rfl ⟨(blk_cell BK316.out 0).trans rfl, (blk_cell BK316.out 1).trans rfl, (blk_cell BK316.out 2).trans rfl, (blk_cell BK316.out 3).trans rfl⟩ (fun hHeld => ?_); refine with_tabW transhumancelaw4_PathOrder.tab15 transhumancelaw4_PathOrder.bits15 (fun HT_ HW_ => ?_)
                                  generalize w58.drew = w59 at HO_9 BK316 HB HR330 HR337 hHeld ⊢
                                  refine pure_ (i := 1) (N := some 75) (v := ?_) (a' := ?_) #[false, true, false, false, false, false, false, false, false, false, false, false, false, false, false, false, false, false, false] rfl rfl (any_of HT_.out (by kernel_rfl)) (fun _ _ _ h => h) (Or.inl ⟨by rfl, ?_⟩) ?_ ?_
                                  rotate_left
                                  · intro w'
                                    go_simp
                                    with_reducible rfl
                                  rotate_left
                                  · simp only [Act.put, List.setIfInBounds_toArray, List.set_cons_zero, List.set_cons_succ, i64_w, i32_w]
                                    rfl
                                  refine pure_ (i := 2) (N := some 76) (v := ?_) (a' := ?_) #[false, true, true, false, false, false, false, false, false, false, false, false, false, false, false, false, false, false, false] rfl rfl (any_of HT_.out (by kernel_rfl)) (fun _ _ _ h => h) (Or.inl ⟨by rfl, ?_⟩) ?_ ?_
                                  rotate_left
                                  · intro w'
                                    go_simp
                                    with_reducible rfl
                                  rotate_left
                                  · simp only [Act.put, List.setIfInBounds_toArray, List.set_cons_zero, List.set_cons_succ, i64_w, i32_w]
                                    rfl
                                  refine pure_ (i := 3) (N := some 77) (v := ?_) (a' := ?_) #[false, true, true, true, false, false, false, false, false, false, false, false, false, false, false, false, false, false, false] rfl rfl (any_of HT_.out (by kernel_rfl)) (fun _ _ _ h => h) (Or.inl ⟨by rfl, ?_⟩) ?_ ?_
                                  rotate_left
                                  · intro w'
                                    go_simp
                                    with_reducible rfl
                                  rotate_left
                                  · simp only [Act.put, List.setIfInBounds_toArray, List.set_cons_zero, List.set_cons_succ, i64_w, i32_w]
                                    rfl
                                  refine pure_ (i := 5) (N := some 79) (v := ?_) (a' := ?_) #[false, true, true, true, false, true, false, false, false, false, false, false, false, false, false, false, false, false, false] rfl rfl (any_of HT_.out (by kernel_rfl)) (fun _ _ _ h => h) (Or.inl ⟨by rfl, ?_⟩) ?_ ?_
                                  rotate_left
                                  · intro w'
                                    go_simp
                                    with_reducible rfl
                                  rotate_left
                                  · simp only [Act.put, List.setIfInBounds_toArray, List.set_cons_zero, List.set_cons_succ, i64_w, i32_w]
                                    rfl
                                  refine pure_ (i := 6) (N := some 80) (v := ?_) (a' := ?_) #[false, true, true, true, false, true, true, false, false, false, false, false, false, false, false, false, false, false, false] rfl rfl (any_of HT_.out (by kernel_rfl)) (fun _ _ _ h => h) (Or.inl ⟨by rfl, ?_⟩) ?_ ?_
                                  rotate_left
                                  · intro w'
                                    go_simp
                                    with_reducible rfl
                                  rotate_left
                                  · simp only [Act.put, List.setIfInBounds_toArray, List.set_cons_zero, List.set_cons_succ, i64_w, i32_w]
                                    rfl
                                  refine pure_ (i := 7) (N := some 81) (v := ?_) (a' := ?_) #[false, true, true, true, false, true, true, true, false, false, false, false, false, false, false, false, false, false, false] rfl rfl (any_of HT_.out (by kernel_rfl)) (fun _ _ _ h => h) (Or.inl ⟨by rfl, ?_⟩) ?_ ?_
                                  rotate_left
                                  · intro w'
                                    go_simp
                                    with_reducible rfl
                                  rotate_left
                                  · simp only [Act.put, List.setIfInBounds_toArray, List.set_cons_zero, List.set_cons_succ, i64_w, i32_w]
                                    rfl
                                  refine pure_ (i := 9) (N := some 83) (v := ?_) (a' := ?_) #[false, true, true, true, false, true, true, true, false, true, false, false, false, false, false, false, false, false, false] rfl rfl (any_of HT_.out (by kernel_rfl)) (fun _ _ _ h => h) (Or.inl ⟨by rfl, ?_⟩) ?_ ?_
                                  rotate_left
                                  · intro w'
                                    go_simp
                                    with_reducible rfl
                                  rotate_left
                                  · simp only [Act.put, List.setIfInBounds_toArray, List.set_cons_zero, List.set_cons_succ, i64_w, i32_w]
                                    rfl
                                  refine pure_ (i := 11) (N := some 85) (v := ?_) (a' := ?_) #[false, true, true, true, false, true, true, true, false, true, false, true, false, false, false, false, false, false, false] rfl rfl (any_of HT_.out (by kernel_rfl)) (fun _ _ _ h => h) (Or.inl ⟨by rfl, ?_⟩) ?_ ?_
                                  rotate_left
                                  · intro w'
                                    go_simp
                                    with_reducible rfl
                                  rotate_left
                                  · simp only [Act.put, List.setIfInBounds_toArray, List.set_cons_zero, List.set_cons_succ, i64_w, i32_w]
                                    rfl
                                  refine take_ (i := 12) (N := some 86) (v := ?_) (a' := ?_) #[false, true, true, true, false, true, true, true, false, true, false, true, true, false, false, false, false, false, false] rfl rfl (take_ofW HT_.out HW_.out (by kernel_rfl)) (fun _ _ _ h => h) (Or.inl ⟨by rfl, ?_⟩) hHeld ?_ ?_
                                  rotate_left
                                  · rintro w' ⟨s0, s1, s2, s3⟩
                                    go_simp
                                    with_reducible rfl
                                  rotate_left
                                  · simp only [Act.put, List.setIfInBounds_toArray, List.set_cons_zero, List.set_cons_succ, i64_w, i32_w]
                                    rfl
                                  refine one_ (i := 0) (N := some 74) #[true, true, true, true, false, true, true, true, false, true, false, true, true, false, false, false, false, false, false] rfl rfl (one_of HT_.out (by kernel_rfl)) (by decide) (fun K hK => ?_)
                                  refine Kd.R_lit_step Kd.string _ 9 ?hg (N := 74) ?hd (xs := ([] : List ByteArray)) (inner := []) (ok := fun _ => True) (okp := fun _ => True) ?hr ?hp (fun _ hk => hk) trivial (Below.refl _ _) (Nat.le_refl _) (by simp) ?_; (case hd => rfl); (case hg => rfl); (case hr => first | (go_simp; done) | (go_simp; rfl)); (case hp => exact (Reps.none _ _))
                                  intro v325 w62 ho63 hb hg_ hnew_
                                  clear hg_ hnew_
                                  (first | rw [← Ny324.out] at ho63 | (simp only [Int.reduceToNat] at ho63; rw [← Ny324.out] at ho63))
                                  have n0_ := Aside0.mk (Kd.R_elder' (by (with_reducible repeat (first | apply Kd.R_alloc | apply Kd.R_drewN | apply Kd.R_drew)); exact HO_9.out) (Kd.R_base ho63) hb)
                                  have n1_ := Aside0.mk (Kd.R_lower (Kd.R_new' ho63 (Kd.R_lt (by (with_reducible repeat (first | apply Kd.R_alloc | apply Kd.R_drewN | apply Kd.R_drew)); exact HO_9.out))) (below_size (by repeat (first | (with_reducible first | exact HB.out | apply below_alloc | apply pw_below_drewN | apply below_drew1 | refine below_set ?_ GE316.out) | exact HB.out))))
                                  have n2_ := Aside0.mk (blk_below (g := gb316) (o := .cells #[.int .i64 t317, .int .i64 t313, .int .i64 t314, .string t315] 33 (0, 0)) (by (with_reducible repeat (first | refine blk_drewN ?_ _ | refine blk_drew ?_ | refine blk_alloc ?_ _)); exact BK316.out) hb)
                                  have n3_ := Aside0.mk (Kd.C_below (by repeat (first | (with_reducible exact HR330.out) | (with_reducible refine Kd.C_alloc ?_ _) | (with_reducible refine Kd.C_drewN ?_ _) | (with_reducible refine Kd.C_drew ?_) | exact HR330.out)) hb)
                                  have n4_ := Aside0.mk (Kd.C_below (by repeat (first | (with_reducible exact HR337.out) | (with_reducible refine Kd.C_alloc ?_ _) | (with_reducible refine Kd.C_drewN ?_ _) | (with_reducible refine Kd.C_drew ?_) | exact HR337.out)) hb)
                                  have n5_ := Aside0.mk (below_step (by repeat (first | (with_reducible first | exact HB.out | apply below_alloc | apply pw_below_drewN | apply below_drew1 | refine below_set ?_ GE316.out) | exact HB.out)) hb)
                                  clear HO_9
                                  clear BK316
                                  clear HR330
                                  clear HR337
                                  clear HB
                                  have HO_9 := n0_
                                  have HO326 := n1_
                                  have BK316 := n2_
                                  have HR330 := n3_
                                  have HR337 := n4_
                                  have HB := n5_
                                  clear n0_ n1_ n2_ n3_ n4_ n5_
                                  clear hb ho63
                                  refine hK.out _ _ ⟨(blk_cell BK316.out 0).trans rfl, (blk_cell BK316.out 1).trans rfl, (blk_cell BK316.out 2).trans rfl, (blk_cell BK316.out 3).trans rfl⟩ (fun hHeld => ?_)
                                  clear hK K
                                  refine norm_ (a' := ?_) ?_ ?_
                                  rotate_left
                                  · show Act.put _ (some 74) _ = _
                                    simp only [Act.put, List.setIfInBounds_toArray, List.set_cons_zero, List.set_cons_succ, i64_w, i32_w]
                                    rfl
                                  refine one_ (i := 4) (N := some 78) #[true, true, true, true, true, true, true, true, false, true, false, true, true, false, false, false, false, false, false] rfl rfl (one_of HT_.out (by kernel_rfl)) (by decide) (fun K hK => ?_)
                                  refine Kd.R_append_rows_step Kd.string (w0 := w) w.heap.size (by rfl) (.tmp 74) (.tmp 77) 26 9 (.string ⟨#[]⟩) 16 rfl Try.underlying26 info9 rfl (by decide) (by omega) v325 y324 y327 _ _ _ (fun k_ => some k_ ≠ (.slice Ao22 x9_1.length co22 : Value).ownBlock) (fun _ => False) rfl rfl ?aO ?aR (fun _ _ h => h) (fun _ h => h.elim) ?aF ?aB ?aS ?aL ?_
                                  (case aR => repeat (first | exact (by repeat (first | (with_reducible exact HR330.out) | (with_reducible refine Kd.C_alloc ?_ _) | (with_reducible refine Kd.C_drewN ?_ _) | (with_reducible refine Kd.C_drew ?_) | exact HR330.out)) | (with_reducible refine Kd.C_alloc ?_ _) | (with_reducible refine Kd.C_drewN ?_ _) | (with_reducible refine Kd.C_drew ?_)))
                                  (case aB => exact (by repeat (first | (with_reducible first | exact HB.out | apply below_alloc | apply pw_below_drewN | apply below_drew1 | refine below_set ?_ GE316.out) | exact HB.out)))
                                  (case aF => exact (fun k_ hk => Kd.fresh' (Kd.R_lt (by (with_reducible repeat (first | apply Kd.R_alloc | apply Kd.R_drewN | apply Kd.R_drew)); exact HO_9.out)) k_ hk))
                                  (case aO => exact (by (with_reducible repeat (first | apply Kd.R_alloc | apply Kd.R_drewN | apply Kd.R_drew)); exact Kd.R_mono HO326.out (fun _ hk => hk.2)))
                                  (case aS => exact (below_size (by repeat (first | (with_reducible first | exact HB.out | apply below_alloc | apply pw_below_drewN | apply below_drew1 | refine below_set ?_ GE316.out) | exact HB.out))))
                                  (case aL => have := LMc38.out; omega)
                                  intro v332 w64 ho hb hg hat
                                  rw [← Ny331.out] at ho
                                  have n0_ := Aside0.mk (Kd.R_after (ok := (fun _ => True)) (by (with_reducible repeat (first | apply Kd.R_alloc | apply Kd.R_drewN | apply Kd.R_drew)); exact HO_9.out) hg hat)
                                  have n1_ := Aside0.mk (blk_grown (g := gb316) (o := .cells #[.int .i64 t317, .int .i64 t313, .int .i64 t314, .string t315] 33 (0, 0)) (by (with_reducible repeat (first | refine blk_drewN ?_ _ | refine blk_drew ?_ | refine blk_alloc ?_ _)); exact BK316.out) hg (Kd.R_ne HO326.out BK316.out (by decide)))
                                  have n2_ := Aside0.mk (hb)
                                  have n3_ := Aside0.mk ((show Kd.C Kd.string w64 A60 y327.length y327 from by rw [Ny327.out, KA60.out]; exact Kd.C_drop (m := (t311 : Int).toNat) (c := co22) ((Kd.R_reads' (Kd.R_after (ok := (fun _ => True)) (by (with_reducible repeat (first | apply Kd.R_alloc | apply Kd.R_drewN | apply Kd.R_drew)); exact HO_9.out) hg hat)).2.2) KL60.out ((Kd.R_reads' (Kd.R_after (ok := (fun _ => True)) (by (with_reducible repeat (first | apply Kd.R_alloc | apply Kd.R_drewN | apply Kd.R_drew)); exact HO_9.out) hg hat)).2.1)))
                                  have n4_ := Aside0.mk ((show Kd.C Kd.string w64 Ao22 y334.length y334 from by rw [Ny334.out]; exact Kd.C_take (m := (t311 : Int).toNat) ((Kd.R_reads' (Kd.R_after (ok := (fun _ => True)) (by (with_reducible repeat (first | apply Kd.R_alloc | apply Kd.R_drewN | apply Kd.R_drew)); exact HO_9.out) hg hat)).2.2) KL61.out))
                                  have n5_ := Aside0.mk (ho)
                                  clear HO_9
                                  clear BK316
                                  clear HB
                                  clear HR330
                                  clear HR337
                                  clear HO326
                                  have HO_9 := n0_
                                  have BK316 := n1_
                                  have HB := n2_
                                  have HR330 := n3_
                                  have HR337 := n4_
                                  have HO333 := n5_
                                  clear n0_ n1_ n2_ n3_ n4_ n5_
                                  clear ho hb hg hat
                                  refine hK.out _ _ ⟨(blk_cell BK316.out 0).trans rfl, (blk_cell BK316.out 1).trans rfl, (blk_cell BK316.out 2).trans rfl, (blk_cell BK316.out 3).trans rfl⟩ (fun hHeld => ?_)
                                  clear hK K
                                  refine norm_ (a' := ?_) ?_ ?_
                                  rotate_left
                                  · show Act.put _ (some 78) _ = _
                                    simp only [Act.put, List.setIfInBounds_toArray, List.set_cons_zero, List.set_cons_succ, i64_w, i32_w]
                                    rfl
                                  refine one_ (i := 8) (N := some 82) #[true, true, true, true, true, true, true, true, true, true, false, true, true, false, false, false, false, false, false] rfl rfl (one_of HT_.out (by kernel_rfl)) (by decide) (fun K hK => ?_)
                                  refine Kd.R_append_rows_step Kd.string (w0 := w) w.heap.size (by rfl) (.tmp 78) (.tmp 81) 26 9 (.string ⟨#[]⟩) 16 rfl Try.underlying26 info9 rfl (by decide) (by omega) v332 y331 y334 _ _ _ (fun k_ => some k_ ≠ (.slice Ao22 x9_1.length co22 : Value).ownBlock) (fun _ => False) rfl rfl ?aO ?aR (fun _ _ h => h) (fun _ h => h.elim) ?aF ?aB ?aS ?aL ?_
                                  (case aR => repeat (first | exact (by repeat (first | (with_reducible exact HR337.out) | (with_reducible refine Kd.C_alloc ?_ _) | (with_reducible refine Kd.C_drewN ?_ _) | (with_reducible refine Kd.C_drew ?_) | exact HR337.out)) | (with_reducible refine Kd.C_alloc ?_ _) | (with_reducible refine Kd.C_drewN ?_ _) | (with_reducible refine Kd.C_drew ?_)))
                                  (case aB => exact (by repeat (first | (with_reducible first | exact HB.out | apply below_alloc | apply pw_below_drewN | apply below_drew1 | refine below_set ?_ GE316.out) | exact HB.out)))
                                  (case aF => exact (fun k_ hk => Kd.fresh' (Kd.R_lt (by (with_reducible repeat (first | apply Kd.R_alloc | apply Kd.R_drewN | apply Kd.R_drew)); exact HO_9.out)) k_ hk))
                                  (case aO => exact (by (with_reducible repeat (first | apply Kd.R_alloc | apply Kd.R_drewN | apply Kd.R_drew)); exact HO333.out))
                                  (case aS => exact (below_size (by repeat (first | (with_reducible first | exact HB.out | apply below_alloc | apply pw_below_drewN | apply below_drew1 | refine below_set ?_ GE316.out) | exact HB.out))))
                                  (case aL => have := LMc41.out; omega)
                                  intro v339 w65 ho hb hg hat
                                  rw [← Ny338.out] at ho
                                  have n0_ := Aside0.mk (Kd.R_after (ok := (fun _ => True)) (by (with_reducible repeat (first | apply Kd.R_alloc | apply Kd.R_drewN | apply Kd.R_drew)); exact HO_9.out) hg hat)
                                  have n1_ := Aside0.mk (blk_grown (g := gb316) (o := .cells #[.int .i64 t317, .int .i64 t313, .int .i64 t314, .string t315] 33 (0, 0)) (by (with_reducible repeat (first | refine blk_drewN ?_ _ | refine blk_drew ?_ | refine blk_alloc ?_ _)); exact BK316.out) hg (Kd.R_ne HO333.out BK316.out (by decide)))
                                  have n2_ := Aside0.mk (hb)
                                  have n3_ := Aside0.mk ((show Kd.C Kd.string w65 A60 y327.length y327 from by rw [Ny327.out, KA60.out]; exact Kd.C_drop (m := (t311 : Int).toNat) (c := co22) ((Kd.R_reads' (Kd.R_after (ok := (fun _ => True)) (by (with_reducible repeat (first | apply Kd.R_alloc | apply Kd.R_drewN | apply Kd.R_drew)); exact HO_9.out) hg hat)).2.2) KL60.out ((Kd.R_reads' (Kd.R_after (ok := (fun _ => True)) (by (with_reducible repeat (first | apply Kd.R_alloc | apply Kd.R_drewN | apply Kd.R_drew)); exact HO_9.out) hg hat)).2.1)))
                                  have n4_ := Aside0.mk ((show Kd.C Kd.string w65 Ao22 y334.length y334 from by rw [Ny334.out]; exact Kd.C_take (m := (t311 : Int).toNat) ((Kd.R_reads' (Kd.R_after (ok := (fun _ => True)) (by (with_reducible repeat (first | apply Kd.R_alloc | apply Kd.R_drewN | apply Kd.R_drew)); exact HO_9.out) hg hat)).2.2) KL61.out))
                                  have n5_ := Aside0.mk (ho)
                                  clear HO_9
                                  clear BK316
                                  clear HB
                                  clear HR330
                                  clear HR337
                                  clear HO333
                                  have HO_9 := n0_
                                  have BK316 := n1_
                                  have HB := n2_
                                  have HR330 := n3_
                                  have HR337 := n4_
                                  have HO340 := n5_
                                  clear n0_ n1_ n2_ n3_ n4_ n5_
                                  clear ho hb hg hat
                                  refine hK.out _ _ ⟨(blk_cell BK316.out 0).trans rfl, (blk_cell BK316.out 1).trans rfl, (blk_cell BK316.out 2).trans rfl, (blk_cell BK316.out 3).trans rfl⟩ (fun hHeld => ?_)
                                  clear hK K
                                  refine norm_ (a' := ?_) ?_ ?_
                                  rotate_left
                                  · show Act.put _ (some 82) _ = _
                                    simp only [Act.put, List.setIfInBounds_toArray, List.set_cons_zero, List.set_cons_succ, i64_w, i32_w]
                                    rfl
                                  refine one_ (i := 10) (N := some 84) #[true, true, true, true, true, true, true, true, true, true, true, true, true, false, false, false, false, false, false] rfl rfl (one_of HT_.out (by kernel_rfl)) (by decide) (fun K hK => ?_)
                                  refine Kd.R_append_rows_step Kd.string (w0 := w) w.heap.size (by rfl) (.tmp 82) (.tmp 83) 26 9 (.string ⟨#[]⟩) 16 rfl Try.underlying26 info9 rfl (by decide) (by omega) v339 y338 x9_1 _ _ _ (fun k_ => some k_ ≠ (.slice Ao22 x9_1.length co22 : Value).ownBlock) (fun _ => False) rfl rfl ?aO ?aR (fun _ _ h => h) (fun _ h => h.elim) ?aF ?aB ?aS ?aL ?_
                                  (case aR => repeat (first | exact (Kd.R_reads' HO_9.out).2.2 | (with_reducible refine Kd.C_alloc ?_ _) | (with_reducible refine Kd.C_drewN ?_ _) | (with_reducible refine Kd.C_drew ?_)))
                                  (case aB => exact (by repeat (first | (with_reducible first | exact HB.out | apply below_alloc | apply pw_below_drewN | apply below_drew1 | refine below_set ?_ GE316.out) | exact HB.out)))
                                  (case aF => exact (fun k_ hk => Kd.fresh' (Kd.R_lt (by (with_reducible repeat (first | apply Kd.R_alloc | apply Kd.R_drewN | apply Kd.R_drew)); exact HO_9.out)) k_ hk))
                                  (case aO => exact (by (with_reducible repeat (first | apply Kd.R_alloc | apply Kd.R_drewN | apply Kd.R_drew)); exact HO340.out))
                                  (case aS => exact (below_size (by repeat (first | (with_reducible first | exact HB.out | apply below_alloc | apply pw_below_drewN | apply below_drew1 | refine below_set ?_ GE316.out) | exact HB.out))))
                                  (case aL => have := LMc42.out; omega)
                                  intro v342 w66 ho hb hg hat
                                  rw [← Ny341.out] at ho
                                  have n0_ := Aside0.mk (Kd.R_after (ok := (fun _ => True)) (by (with_reducible repeat (first | apply Kd.R_alloc | apply Kd.R_drewN | apply Kd.R_drew)); exact HO_9.out) hg hat)
                                  have n1_ := Aside0.mk (blk_grown (g := gb316) (o := .cells #[.int .i64 t317, .int .i64 t313, .int .i64 t314, .string t315] 33 (0, 0)) (by (with_reducible repeat (first | refine blk_drewN ?_ _ | refine blk_drew ?_ | refine blk_alloc ?_ _)); exact BK316.out) hg (Kd.R_ne HO340.out BK316.out (by decide)))
                                  have n2_ := Aside0.mk (hb)
                                  have n3_ := Aside0.mk ((show Kd.C Kd.string w66 A60 y327.length y327 from by rw [Ny327.out, KA60.out]; exact Kd.C_drop (m := (t311 : Int).toNat) (c := co22) ((Kd.R_reads' (Kd.R_after (ok := (fun _ => True)) (by (with_reducible repeat (first | apply Kd.R_alloc | apply Kd.R_drewN | apply Kd.R_drew)); exact HO_9.out) hg hat)).2.2) KL60.out ((Kd.R_reads' (Kd.R_after (ok := (fun _ => True)) (by (with_reducible repeat (first | apply Kd.R_alloc | apply Kd.R_drewN | apply Kd.R_drew)); exact HO_9.out) hg hat)).2.1)))
                                  have n4_ := Aside0.mk ((show Kd.C Kd.string w66 Ao22 y334.length y334 from by rw [Ny334.out]; exact Kd.C_take (m := (t311 : Int).toNat) ((Kd.R_reads' (Kd.R_after (ok := (fun _ => True)) (by (with_reducible repeat (first | apply Kd.R_alloc | apply Kd.R_drewN | apply Kd.R_drew)); exact HO_9.out) hg hat)).2.2) KL61.out))
                                  have n5_ := Aside0.mk (ho)
                                  clear HO_9
                                  clear BK316
                                  clear HB
                                  clear HR330
                                  clear HR337
                                  clear HO340
                                  have HO_9 := n0_
                                  have BK316 := n1_
                                  have HB := n2_
                                  have HR330 := n3_
                                  have HR337 := n4_
                                  have HO343 := n5_
                                  clear n0_ n1_ n2_ n3_ n4_ n5_
                                  clear ho hb hg hat
                                  obtain ⟨Ao67, co67, eo67⟩ := Kd.R_slice HO343.out
                                  (first | subst eo67 | (injection eo67 with f1_ f2_ f3_; have f4_ := f1_.symm; have f5_ := f3_.symm; clear f1_ f2_ f3_; subst f4_; subst f5_))
                                  refine hK.out _ _ ⟨(blk_cell BK316.out 0).trans rfl, (blk_cell BK316.out 1).trans rfl, (blk_cell BK316.out 2).trans rfl, (blk_cell BK316.out 3).trans rfl⟩ (fun hHeld => ?_)
                                  clear hK K
                                  refine norm_ (a' := ?_) ?_ ?_
                                  rotate_left
                                  · show Act.put _ (some 84) _ = _
                                    simp only [Act.put, List.setIfInBounds_toArray, List.set_cons_zero, List.set_cons_succ, i64_w, i32_w]
                                    rfl
                                  refine one_ (i := 13) (N := some 87) #[true, true, true, true, true, true, true, true, true, true, true, true, true, true, false, false, false, false, false] rfl rfl (one_of HT_.out (by kernel_rfl)) (by decide) (fun K hK => ?_)
                                  refine goes_ Try.func25 (by kernel_rfl) rfl #[.slice Ao67 y341.length co67, .string x13_28, .agg #[.int .i64 t317, .int .i64 t313, .int .i64 t314, .string t315]] (by rfl) rfl rfl (by (try simp only [List.map_toArray, List.map_cons, List.map_nil]); first | done | rfl | (simp only [List.length_drop, List.length_take]; rfl)) ?_
                                  with_reducible refine (path_Find.calls kj28 _ _ y341 x13_28 t317 t313 t314 t315 t344 t345 _ ?side1 ?side2 A43.out).mono ?_
                                  (case side1 => repeat (first | exact (Kd.R_reads' HO343.out).2.2 | (with_reducible refine Kd.C_alloc ?_ _) | (with_reducible refine Kd.C_drewN ?_ _) | (with_reducible refine Kd.C_drew ?_)))
                                  (case side2 => exact (Kd.R_reads' HO343.out).2.1)
                                  rintro e w68 ⟨rfl, hb⟩
                                  refine ⟨_, rfl, ?_⟩
                                  have n0_ := Aside0.mk (Kd.R_below (by (with_reducible repeat (first | apply Kd.R_alloc | apply Kd.R_drewN | apply Kd.R_drew)); exact HO_9.out) hb)
                                  have n1_ := Aside0.mk (Kd.R_below (by (with_reducible repeat (first | apply Kd.R_alloc | apply Kd.R_drewN | apply Kd.R_drew)); exact HO343.out) hb)
                                  have n2_ := Aside0.mk (blk_below (g := gb316) (o := .cells #[.int .i64 t317, .int .i64 t313, .int .i64 t314, .string t315] 33 (0, 0)) (by (with_reducible repeat (first | refine blk_drewN ?_ _ | refine blk_drew ?_ | refine blk_alloc ?_ _)); exact BK316.out) hb)
                                  have n3_ := Aside0.mk (Kd.C_below (by repeat (first | (with_reducible exact HR330.out) | (with_reducible refine Kd.C_alloc ?_ _) | (with_reducible refine Kd.C_drewN ?_ _) | (with_reducible refine Kd.C_drew ?_) | exact HR330.out)) hb)
                                  have n4_ := Aside0.mk (Kd.C_below (by repeat (first | (with_reducible exact HR337.out) | (with_reducible refine Kd.C_alloc ?_ _) | (with_reducible refine Kd.C_drewN ?_ _) | (with_reducible refine Kd.C_drew ?_) | exact HR337.out)) hb)
                                  have n5_ := Aside0.mk (below_step (by repeat (first | (with_reducible first | exact HB.out | apply below_alloc | apply pw_below_drewN | apply below_drew1 | refine below_set ?_ GE316.out) | exact HB.out)) hb)
                                  clear HO_9
                                  clear HO343
                                  clear BK316
                                  clear HR330
                                  clear HR337
                                  clear HB
                                  have HO_9 := n0_
                                  have HO343 := n1_
                                  have BK316 := n2_
                                  have HR330 := n3_
                                  have HR337 := n4_
                                  have HB := n5_
                                  clear n0_ n1_ n2_ n3_ n4_ n5_
                                  (try clear hb)
                                  (try clear hb2)
                                  (try clear hk)
                                  (try clear hi)
                                  refine hK.out _ _ ⟨(blk_cell BK316.out 0).trans rfl, (blk_cell BK316.out 1).trans rfl, (blk_cell BK316.out 2).trans rfl, (blk_cell BK316.out 3).trans rfl⟩ (fun hHeld => ?_)
                                  clear hK K
                                  refine norm_ (a' := ?_) ?_ ?_
                                  rotate_left
                                  · show Act.put _ (some 87) _ = _
                                    simp only [Act.put, List.setIfInBounds_toArray, List.set_cons_zero, List.set_cons_succ, i64_w, i32_w]
                                    rfl
                                  refine pure_ (i := 14) (N := some 73) (v := ?_) (a' := ?_) #[true, true, true, true, true, true, true, true, true, true, true, true, true, true, true, false, false, false, false] rfl rfl (any_of HT_.out (by kernel_rfl)) (fun _ _ _ h => h) (Or.inl ⟨by rfl, ?_⟩) ?_ ?_
                                  rotate_left
                                  · intro w'
                                    go_simp
                                    with_reducible rfl
                                  rotate_left
                                  · simp only [Act.put, List.setIfInBounds_toArray, List.set_cons_zero, List.set_cons_succ, i64_w, i32_w]
                                    rfl
                                  refine pure_ (i := 15) (N := some 88) (v := ?_) (a' := ?_) #[true, true, true, true, true, true, true, true, true, true, true, true, true, true, true, true, false, false, false] rfl rfl (any_of HT_.out (by kernel_rfl)) (fun _ _ _ h => h) (Or.inl ⟨by rfl, ?_⟩) ?_ ?_
                                  rotate_left
                                  · intro w'
                                    go_simp
                                    with_reducible rfl
                                  rotate_left
                                  · simp only [Act.put, List.setIfInBounds_toArray, List.set_cons_zero, List.set_cons_succ, i64_w, i32_w]
                                    rfl
                                  refine pure_ (i := 16) (N := some 89) (v := ?_) (a' := ?_) #[true, true, true, true, true, true, true, true, true, true, true, true, true, true, true, true, true, false, false] rfl rfl (any_of HT_.out (by kernel_rfl)) (fun _ _ _ h => h) (Or.inl ⟨by rfl, ?_⟩) ?_ ?_
                                  rotate_left
                                  · intro w'
                                    go_simp
                                    with_reducible rfl
                                  rotate_left
                                  · simp only [Act.put, List.setIfInBounds_toArray, List.set_cons_zero, List.set_cons_succ, i64_w, i32_w]
                                    rfl
                                  refine pure_ (i := 17) (N := some 16) (v := ?_) (a' := ?_) #[true, true, true, true, true, true, true, true, true, true, true, true, true, true, true, true, true, true, false] rfl rfl (any_of HT_.out (by kernel_rfl)) (fun _ _ _ h => h) (Or.inl ⟨by rfl, ?_⟩) ?_ ?_
                                  rotate_left
                                  · intro w'
                                    go_simp
                                    with_reducible rfl
                                  rotate_left
                                  · simp only [Act.put, List.setIfInBounds_toArray, List.set_cons_zero, List.set_cons_succ, i64_w, i32_w]
                                    rfl
                                  refine pure_ (i := 18) (N := some 17) (v := ?_) (a' := ?_) #[true, true, true, true, true, true, true, true, true, true, true, true, true, true, true, true, true, true, true] rfl rfl (any_of HT_.out (by kernel_rfl)) (fun _ _ _ h => h) (Or.inl ⟨by rfl, ?_⟩) ?_ ?_
                                  rotate_left
                                  · intro w'
                                    go_simp
                                    with_reducible rfl
                                  rotate_left
                                  · simp only [Act.put, List.setIfInBounds_toArray, List.set_cons_zero, List.set_cons_succ, i64_w, i32_w]
                                    rfl
                                  refine done_ (done_of HT_.out (by kernel_rfl)) ?_
                                  try go_wp2
                                  go_ret
                                  exact ⟨by first | rfl | (simp [errW_none, errW_some] <;> rfl) | (simp [*, errW_none, errW_some] <;> rfl), by repeat (first | (with_reducible first | exact HB.out | apply below_alloc | apply pw_below_drewN | apply below_drew1 | refine below_set ?_ GE316.out) | exact HB.out)⟩
                              · rw [if_neg c42] at H
                                exact absurd H (by simp)
                            · rw [if_neg c41] at H
                              exact absurd H (by simp)
                          · rw [if_neg c38] at H
                            exact absurd H (by simp)
                        · rw [if_neg c37] at H
                          exact absurd H (by simp)
                      · rw [if_neg c36] at H
                        exact absurd H (by simp)
  · replace c6 := Bool.eq_false_iff.mpr c6
    subst c6
    have H1 : (some false) = some r := by rw [if_neg (show ¬ (false = true) by decide)] at H; exact H
    clear H
    have H := H1
    clear H1
    obtain rfl := Option.some.inj H
    go_enter Try.func10, Try.ntmps10
    go_wp2_with (first | ((with_reducible refine gate_callee (f := 12) rfl ?_); refine goesL_ (some 18) rfl rfl Try.func12 (by kernel_rfl) rfl #[] rfl (by (try simp only [List.map_toArray, List.map_cons, List.map_nil]); first | done | rfl | (simp only [List.length_drop, List.length_take]; rfl)) ?_; (with_reducible refine (transhumancelaw4_known.calls k  false _ A5.out).mono ?_); rintro e w69 ⟨rfl, hb⟩; refine ⟨_, rfl, ?_⟩; have n0_ := Aside0.mk (below_step (by repeat (first | (with_reducible first | exact HB.out | apply below_alloc | apply pw_below_drewN | apply below_drew1) | exact HB.out)) hb); clear HB; have HB := n0_; clear n0_; (try clear hb); (try clear hb2); (try clear hk); (try clear hi)))
    go_ret
    exact ⟨by first | rfl | (simp [errW_none, errW_some] <;> rfl) | (simp [*, errW_none, errW_some] <;> rfl), by repeat (first | (with_reducible first | exact HB.out | apply below_alloc | apply pw_below_drewN | apply below_drew1) | exact HB.out)⟩

/-- THE ONE PURE STATEMENT of transhumancelaw4_PathOrder: yours. -/
def transhumancelaw4_PathOrder.Pure : Prop := ∀ (l0 : List Int) (a1 : Int) (a2 : Int) (a3 : Int), l0.length ≤ maxLen → l0.length * 8 ≤ 140737488351232 → (∀ x ∈ l0, (Lit.int .i64 x).wf = true) → (Lit.int .i64 a1).wf = true → (Lit.int .i64 a2).wf = true → (Lit.int .i64 a3).wf = true → ∃ k, transhumancelaw4_PathOrder.f k l0 a1 a2 a3 = some true
theorem transhumancelaw4_PathOrder.walk (P : transhumancelaw4_PathOrder.Pure) (a0 : Option Addr) (len0 cap0 : Nat) (z0 : List Int) (a1 : Int) (a2 : Int) (a3 : Int) (w : World) (w0 : (a0 = none ∧ len0 = 0 ∧ cap0 = 0 ∧ z0 = []) ∨ ∃ x, a0 = some x ∧ len0 ≤ cap0 ∧ cap0 ≤ maxLen ∧ z0.length = cap0 ∧ (∀ i, i < z0.length → w.cell? (x.add i) = some (.int .i64 (z0.getD i 0))) ∧ ∀ n ∈ z0, (Lit.int .i64 n).wf = true) (y0 : len0 * 8 ≤ 140737488351232) (w1 : (Lit.int .i64 a1).wf = true) (w2 : (Lit.int .i64 a2).wf = true) (w3 : (Lit.int .i64 a3).wf = true) :
    Calls Try.prog 10 #[.slice a0 len0 cap0, .int .i64 a1, .int .i64 a2, .int .i64 a3] w fun e w' => e = .returned (.bool true) ∧ Below w.heap.size w w' := by
  obtain ⟨l0, rfl, hr0, hm0, hw0, hc0⟩ := ReadsInt.ofRowC w0
  obtain ⟨k, h⟩ := P l0 a1 a2 a3 hm0 y0 hw0 w1 w2 w3
  refine (transhumancelaw4_PathOrder.calls k _ _ l0 a1 a2 a3 true w (Kd.C_of_reads (d := (0 : Int)) (h1 := fun _ => rfl) hr0) hc0 h).mono ?_
  rintro e w' ⟨rfl, hd⟩
  exact ⟨rfl, hd⟩

end Go.Proofs.Ytelommablohfoaa.X
