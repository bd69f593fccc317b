-- Laid by this session's own program (wip/xprint.py). Not trusted: Lean checks it.
import Derived.Test.YtelommablohfoaaXx0
import Derived.Test.YtelommablohfoaaXx3
import Derived.Test.YtelommablohfoaaXx5
import Derived.Test.YtelommablohfoaaXx11
namespace Go.Proofs.Ytelommablohfoaa.X
open Go.RowKit Go.Proofs.YtelommablohfoaaW.PrintWords Go.Proofs.YtelommablohfoaaW.PrintLast Go.Proofs.YtelommablohfoaaW.PrintMore
attribute [local go_sem] max2_int min2_int max_two min_two max_three min_three max_four min_four   -- for this text's walks alone
set_option linter.unusedVariables false
set_option linter.unusedSimpArgs false

/-! ### transhumancelaw4_PathWithin: function 6 -/
def transhumancelaw4_PathWithin.j0 : Nat → Int → Int → ByteArray → ByteArray → Bool → Option (Bool)
  | 0, _, _, _, _, _ => none
  | k + 1, x0, x1, x2, x3, x20 => if x20 = true then (some true) else ((transhumancelaw4_Make.f k x0).bind fun t222 => ((transhumancelaw4_Make.f k x1).bind fun t223 => ((path_Within.f x2 x3).bind fun t224 => ((transhumanceref4_Within.f x2 x3).bind fun t225 => (if (t224 == t225) = true then ((path_Within.f t222 t223).bind fun t226 => ((transhumanceref4_Within.f t222 t223).bind fun t227 => (if (t226 == t227) = true then (if t222.size + 1 ≤ 9223372036854775807 then (if t222.size + 1 + t223.size ≤ 9223372036854775807 then ((path_Within.f ((t222 ++ (⟨#[47]⟩ : ByteArray)) ++ t223) t222).bind fun t228 => (if t228 = true then ((path_Within.f t222 t222).bind fun t229 => (if t229 = true then ((path_Within.f t222 ((t222 ++ (⟨#[47]⟩ : ByteArray)) ++ t223)).bind fun t230 => (if t230 = true then (some false) else ((path_Within.f (t222 ++ (⟨#[120]⟩ : ByteArray)) t222).bind fun t231 => (some (!t231))))) else (some false))) else (some false))) else (none)) else (none)) else (some false)))) else (some false))))))
def transhumancelaw4_PathWithin.f (k : Nat) (a0 : Int) (a1 : Int) (a2 : ByteArray) (a3 : ByteArray) : Option (Bool) := (transhumancelaw4_known.f k).bind fun t221 => (if t221 = true then (if (a2.size : Int) > 60 then (transhumancelaw4_PathWithin.j0 k a0 a1 a2 a3 true) else (transhumancelaw4_PathWithin.j0 k a0 a1 a2 a3 (decide ((a3.size : Int) > 60)))) else (some false))
theorem transhumancelaw4_PathWithin.mono_l : ∀ k, (∀ y0 y1 y2 y3 y4, LeO (transhumancelaw4_PathWithin.j0 k y0 y1 y2 y3 y4) (transhumancelaw4_PathWithin.j0 (k + 1) y0 y1 y2 y3 y4))
  | 0 => fun _ _ _ _ _ r h => by simp [transhumancelaw4_PathWithin.j0] at h
  | k + 1 => by
    have ih0 := transhumancelaw4_PathWithin.mono_l k
    · intro y0 y1 y2 y3 y4
      unfold transhumancelaw4_PathWithin.j0
      repeat' first
      | (with_reducible exact ih0 _ _ _ _ _)
      | (with_reducible exact transhumancelaw4_Make.mono _ _)
      | (with_reducible exact transhumancelaw4_known.mono _)
      | (with_reducible exact LeO.refl _)
      | (with_reducible exact LeO.none _)
      | (with_reducible refine LeO.ite ?_ ?_)
      | (with_reducible refine LeO.bind ?_ (fun _ => ?_))
      | exact ih0 _ _ _ _ _
      | exact transhumancelaw4_Make.mono _ _
      | exact transhumancelaw4_known.mono _
      | exact LeO.none _
      | refine LeO.ite ?_ ?_
      | refine LeO.bind ?_ (fun _ => ?_)
theorem transhumancelaw4_PathWithin.mono : ∀ a0 a1 a2 a3 k, LeO (transhumancelaw4_PathWithin.f k a0 a1 a2 a3) (transhumancelaw4_PathWithin.f (k + 1) a0 a1 a2 a3) := by
  intro a0 a1 a2 a3 k
  have ih0 := transhumancelaw4_PathWithin.mono_l k
  unfold transhumancelaw4_PathWithin.f
  repeat' first
      | (with_reducible exact ih0 _ _ _ _ _)
      | (with_reducible exact transhumancelaw4_Make.mono _ _)
      | (with_reducible exact transhumancelaw4_known.mono _)
      | (with_reducible exact LeO.refl _)
      | (with_reducible exact LeO.none _)
      | (with_reducible refine LeO.ite ?_ ?_)
      | (with_reducible refine LeO.bind ?_ (fun _ => ?_))
      | exact ih0 _ _ _ _ _
      | exact transhumancelaw4_Make.mono _ _
      | exact transhumancelaw4_known.mono _
      | exact LeO.none _
      | refine LeO.ite ?_ ?_
      | refine LeO.bind ?_ (fun _ => ?_)
set_option maxHeartbeats 8000000 in
set_option maxRecDepth 100000 in
theorem transhumancelaw4_PathWithin.calls (k : Nat) (a0 : Int) (a1 : Int) (a2 : ByteArray) (a3 : ByteArray) (r : Bool) (w : World) (h : transhumancelaw4_PathWithin.f k a0 a1 a2 a3 = some r) :
    Calls Try.prog 6 #[.int .i64 a0, .int .i64 a1, .string a2, .string a3] w fun e w' => e = .returned (.bool r) ∧ Below w.heap.size w w' := by
  have HB := Aside0.mk (Below.refl w.heap.size w)
  have H : ((transhumancelaw4_known.f k).bind fun t221 => (if t221 = true then (if (a2.size : Int) > 60 then (transhumancelaw4_PathWithin.j0 k a0 a1 a2 a3 true) else (transhumancelaw4_PathWithin.j0 k a0 a1 a2 a3 (decide ((a3.size : Int) > 60)))) else (some false))) = some r := h
  clear h
  replace H := Option.bind_eq_some_iff.mp H
  obtain ⟨t221, A50, H⟩ := H
  replace H : (if t221 = true then (if (a2.size : Int) > 60 then (transhumancelaw4_PathWithin.j0 k a0 a1 a2 a3 true) else (transhumancelaw4_PathWithin.j0 k a0 a1 a2 a3 (decide ((a3.size : Int) > 60)))) else (some false)) = some r := H
  have A5 := Aside0.mk A50
  clear A50
  by_cases c6 : t221 = true
  · subst c6
    have H1 : (if (a2.size : Int) > 60 then (transhumancelaw4_PathWithin.j0 k a0 a1 a2 a3 true) else (transhumancelaw4_PathWithin.j0 k a0 a1 a2 a3 (decide ((a3.size : Int) > 60)))) = some r := by rw [if_pos rfl] at H; exact H
    clear H
    have H := H1
    clear H1
    have HC7 := Aside0.mk H
    clear H
    go_enter Try.func6, Try.ntmps6
    go_upto_region 3 with (first | ((with_reducible refine gate_callee (f := 12) rfl ?_); refine goesL_ (some 11) rfl rfl Try.func12 (by kernel_rfl) rfl #[] rfl (by (try simp only [List.map_toArray, List.map_cons, List.map_nil]); first | done | rfl | (simp only [List.length_drop, List.length_take]; rfl)) ?_; (with_reducible refine (transhumancelaw4_known.calls k  true _ A5.out).mono ?_); rintro e w8 ⟨rfl, hb⟩; refine ⟨_, rfl, ?_⟩; have n0_ := Aside0.mk (below_step (by repeat (first | (with_reducible first | exact HB.out | apply below_alloc | apply pw_below_drewN | apply below_drew1) | exact HB.out)) hb); clear HB; have HB := n0_; clear n0_; (try clear hb); (try clear hb2); (try clear hk); (try clear hi)))
    (try simp only [Act.put, List.setIfInBounds_toArray, List.set_cons_zero, List.set_cons_succ])
    go_cut [20] (fun v20 wc => ∃ (kq : Nat) (x20_6 : Bool), v20 = .bool x20_6 ∧ Aside0 (transhumancelaw4_PathWithin.j0 kq a0 a1 a2 a3 x20_6 = some r) ∧ Aside0 (kq ≤ k) ∧ Aside0 (Below w.heap.size w wc))
    case first =>
      have H := HC7.out
      clear HC7
      by_cases c9 : (a2.size : Int) > 60
      · rw [if_pos c9] at H
        have c9b0 : decide (60 < (a2.size : Int)) = true := decide_eq_true c9
        have c9b1 : decide (60 < a2.size) = true := decide_eq_true (by omega)
        clear c9
        (first | rw [c9b0] | (simp only [i64_w, i32_w]; rw [c9b0]) | skip)
        have H' := Aside0.mk H
        clear H
        go_wp2
        go_meet
        case rel => exact ⟨_, (true), (by first | rfl | (simp; done) | (simp [*]; done)), H', ⟨by first | omega | exact Nat.le_refl _⟩, ⟨by repeat (first | (with_reducible first | exact HB.out | apply below_alloc | apply pw_below_drewN | apply below_drew1) | exact HB.out)⟩⟩
      · rw [if_neg c9] at H
        have c9b0 : decide (60 < (a2.size : Int)) = false := decide_eq_false c9
        have c9b1 : decide (60 < a2.size) = false := decide_eq_false (by omega)
        clear c9
        (first | rw [c9b0] | (simp only [i64_w, i32_w]; rw [c9b0]) | skip)
        have H' := Aside0.mk H
        clear H
        go_wp2
        go_meet
        case rel => exact ⟨_, (decide ((a3.size : Int) > 60)), (by first | rfl | (simp; done) | (simp [*]; done)), H', ⟨by first | omega | exact Nat.le_refl _⟩, ⟨by repeat (first | (with_reducible first | exact HB.out | apply below_alloc | apply pw_below_drewN | apply below_drew1) | exact HB.out)⟩⟩
    case rest =>
      clear HC7
      try clear c1
      try clear p2
      try clear c6
      try clear c9
      try clear c9b0
      try clear c9b1
      obtain ⟨kq, x20_6, rfl, HA, HJ6, HB⟩ := hcut
      cases kq with
      | zero => exact absurd HA.out (by simp [transhumancelaw4_PathWithin.j0])
      | succ kj6 =>
        have H := HA.out
        clear HA
        simp only [transhumancelaw4_PathWithin.j0] at H
        by_cases c10 : x20_6 = true
        · subst c10
          have H1 : (some true) = some r := by rw [if_pos rfl] at H; exact H
          clear H
          have H := H1
          clear H1
          obtain rfl := Option.some.inj H
          go_wp2
          go_ret
          exact ⟨by first | rfl | (simp [errW_none, errW_some] <;> rfl) | (simp [*, errW_none, errW_some] <;> rfl), by repeat (first | (with_reducible first | exact HB.out | apply below_alloc | apply pw_below_drewN | apply below_drew1) | exact HB.out)⟩
        · replace c10 := Bool.eq_false_iff.mpr c10
          subst c10
          have H1 : ((transhumancelaw4_Make.f kj6 a0).bind fun t222 => ((transhumancelaw4_Make.f kj6 a1).bind fun t223 => ((path_Within.f a2 a3).bind fun t224 => ((transhumanceref4_Within.f a2 a3).bind fun t225 => (if (t224 == t225) = true then ((path_Within.f t222 t223).bind fun t226 => ((transhumanceref4_Within.f t222 t223).bind fun t227 => (if (t226 == t227) = true then (if t222.size + 1 ≤ 9223372036854775807 then (if t222.size + 1 + t223.size ≤ 9223372036854775807 then ((path_Within.f ((t222 ++ (⟨#[47]⟩ : ByteArray)) ++ t223) t222).bind fun t228 => (if t228 = true then ((path_Within.f t222 t222).bind fun t229 => (if t229 = true then ((path_Within.f t222 ((t222 ++ (⟨#[47]⟩ : ByteArray)) ++ t223)).bind fun t230 => (if t230 = true then (some false) else ((path_Within.f (t222 ++ (⟨#[120]⟩ : ByteArray)) t222).bind fun t231 => (some (!t231))))) else (some false))) else (some false))) else (none)) else (none)) else (some false)))) else (some false)))))) = some r := by rw [if_neg (show ¬ (false = true) by decide)] at H; exact H
          clear H
          have H := H1
          clear H1
          replace H := Option.bind_eq_some_iff.mp H
          obtain ⟨t222, A110, H⟩ := H
          replace H : ((transhumancelaw4_Make.f kj6 a1).bind fun t223 => ((path_Within.f a2 a3).bind fun t224 => ((transhumanceref4_Within.f a2 a3).bind fun t225 => (if (t224 == t225) = true then ((path_Within.f t222 t223).bind fun t226 => ((transhumanceref4_Within.f t222 t223).bind fun t227 => (if (t226 == t227) = true then (if t222.size + 1 ≤ 9223372036854775807 then (if t222.size + 1 + t223.size ≤ 9223372036854775807 then ((path_Within.f ((t222 ++ (⟨#[47]⟩ : ByteArray)) ++ t223) t222).bind fun t228 => (if t228 = true then ((path_Within.f t222 t222).bind fun t229 => (if t229 = true then ((path_Within.f t222 ((t222 ++ (⟨#[47]⟩ : ByteArray)) ++ t223)).bind fun t230 => (if t230 = true then (some false) else ((path_Within.f (t222 ++ (⟨#[120]⟩ : ByteArray)) t222).bind fun t231 => (some (!t231))))) else (some false))) else (some false))) else (none)) else (none)) else (some false)))) else (some false))))) = some r := H
          have A11 := Aside0.mk A110
          clear A110
          replace H := Option.bind_eq_some_iff.mp H
          obtain ⟨t223, A120, H⟩ := H
          replace H : ((path_Within.f a2 a3).bind fun t224 => ((transhumanceref4_Within.f a2 a3).bind fun t225 => (if (t224 == t225) = true then ((path_Within.f t222 t223).bind fun t226 => ((transhumanceref4_Within.f t222 t223).bind fun t227 => (if (t226 == t227) = true then (if t222.size + 1 ≤ 9223372036854775807 then (if t222.size + 1 + t223.size ≤ 9223372036854775807 then ((path_Within.f ((t222 ++ (⟨#[47]⟩ : ByteArray)) ++ t223) t222).bind fun t228 => (if t228 = true then ((path_Within.f t222 t222).bind fun t229 => (if t229 = true then ((path_Within.f t222 ((t222 ++ (⟨#[47]⟩ : ByteArray)) ++ t223)).bind fun t230 => (if t230 = true then (some false) else ((path_Within.f (t222 ++ (⟨#[120]⟩ : ByteArray)) t222).bind fun t231 => (some (!t231))))) else (some false))) else (some false))) else (none)) else (none)) else (some false)))) else (some false)))) = some r := H
          have A12 := Aside0.mk A120
          clear A120
          replace H := Option.bind_eq_some_iff.mp H
          obtain ⟨t224, A130, H⟩ := H
          replace H : ((transhumanceref4_Within.f a2 a3).bind fun t225 => (if (t224 == t225) = true then ((path_Within.f t222 t223).bind fun t226 => ((transhumanceref4_Within.f t222 t223).bind fun t227 => (if (t226 == t227) = true then (if t222.size + 1 ≤ 9223372036854775807 then (if t222.size + 1 + t223.size ≤ 9223372036854775807 then ((path_Within.f ((t222 ++ (⟨#[47]⟩ : ByteArray)) ++ t223) t222).bind fun t228 => (if t228 = true then ((path_Within.f t222 t222).bind fun t229 => (if t229 = true then ((path_Within.f t222 ((t222 ++ (⟨#[47]⟩ : ByteArray)) ++ t223)).bind fun t230 => (if t230 = true then (some false) else ((path_Within.f (t222 ++ (⟨#[120]⟩ : ByteArray)) t222).bind fun t231 => (some (!t231))))) else (some false))) else (some false))) else (none)) else (none)) else (some false)))) else (some false))) = some r := H
          have A13 := Aside0.mk A130
          clear A130
          replace H := Option.bind_eq_some_iff.mp H
          obtain ⟨t225, A140, H⟩ := H
          replace H : (if (t224 == t225) = true then ((path_Within.f t222 t223).bind fun t226 => ((transhumanceref4_Within.f t222 t223).bind fun t227 => (if (t226 == t227) = true then (if t222.size + 1 ≤ 9223372036854775807 then (if t222.size + 1 + t223.size ≤ 9223372036854775807 then ((path_Within.f ((t222 ++ (⟨#[47]⟩ : ByteArray)) ++ t223) t222).bind fun t228 => (if t228 = true then ((path_Within.f t222 t222).bind fun t229 => (if t229 = true then ((path_Within.f t222 ((t222 ++ (⟨#[47]⟩ : ByteArray)) ++ t223)).bind fun t230 => (if t230 = true then (some false) else ((path_Within.f (t222 ++ (⟨#[120]⟩ : ByteArray)) t222).bind fun t231 => (some (!t231))))) else (some false))) else (some false))) else (none)) else (none)) else (some false)))) else (some false)) = some r := H
          have A14 := Aside0.mk A140
          clear A140
          by_cases c15 : (t224 == t225) = true
          · rw [if_pos c15] at H
            have c15b0 : (t224 == t225) = true := c15
            (try (have c15b1 : decide (t224 = t225) = true := by simpa using c15))
            (try (have c15b2 : (t224 == t225) = true := by simpa using c15))
            clear c15
            replace H := Option.bind_eq_some_iff.mp H
            obtain ⟨t226, A160, H⟩ := H
            replace H : ((transhumanceref4_Within.f t222 t223).bind fun t227 => (if (t226 == t227) = true then (if t222.size + 1 ≤ 9223372036854775807 then (if t222.size + 1 + t223.size ≤ 9223372036854775807 then ((path_Within.f ((t222 ++ (⟨#[47]⟩ : ByteArray)) ++ t223) t222).bind fun t228 => (if t228 = true then ((path_Within.f t222 t222).bind fun t229 => (if t229 = true then ((path_Within.f t222 ((t222 ++ (⟨#[47]⟩ : ByteArray)) ++ t223)).bind fun t230 => (if t230 = true then (some false) else ((path_Within.f (t222 ++ (⟨#[120]⟩ : ByteArray)) t222).bind fun t231 => (some (!t231))))) else (some false))) else (some false))) else (none)) else (none)) else (some false))) = some r := H
            have A16 := Aside0.mk A160
            clear A160
            replace H := Option.bind_eq_some_iff.mp H
            obtain ⟨t227, A170, H⟩ := H
            replace H : (if (t226 == t227) = true then (if t222.size + 1 ≤ 9223372036854775807 then (if t222.size + 1 + t223.size ≤ 9223372036854775807 then ((path_Within.f ((t222 ++ (⟨#[47]⟩ : ByteArray)) ++ t223) t222).bind fun t228 => (if t228 = true then ((path_Within.f t222 t222).bind fun t229 => (if t229 = true then ((path_Within.f t222 ((t222 ++ (⟨#[47]⟩ : ByteArray)) ++ t223)).bind fun t230 => (if t230 = true then (some false) else ((path_Within.f (t222 ++ (⟨#[120]⟩ : ByteArray)) t222).bind fun t231 => (some (!t231))))) else (some false))) else (some false))) else (none)) else (none)) else (some false)) = some r := H
            have A17 := Aside0.mk A170
            clear A170
            by_cases c18 : (t226 == t227) = true
            · rw [if_pos c18] at H
              have c18b0 : (t226 == t227) = true := c18
              (try (have c18b1 : decide (t226 = t227) = true := by simpa using c18))
              (try (have c18b2 : (t226 == t227) = true := by simpa using c18))
              clear c18
              by_cases c19 : t222.size + 1 ≤ 9223372036854775807
              · rw [if_pos c19] at H
                have c19b0 := eq_true c19
                have c19b1 : decide (t222.size + 1 ≤ 9223372036854775807) = true := decide_eq_true c19
                try have c19b2 : (9223372036854775807 < t222.size + 1) = False := eq_false (Nat.not_lt.2 c19)
                by_cases c20 : t222.size + 1 + t223.size ≤ 9223372036854775807
                · rw [if_pos c20] at H
                  have c20b0 := eq_true c20
                  have c20b1 : decide (t222.size + 1 + t223.size ≤ 9223372036854775807) = true := decide_eq_true c20
                  try have c20b2 : (9223372036854775807 < t222.size + 1 + t223.size) = False := eq_false (Nat.not_lt.2 c20)
                  replace H := Option.bind_eq_some_iff.mp H
                  obtain ⟨t228, A210, H⟩ := H
                  replace H : (if t228 = true then ((path_Within.f t222 t222).bind fun t229 => (if t229 = true then ((path_Within.f t222 ((t222 ++ (⟨#[47]⟩ : ByteArray)) ++ t223)).bind fun t230 => (if t230 = true then (some false) else ((path_Within.f (t222 ++ (⟨#[120]⟩ : ByteArray)) t222).bind fun t231 => (some (!t231))))) else (some false))) else (some false)) = some r := H
                  have A21 := Aside0.mk A210
                  clear A210
                  by_cases c22 : t228 = true
                  · subst c22
                    have H1 : ((path_Within.f t222 t222).bind fun t229 => (if t229 = true then ((path_Within.f t222 ((t222 ++ (⟨#[47]⟩ : ByteArray)) ++ t223)).bind fun t230 => (if t230 = true then (some false) else ((path_Within.f (t222 ++ (⟨#[120]⟩ : ByteArray)) t222).bind fun t231 => (some (!t231))))) else (some false))) = some r := by rw [if_pos rfl] at H; exact H
                    clear H
                    have H := H1
                    clear H1
                    replace H := Option.bind_eq_some_iff.mp H
                    obtain ⟨t229, A230, H⟩ := H
                    replace H : (if t229 = true then ((path_Within.f t222 ((t222 ++ (⟨#[47]⟩ : ByteArray)) ++ t223)).bind fun t230 => (if t230 = true then (some false) else ((path_Within.f (t222 ++ (⟨#[120]⟩ : ByteArray)) t222).bind fun t231 => (some (!t231))))) else (some false)) = some r := H
                    have A23 := Aside0.mk A230
                    clear A230
                    by_cases c24 : t229 = true
                    · subst c24
                      have H1 : ((path_Within.f t222 ((t222 ++ (⟨#[47]⟩ : ByteArray)) ++ t223)).bind fun t230 => (if t230 = true then (some false) else ((path_Within.f (t222 ++ (⟨#[120]⟩ : ByteArray)) t222).bind fun t231 => (some (!t231))))) = some r := by rw [if_pos rfl] at H; exact H
                      clear H
                      have H := H1
                      clear H1
                      replace H := Option.bind_eq_some_iff.mp H
                      obtain ⟨t230, A250, H⟩ := H
                      replace H : (if t230 = true then (some false) else ((path_Within.f (t222 ++ (⟨#[120]⟩ : ByteArray)) t222).bind fun t231 => (some (!t231)))) = some r := H
                      have A25 := Aside0.mk A250
                      clear A250
                      by_cases c26 : t230 = true
                      · subst c26
                        have H1 : (some false) = some r := by rw [if_pos rfl] at H; exact H
                        clear H
                        have H := H1
                        clear H1
                        obtain rfl := Option.some.inj H
                        go_wp2_with (first | ((with_reducible refine gate_callee (f := 13) rfl ?_); refine goesL_ (some 22) rfl rfl Try.func13 (by kernel_rfl) rfl #[.int .i64 a0] rfl (by (try simp only [List.map_toArray, List.map_cons, List.map_nil]); first | done | rfl | (simp only [List.length_drop, List.length_take]; rfl)) ?_; (with_reducible refine (transhumancelaw4_Make.calls kj6 a0 t222 _ A11.out).mono ?_); rintro e w27 ⟨rfl, hb⟩; refine ⟨_, rfl, ?_⟩; have n0_ := Aside0.mk (below_step (by repeat (first | (with_reducible first | exact HB.out | apply below_alloc | apply pw_below_drewN | apply below_drew1) | exact HB.out)) hb); clear HB; have HB := n0_; clear n0_; (try clear hb); (try clear hb2); (try clear hk); (try clear hi)) | ((with_reducible refine gate_callee (f := 13) rfl ?_); refine goesL_ (some 24) rfl rfl Try.func13 (by kernel_rfl) rfl #[.int .i64 a1] rfl (by (try simp only [List.map_toArray, List.map_cons, List.map_nil]); first | done | rfl | (simp only [List.length_drop, List.length_take]; rfl)) ?_; (with_reducible refine (transhumancelaw4_Make.calls kj6 a1 t223 _ A12.out).mono ?_); rintro e w28 ⟨rfl, hb⟩; refine ⟨_, rfl, ?_⟩; have n0_ := Aside0.mk (below_step (by repeat (first | (with_reducible first | exact HB.out | apply below_alloc | apply pw_below_drewN | apply below_drew1) | exact HB.out)) hb); clear HB; have HB := n0_; clear n0_; (try clear hb); (try clear hb2); (try clear hk); (try clear hi)) | ((with_reducible refine gate_callee (f := 23) rfl ?_); refine goesL_ (some 27) rfl rfl Try.func23 (by kernel_rfl) rfl #[.string a2, .string a3] rfl (by (try simp only [List.map_toArray, List.map_cons, List.map_nil]); first | done | rfl | (simp only [List.length_drop, List.length_take]; rfl)) ?_; (with_reducible refine (path_Within.calls a2 a3 t224 _ A13.out).mono ?_); rintro e w' ⟨rfl, ⟨nd, rfl⟩⟩; refine ⟨_, rfl, ?_⟩) | ((with_reducible refine gate_callee (f := 24) rfl ?_); refine goesL_ (some 30) rfl rfl Try.func24 (by kernel_rfl) rfl #[.string a2, .string a3] rfl (by (try simp only [List.map_toArray, List.map_cons, List.map_nil]); first | done | rfl | (simp only [List.length_drop, List.length_take]; rfl)) ?_; (with_reducible refine (transhumanceref4_Within.calls a2 a3 t225 _ A14.out).mono ?_); rintro e w' ⟨rfl, ⟨nd, rfl⟩⟩; refine ⟨_, rfl, ?_⟩) | (go_at_call 23; (with_reducible refine (path_Within.calls t222 t223 t226 _ A16.out).mono ?_); rintro e w' ⟨rfl, ⟨nd, rfl⟩⟩) | (go_at_call 24; (with_reducible refine (transhumanceref4_Within.calls t222 t223 t227 _ A17.out).mono ?_); rintro e w' ⟨rfl, ⟨nd, rfl⟩⟩) | (go_at_call 23; (with_reducible refine (path_Within.calls ((t222 ++ (⟨#[47]⟩ : ByteArray)) ++ t223) t222 true _ A21.out).mono ?_); rintro e w' ⟨rfl, ⟨nd, rfl⟩⟩) | (go_at_call 23; (with_reducible refine (path_Within.calls t222 t222 true _ A23.out).mono ?_); rintro e w' ⟨rfl, ⟨nd, rfl⟩⟩) | (go_at_call 23; (with_reducible refine (path_Within.calls t222 ((t222 ++ (⟨#[47]⟩ : ByteArray)) ++ t223) true _ A25.out).mono ?_); rintro e w' ⟨rfl, ⟨nd, rfl⟩⟩))
                        go_ret
                        exact ⟨by first | rfl | (simp [errW_none, errW_some] <;> rfl) | (simp [*, errW_none, errW_some] <;> rfl), by repeat (first | (with_reducible first | exact HB.out | apply below_alloc | apply pw_below_drewN | apply below_drew1) | exact HB.out)⟩
                      · replace c26 := Bool.eq_false_iff.mpr c26
                        subst c26
                        have H1 : ((path_Within.f (t222 ++ (⟨#[120]⟩ : ByteArray)) t222).bind fun t231 => (some (!t231))) = some r := by rw [if_neg (show ¬ (false = true) by decide)] at H; exact H
                        clear H
                        have H := H1
                        clear H1
                        replace H := Option.bind_eq_some_iff.mp H
                        obtain ⟨t231, A290, H⟩ := H
                        replace H : (some (!t231)) = some r := H
                        have A29 := Aside0.mk A290
                        clear A290
                        obtain rfl := Option.some.inj H
                        go_wp2_with (first | ((with_reducible refine gate_callee (f := 13) rfl ?_); refine goesL_ (some 22) rfl rfl Try.func13 (by kernel_rfl) rfl #[.int .i64 a0] rfl (by (try simp only [List.map_toArray, List.map_cons, List.map_nil]); first | done | rfl | (simp only [List.length_drop, List.length_take]; rfl)) ?_; (with_reducible refine (transhumancelaw4_Make.calls kj6 a0 t222 _ A11.out).mono ?_); rintro e w30 ⟨rfl, hb⟩; refine ⟨_, rfl, ?_⟩; have n0_ := Aside0.mk (below_step (by repeat (first | (with_reducible first | exact HB.out | apply below_alloc | apply pw_below_drewN | apply below_drew1) | exact HB.out)) hb); clear HB; have HB := n0_; clear n0_; (try clear hb); (try clear hb2); (try clear hk); (try clear hi)) | ((with_reducible refine gate_callee (f := 13) rfl ?_); refine goesL_ (some 24) rfl rfl Try.func13 (by kernel_rfl) rfl #[.int .i64 a1] rfl (by (try simp only [List.map_toArray, List.map_cons, List.map_nil]); first | done | rfl | (simp only [List.length_drop, List.length_take]; rfl)) ?_; (with_reducible refine (transhumancelaw4_Make.calls kj6 a1 t223 _ A12.out).mono ?_); rintro e w31 ⟨rfl, hb⟩; refine ⟨_, rfl, ?_⟩; have n0_ := Aside0.mk (below_step (by repeat (first | (with_reducible first | exact HB.out | apply below_alloc | apply pw_below_drewN | apply below_drew1) | exact HB.out)) hb); clear HB; have HB := n0_; clear n0_; (try clear hb); (try clear hb2); (try clear hk); (try clear hi)) | ((with_reducible refine gate_callee (f := 23) rfl ?_); refine goesL_ (some 27) rfl rfl Try.func23 (by kernel_rfl) rfl #[.string a2, .string a3] rfl (by (try simp only [List.map_toArray, List.map_cons, List.map_nil]); first | done | rfl | (simp only [List.length_drop, List.length_take]; rfl)) ?_; (with_reducible refine (path_Within.calls a2 a3 t224 _ A13.out).mono ?_); rintro e w' ⟨rfl, ⟨nd, rfl⟩⟩; refine ⟨_, rfl, ?_⟩) | ((with_reducible refine gate_callee (f := 24) rfl ?_); refine goesL_ (some 30) rfl rfl Try.func24 (by kernel_rfl) rfl #[.string a2, .string a3] rfl (by (try simp only [List.map_toArray, List.map_cons, List.map_nil]); first | done | rfl | (simp only [List.length_drop, List.length_take]; rfl)) ?_; (with_reducible refine (transhumanceref4_Within.calls a2 a3 t225 _ A14.out).mono ?_); rintro e w' ⟨rfl, ⟨nd, rfl⟩⟩; refine ⟨_, rfl, ?_⟩) | (go_at_call 23; (with_reducible refine (path_Within.calls t222 t223 t226 _ A16.out).mono ?_); rintro e w' ⟨rfl, ⟨nd, rfl⟩⟩) | (go_at_call 24; (with_reducible refine (transhumanceref4_Within.calls t222 t223 t227 _ A17.out).mono ?_); rintro e w' ⟨rfl, ⟨nd, rfl⟩⟩) | (go_at_call 23; (with_reducible refine (path_Within.calls ((t222 ++ (⟨#[47]⟩ : ByteArray)) ++ t223) t222 true _ A21.out).mono ?_); rintro e w' ⟨rfl, ⟨nd, rfl⟩⟩) | (go_at_call 23; (with_reducible refine (path_Within.calls t222 t222 true _ A23.out).mono ?_); rintro e w' ⟨rfl, ⟨nd, rfl⟩⟩) | (go_at_call 23; (with_reducible refine (path_Within.calls t222 ((t222 ++ (⟨#[47]⟩ : ByteArray)) ++ t223) false _ A25.out).mono ?_); rintro e w' ⟨rfl, ⟨nd, rfl⟩⟩) | (go_at_call 23; (with_reducible refine (path_Within.calls (t222 ++ (⟨#[120]⟩ : ByteArray)) t222 t231 _ A29.out).mono ?_); rintro e w' ⟨rfl, ⟨nd, rfl⟩⟩))
                        go_ret
                        exact ⟨by first | rfl | (simp [errW_none, errW_some] <;> rfl) | (simp [*, errW_none, errW_some] <;> rfl), by repeat (first | (with_reducible first | exact HB.out | apply below_alloc | apply pw_below_drewN | apply below_drew1) | exact HB.out)⟩
                    · replace c24 := Bool.eq_false_iff.mpr c24
                      subst c24
                      have H1 : (some false) = some r := by rw [if_neg (show ¬ (false = true) by decide)] at H; exact H
                      clear H
                      have H := H1
                      clear H1
                      obtain rfl := Option.some.inj H
                      go_wp2_with (first | ((with_reducible refine gate_callee (f := 13) rfl ?_); refine goesL_ (some 22) rfl rfl Try.func13 (by kernel_rfl) rfl #[.int .i64 a0] rfl (by (try simp only [List.map_toArray, List.map_cons, List.map_nil]); first | done | rfl | (simp only [List.length_drop, List.length_take]; rfl)) ?_; (with_reducible refine (transhumancelaw4_Make.calls kj6 a0 t222 _ A11.out).mono ?_); rintro e w32 ⟨rfl, hb⟩; refine ⟨_, rfl, ?_⟩; have n0_ := Aside0.mk (below_step (by repeat (first | (with_reducible first | exact HB.out | apply below_alloc | apply pw_below_drewN | apply below_drew1) | exact HB.out)) hb); clear HB; have HB := n0_; clear n0_; (try clear hb); (try clear hb2); (try clear hk); (try clear hi)) | ((with_reducible refine gate_callee (f := 13) rfl ?_); refine goesL_ (some 24) rfl rfl Try.func13 (by kernel_rfl) rfl #[.int .i64 a1] rfl (by (try simp only [List.map_toArray, List.map_cons, List.map_nil]); first | done | rfl | (simp only [List.length_drop, List.length_take]; rfl)) ?_; (with_reducible refine (transhumancelaw4_Make.calls kj6 a1 t223 _ A12.out).mono ?_); rintro e w33 ⟨rfl, hb⟩; refine ⟨_, rfl, ?_⟩; have n0_ := Aside0.mk (below_step (by repeat (first | (with_reducible first | exact HB.out | apply below_alloc | apply pw_below_drewN | apply below_drew1) | exact HB.out)) hb); clear HB; have HB := n0_; clear n0_; (try clear hb); (try clear hb2); (try clear hk); (try clear hi)) | ((with_reducible refine gate_callee (f := 23) rfl ?_); refine goesL_ (some 27) rfl rfl Try.func23 (by kernel_rfl) rfl #[.string a2, .string a3] rfl (by (try simp only [List.map_toArray, List.map_cons, List.map_nil]); first | done | rfl | (simp only [List.length_drop, List.length_take]; rfl)) ?_; (with_reducible refine (path_Within.calls a2 a3 t224 _ A13.out).mono ?_); rintro e w' ⟨rfl, ⟨nd, rfl⟩⟩; refine ⟨_, rfl, ?_⟩) | ((with_reducible refine gate_callee (f := 24) rfl ?_); refine goesL_ (some 30) rfl rfl Try.func24 (by kernel_rfl) rfl #[.string a2, .string a3] rfl (by (try simp only [List.map_toArray, List.map_cons, List.map_nil]); first | done | rfl | (simp only [List.length_drop, List.length_take]; rfl)) ?_; (with_reducible refine (transhumanceref4_Within.calls a2 a3 t225 _ A14.out).mono ?_); rintro e w' ⟨rfl, ⟨nd, rfl⟩⟩; refine ⟨_, rfl, ?_⟩) | (go_at_call 23; (with_reducible refine (path_Within.calls t222 t223 t226 _ A16.out).mono ?_); rintro e w' ⟨rfl, ⟨nd, rfl⟩⟩) | (go_at_call 24; (with_reducible refine (transhumanceref4_Within.calls t222 t223 t227 _ A17.out).mono ?_); rintro e w' ⟨rfl, ⟨nd, rfl⟩⟩) | (go_at_call 23; (with_reducible refine (path_Within.calls ((t222 ++ (⟨#[47]⟩ : ByteArray)) ++ t223) t222 true _ A21.out).mono ?_); rintro e w' ⟨rfl, ⟨nd, rfl⟩⟩) | (go_at_call 23; (with_reducible refine (path_Within.calls t222 t222 false _ A23.out).mono ?_); rintro e w' ⟨rfl, ⟨nd, rfl⟩⟩))
                      go_ret
                      exact ⟨by first | rfl | (simp [errW_none, errW_some] <;> rfl) | (simp [*, errW_none, errW_some] <;> rfl), by repeat (first | (with_reducible first | exact HB.out | apply below_alloc | apply pw_below_drewN | apply below_drew1) | exact HB.out)⟩
                  · replace c22 := Bool.eq_false_iff.mpr c22
                    subst c22
                    have H1 : (some false) = some r := by rw [if_neg (show ¬ (false = true) by decide)] at H; exact H
                    clear H
                    have H := H1
                    clear H1
                    obtain rfl := Option.some.inj H
                    go_wp2_with (first | ((with_reducible refine gate_callee (f := 13) rfl ?_); refine goesL_ (some 22) rfl rfl Try.func13 (by kernel_rfl) rfl #[.int .i64 a0] rfl (by (try simp only [List.map_toArray, List.map_cons, List.map_nil]); first | done | rfl | (simp only [List.length_drop, List.length_take]; rfl)) ?_; (with_reducible refine (transhumancelaw4_Make.calls kj6 a0 t222 _ A11.out).mono ?_); rintro e w34 ⟨rfl, hb⟩; refine ⟨_, rfl, ?_⟩; have n0_ := Aside0.mk (below_step (by repeat (first | (with_reducible first | exact HB.out | apply below_alloc | apply pw_below_drewN | apply below_drew1) | exact HB.out)) hb); clear HB; have HB := n0_; clear n0_; (try clear hb); (try clear hb2); (try clear hk); (try clear hi)) | ((with_reducible refine gate_callee (f := 13) rfl ?_); refine goesL_ (some 24) rfl rfl Try.func13 (by kernel_rfl) rfl #[.int .i64 a1] rfl (by (try simp only [List.map_toArray, List.map_cons, List.map_nil]); first | done | rfl | (simp only [List.length_drop, List.length_take]; rfl)) ?_; (with_reducible refine (transhumancelaw4_Make.calls kj6 a1 t223 _ A12.out).mono ?_); rintro e w35 ⟨rfl, hb⟩; refine ⟨_, rfl, ?_⟩; have n0_ := Aside0.mk (below_step (by repeat (first | (with_reducible first | exact HB.out | apply below_alloc | apply pw_below_drewN | apply below_drew1) | exact HB.out)) hb); clear HB; have HB := n0_; clear n0_; (try clear hb); (try clear hb2); (try clear hk); (try clear hi)) | ((with_reducible refine gate_callee (f := 23) rfl ?_); refine goesL_ (some 27) rfl rfl Try.func23 (by kernel_rfl) rfl #[.string a2, .string a3] rfl (by (try simp only [List.map_toArray, List.map_cons, List.map_nil]); first | done | rfl | (simp only [List.length_drop, List.length_take]; rfl)) ?_; (with_reducible refine (path_Within.calls a2 a3 t224 _ A13.out).mono ?_); rintro e w' ⟨rfl, ⟨nd, rfl⟩⟩; refine ⟨_, rfl, ?_⟩) | ((with_reducible refine gate_callee (f := 24) rfl ?_); refine goesL_ (some 30) rfl rfl Try.func24 (by kernel_rfl) rfl #[.string a2, .string a3] rfl (by (try simp only [List.map_toArray, List.map_cons, List.map_nil]); first | done | rfl | (simp only [List.length_drop, List.length_take]; rfl)) ?_; (with_reducible refine (transhumanceref4_Within.calls a2 a3 t225 _ A14.out).mono ?_); rintro e w' ⟨rfl, ⟨nd, rfl⟩⟩; refine ⟨_, rfl, ?_⟩) | (go_at_call 23; (with_reducible refine (path_Within.calls t222 t223 t226 _ A16.out).mono ?_); rintro e w' ⟨rfl, ⟨nd, rfl⟩⟩) | (go_at_call 24; (with_reducible refine (transhumanceref4_Within.calls t222 t223 t227 _ A17.out).mono ?_); rintro e w' ⟨rfl, ⟨nd, rfl⟩⟩) | (go_at_call 23; (with_reducible refine (path_Within.calls ((t222 ++ (⟨#[47]⟩ : ByteArray)) ++ t223) t222 false _ A21.out).mono ?_); rintro e w' ⟨rfl, ⟨nd, rfl⟩⟩))
                    go_ret
                    exact ⟨by first | rfl | (simp [errW_none, errW_some] <;> rfl) | (simp [*, errW_none, errW_some] <;> rfl), by repeat (first | (with_reducible first | exact HB.out | apply below_alloc | apply pw_below_drewN | apply below_drew1) | exact HB.out)⟩
                · rw [if_neg c20] at H
                  exact absurd H (by simp)
              · rw [if_neg c19] at H
                exact absurd H (by simp)
            · rw [if_neg c18] at H
              have c18b0 : (t226 == t227) = false := by simpa using c18
              (try (have c18b1 : decide (t226 = t227) = false := by simpa using c18))
              (try (have c18b2 : (t226 == t227) = false := by simpa using c18))
              (try (have c18b3 : ¬ (t226 = t227) := by simpa using c18))
              clear c18
              obtain rfl := Option.some.inj H
              go_wp2_with (first | ((with_reducible refine gate_callee (f := 13) rfl ?_); refine goesL_ (some 22) rfl rfl Try.func13 (by kernel_rfl) rfl #[.int .i64 a0] rfl (by (try simp only [List.map_toArray, List.map_cons, List.map_nil]); first | done | rfl | (simp only [List.length_drop, List.length_take]; rfl)) ?_; (with_reducible refine (transhumancelaw4_Make.calls kj6 a0 t222 _ A11.out).mono ?_); rintro e w36 ⟨rfl, hb⟩; refine ⟨_, rfl, ?_⟩; have n0_ := Aside0.mk (below_step (by repeat (first | (with_reducible first | exact HB.out | apply below_alloc | apply pw_below_drewN | apply below_drew1) | exact HB.out)) hb); clear HB; have HB := n0_; clear n0_; (try clear hb); (try clear hb2); (try clear hk); (try clear hi)) | ((with_reducible refine gate_callee (f := 13) rfl ?_); refine goesL_ (some 24) rfl rfl Try.func13 (by kernel_rfl) rfl #[.int .i64 a1] rfl (by (try simp only [List.map_toArray, List.map_cons, List.map_nil]); first | done | rfl | (simp only [List.length_drop, List.length_take]; rfl)) ?_; (with_reducible refine (transhumancelaw4_Make.calls kj6 a1 t223 _ A12.out).mono ?_); rintro e w37 ⟨rfl, hb⟩; refine ⟨_, rfl, ?_⟩; have n0_ := Aside0.mk (below_step (by repeat (first | (with_reducible first | exact HB.out | apply below_alloc | apply pw_below_drewN | apply below_drew1) | exact HB.out)) hb); clear HB; have HB := n0_; clear n0_; (try clear hb); (try clear hb2); (try clear hk); (try clear hi)) | ((with_reducible refine gate_callee (f := 23) rfl ?_); refine goesL_ (some 27) rfl rfl Try.func23 (by kernel_rfl) rfl #[.string a2, .string a3] rfl (by (try simp only [List.map_toArray, List.map_cons, List.map_nil]); first | done | rfl | (simp only [List.length_drop, List.length_take]; rfl)) ?_; (with_reducible refine (path_Within.calls a2 a3 t224 _ A13.out).mono ?_); rintro e w' ⟨rfl, ⟨nd, rfl⟩⟩; refine ⟨_, rfl, ?_⟩) | ((with_reducible refine gate_callee (f := 24) rfl ?_); refine goesL_ (some 30) rfl rfl Try.func24 (by kernel_rfl) rfl #[.string a2, .string a3] rfl (by (try simp only [List.map_toArray, List.map_cons, List.map_nil]); first | done | rfl | (simp only [List.length_drop, List.length_take]; rfl)) ?_; (with_reducible refine (transhumanceref4_Within.calls a2 a3 t225 _ A14.out).mono ?_); rintro e w' ⟨rfl, ⟨nd, rfl⟩⟩; refine ⟨_, rfl, ?_⟩) | (go_at_call 23; (with_reducible refine (path_Within.calls t222 t223 t226 _ A16.out).mono ?_); rintro e w' ⟨rfl, ⟨nd, rfl⟩⟩) | (go_at_call 24; (with_reducible refine (transhumanceref4_Within.calls t222 t223 t227 _ A17.out).mono ?_); rintro e w' ⟨rfl, ⟨nd, rfl⟩⟩))
              go_ret
              exact ⟨by first | rfl | (simp [errW_none, errW_some] <;> rfl) | (simp [*, errW_none, errW_some] <;> rfl), by repeat (first | (with_reducible first | exact HB.out | apply below_alloc | apply pw_below_drewN | apply below_drew1) | exact HB.out)⟩
          · rw [if_neg c15] at H
            have c15b0 : (t224 == t225) = false := by simpa using c15
            (try (have c15b1 : decide (t224 = t225) = false := by simpa using c15))
            (try (have c15b2 : (t224 == t225) = false := by simpa using c15))
            (try (have c15b3 : ¬ (t224 = t225) := by simpa using c15))
            clear c15
            obtain rfl := Option.some.inj H
            go_wp2_with (first | ((with_reducible refine gate_callee (f := 13) rfl ?_); refine goesL_ (some 22) rfl rfl Try.func13 (by kernel_rfl) rfl #[.int .i64 a0] rfl (by (try simp only [List.map_toArray, List.map_cons, List.map_nil]); first | done | rfl | (simp only [List.length_drop, List.length_take]; rfl)) ?_; (with_reducible refine (transhumancelaw4_Make.calls kj6 a0 t222 _ A11.out).mono ?_); rintro e w38 ⟨rfl, hb⟩; refine ⟨_, rfl, ?_⟩; have n0_ := Aside0.mk (below_step (by repeat (first | (with_reducible first | exact HB.out | apply below_alloc | apply pw_below_drewN | apply below_drew1) | exact HB.out)) hb); clear HB; have HB := n0_; clear n0_; (try clear hb); (try clear hb2); (try clear hk); (try clear hi)) | ((with_reducible refine gate_callee (f := 13) rfl ?_); refine goesL_ (some 24) rfl rfl Try.func13 (by kernel_rfl) rfl #[.int .i64 a1] rfl (by (try simp only [List.map_toArray, List.map_cons, List.map_nil]); first | done | rfl | (simp only [List.length_drop, List.length_take]; rfl)) ?_; (with_reducible refine (transhumancelaw4_Make.calls kj6 a1 t223 _ A12.out).mono ?_); rintro e w39 ⟨rfl, hb⟩; refine ⟨_, rfl, ?_⟩; have n0_ := Aside0.mk (below_step (by repeat (first | (with_reducible first | exact HB.out | apply below_alloc | apply pw_below_drewN | apply below_drew1) | exact HB.out)) hb); clear HB; have HB := n0_; clear n0_; (try clear hb); (try clear hb2); (try clear hk); (try clear hi)) | ((with_reducible refine gate_callee (f := 23) rfl ?_); refine goesL_ (some 27) rfl rfl Try.func23 (by kernel_rfl) rfl #[.string a2, .string a3] rfl (by (try simp only [List.map_toArray, List.map_cons, List.map_nil]); first | done | rfl | (simp only [List.length_drop, List.length_take]; rfl)) ?_; (with_reducible refine (path_Within.calls a2 a3 t224 _ A13.out).mono ?_); rintro e w' ⟨rfl, ⟨nd, rfl⟩⟩; refine ⟨_, rfl, ?_⟩) | ((with_reducible refine gate_callee (f := 24) rfl ?_); refine goesL_ (some 30) rfl rfl Try.func24 (by kernel_rfl) rfl #[.string a2, .string a3] rfl (by (try simp only [List.map_toArray, List.map_cons, List.map_nil]); first | done | rfl | (simp only [List.length_drop, List.length_take]; rfl)) ?_; (with_reducible refine (transhumanceref4_Within.calls a2 a3 t225 _ A14.out).mono ?_); rintro e w' ⟨rfl, ⟨nd, rfl⟩⟩; refine ⟨_, rfl, ?_⟩))
            go_ret
            exact ⟨by first | rfl | (simp [errW_none, errW_some] <;> rfl) | (simp [*, errW_none, errW_some] <;> rfl), by repeat (first | (with_reducible first | exact HB.out | apply below_alloc | apply pw_below_drewN | apply below_drew1) | exact HB.out)⟩
  · replace c6 := Bool.eq_false_iff.mpr c6
    subst c6
    have H1 : (some false) = some r := by rw [if_neg (show ¬ (false = true) by decide)] at H; exact H
    clear H
    have H := H1
    clear H1
    obtain rfl := Option.some.inj H
    go_enter Try.func6, Try.ntmps6
    go_wp2_with (first | ((with_reducible refine gate_callee (f := 12) rfl ?_); refine goesL_ (some 11) rfl rfl Try.func12 (by kernel_rfl) rfl #[] rfl (by (try simp only [List.map_toArray, List.map_cons, List.map_nil]); first | done | rfl | (simp only [List.length_drop, List.length_take]; rfl)) ?_; (with_reducible refine (transhumancelaw4_known.calls k  false _ A5.out).mono ?_); rintro e w40 ⟨rfl, hb⟩; refine ⟨_, rfl, ?_⟩; have n0_ := Aside0.mk (below_step (by repeat (first | (with_reducible first | exact HB.out | apply below_alloc | apply pw_below_drewN | apply below_drew1) | exact HB.out)) hb); clear HB; have HB := n0_; clear n0_; (try clear hb); (try clear hb2); (try clear hk); (try clear hi)))
    go_ret
    exact ⟨by first | rfl | (simp [errW_none, errW_some] <;> rfl) | (simp [*, errW_none, errW_some] <;> rfl), by repeat (first | (with_reducible first | exact HB.out | apply below_alloc | apply pw_below_drewN | apply below_drew1) | exact HB.out)⟩

/-- THE ONE PURE STATEMENT of transhumancelaw4_PathWithin: yours. -/
def transhumancelaw4_PathWithin.Pure : Prop := ∀ (a0 : Int) (a1 : Int) (a2 : ByteArray) (a3 : ByteArray), (Lit.int .i64 a0).wf = true → (Lit.int .i64 a1).wf = true → a2.size ≤ 140737488351232 → a3.size ≤ 140737488351232 → ∃ k, transhumancelaw4_PathWithin.f k a0 a1 a2 a3 = some true
theorem transhumancelaw4_PathWithin.walk (P : transhumancelaw4_PathWithin.Pure) (a0 : Int) (a1 : Int) (a2 : ByteArray) (a3 : ByteArray) (w : World) (w0 : (Lit.int .i64 a0).wf = true) (w1 : (Lit.int .i64 a1).wf = true) (w2 : a2.size ≤ 140737488351232) (w3 : a3.size ≤ 140737488351232) :
    Calls Try.prog 6 #[.int .i64 a0, .int .i64 a1, .string a2, .string a3] w fun e w' => e = .returned (.bool true) ∧ Below w.heap.size w w' := by
  obtain ⟨k, h⟩ := P a0 a1 a2 a3 w0 w1 w2 w3
  refine (transhumancelaw4_PathWithin.calls k a0 a1 a2 a3 true w h).mono ?_
  rintro e w' ⟨rfl, hd⟩
  exact ⟨rfl, hd⟩

end Go.Proofs.Ytelommablohfoaa.X
