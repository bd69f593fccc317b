-- Laid by this session's own program (wip/xprint.py). Not trusted: Lean checks it.
import Derived.Test.YtelommablohfoaaXx0
import Derived.Test.YtelommablohfoaaXx3
import Derived.Test.YtelommablohfoaaXx5
import Derived.Test.YtelommablohfoaaXx7
namespace Go.Proofs.Ytelommablohfoaa.X
open Go.RowKit Go.Proofs.YtelommablohfoaaW.PrintWords Go.Proofs.YtelommablohfoaaW.PrintLast Go.Proofs.YtelommablohfoaaW.PrintMore
attribute [local go_sem] max2_int min2_int max_two min_two max_three min_three max_four min_four   -- for this text's walks alone
set_option linter.unusedVariables false
set_option linter.unusedSimpArgs false

/-! ### transhumancelaw4_PathMajors: function 4 -/
def transhumancelaw4_PathMajors.j0 : Nat → Int → Int → ByteArray → ByteArray → Int → Bool → Option (Bool)
  | 0, _, _, _, _, _, _ => none
  | k + 1, x1, x10, x11, x12, x13, x71 => if x71 = true then (some false) else (if (x11.size : Int) > 40 then (some true) else ((transhumancelaw4_Make.f k x1).bind fun t194 => (if x12.toList = t194.toList then (some (x13 == x10)) else (some false))))
def transhumancelaw4_PathMajors.f (k : Nat) (a0 : Int) (a1 : Int) : Option (Bool) := (transhumancelaw4_known.f k).bind fun t181 => (if t181 = true then ((transhumancelaw4_Make.f k a0).bind fun t182 => ((path_Major.f k t182).bind fun bt183 => ((transhumanceref4_Major.f k t182).bind fun bt185 => ((transhumancelaw4_within.f a1 98).bind fun t187 => ((transhumancelaw4_Make.f k a1).bind fun t188 => (if t188.size + 2 ≤ 9223372036854775807 then ((transhumancelaw4_digits.f k (wrap64 (2 + t187))).bind fun t189 => (if t188.size + 2 + t189.size ≤ 9223372036854775807 then ((path_Major.f k ((t188 ++ (⟨#[47, 118]⟩ : ByteArray)) ++ t189)).bind fun bt190 => (if bt183.1.toList = bt185.1.toList then (if bt183.2 = bt185.2 then (if bt183.2 = 0 then (if bt183.1.toList = t182.toList then (if bt183.2 > 0 then (if bt183.1.size + 2 ≤ 9223372036854775807 then ((transhumancelaw4_digits.f k bt183.2).bind fun t192 => (if bt183.1.size + 2 + t192.size ≤ 9223372036854775807 then (transhumancelaw4_PathMajors.j0 k a1 (wrap64 (2 + t187)) ((t188 ++ (⟨#[47, 118]⟩ : ByteArray)) ++ t189) bt190.1 bt190.2 (((bt183.1 ++ (⟨#[47, 118]⟩ : ByteArray)) ++ t192).toList != t182.toList)) else (none))) else (none)) else (transhumancelaw4_PathMajors.j0 k a1 (wrap64 (2 + t187)) ((t188 ++ (⟨#[47, 118]⟩ : ByteArray)) ++ t189) bt190.1 bt190.2 false)) else (transhumancelaw4_PathMajors.j0 k a1 (wrap64 (2 + t187)) ((t188 ++ (⟨#[47, 118]⟩ : ByteArray)) ++ t189) bt190.1 bt190.2 true)) else (if bt183.2 > 0 then (if bt183.1.size + 2 ≤ 9223372036854775807 then ((transhumancelaw4_digits.f k bt183.2).bind fun t193 => (if bt183.1.size + 2 + t193.size ≤ 9223372036854775807 then (transhumancelaw4_PathMajors.j0 k a1 (wrap64 (2 + t187)) ((t188 ++ (⟨#[47, 118]⟩ : ByteArray)) ++ t189) bt190.1 bt190.2 (((bt183.1 ++ (⟨#[47, 118]⟩ : ByteArray)) ++ t193).toList != t182.toList)) else (none))) else (none)) else (transhumancelaw4_PathMajors.j0 k a1 (wrap64 (2 + t187)) ((t188 ++ (⟨#[47, 118]⟩ : ByteArray)) ++ t189) bt190.1 bt190.2 false))) else (transhumancelaw4_PathMajors.j0 k a1 (wrap64 (2 + t187)) ((t188 ++ (⟨#[47, 118]⟩ : ByteArray)) ++ t189) bt190.1 bt190.2 true)) else (transhumancelaw4_PathMajors.j0 k a1 (wrap64 (2 + t187)) ((t188 ++ (⟨#[47, 118]⟩ : ByteArray)) ++ t189) bt190.1 bt190.2 true))) else (none))) else (none))))))) else (some false))
theorem transhumancelaw4_PathMajors.mono_l : ∀ k, (∀ y0 y1 y2 y3 y4 y5, LeO (transhumancelaw4_PathMajors.j0 k y0 y1 y2 y3 y4 y5) (transhumancelaw4_PathMajors.j0 (k + 1) y0 y1 y2 y3 y4 y5))
  | 0 => fun _ _ _ _ _ _ r h => by simp [transhumancelaw4_PathMajors.j0] at h
  | k + 1 => by
    have ih0 := transhumancelaw4_PathMajors.mono_l k
    · intro y0 y1 y2 y3 y4 y5
      unfold transhumancelaw4_PathMajors.j0
      repeat' first
      | (with_reducible exact ih0 _ _ _ _ _ _)
      | (with_reducible exact path_Major.mono _ _)
      | (with_reducible exact transhumancelaw4_Make.mono _ _)
      | (with_reducible exact transhumancelaw4_digits.mono _ _)
      | (with_reducible exact transhumancelaw4_known.mono _)
      | (with_reducible exact transhumanceref4_Major.mono _ _)
      | (with_reducible exact LeO.refl _)
      | (with_reducible exact LeO.none _)
      | (with_reducible refine LeO.ite ?_ ?_)
      | (with_reducible refine LeO.bind ?_ (fun _ => ?_))
      | exact ih0 _ _ _ _ _ _
      | exact path_Major.mono _ _
      | exact transhumancelaw4_Make.mono _ _
      | exact transhumancelaw4_digits.mono _ _
      | exact transhumancelaw4_known.mono _
      | exact transhumanceref4_Major.mono _ _
      | exact LeO.none _
      | refine LeO.ite ?_ ?_
      | refine LeO.bind ?_ (fun _ => ?_)
theorem transhumancelaw4_PathMajors.mono : ∀ a0 a1 k, LeO (transhumancelaw4_PathMajors.f k a0 a1) (transhumancelaw4_PathMajors.f (k + 1) a0 a1) := by
  intro a0 a1 k
  have ih0 := transhumancelaw4_PathMajors.mono_l k
  unfold transhumancelaw4_PathMajors.f
  repeat' first
      | (with_reducible exact ih0 _ _ _ _ _ _)
      | (with_reducible exact path_Major.mono _ _)
      | (with_reducible exact transhumancelaw4_Make.mono _ _)
      | (with_reducible exact transhumancelaw4_digits.mono _ _)
      | (with_reducible exact transhumancelaw4_known.mono _)
      | (with_reducible exact transhumanceref4_Major.mono _ _)
      | (with_reducible exact LeO.refl _)
      | (with_reducible exact LeO.none _)
      | (with_reducible refine LeO.ite ?_ ?_)
      | (with_reducible refine LeO.bind ?_ (fun _ => ?_))
      | exact ih0 _ _ _ _ _ _
      | exact path_Major.mono _ _
      | exact transhumancelaw4_Make.mono _ _
      | exact transhumancelaw4_digits.mono _ _
      | exact transhumancelaw4_known.mono _
      | exact transhumanceref4_Major.mono _ _
      | exact LeO.none _
      | refine LeO.ite ?_ ?_
      | refine LeO.bind ?_ (fun _ => ?_)
set_option maxHeartbeats 8000000 in
set_option maxRecDepth 100000 in
theorem transhumancelaw4_PathMajors.calls (k : Nat) (a0 : Int) (a1 : Int) (r : Bool) (w : World) (h : transhumancelaw4_PathMajors.f k a0 a1 = some r) :
    Calls Try.prog 4 #[.int .i64 a0, .int .i64 a1] w fun e w' => e = .returned (.bool r) ∧ Below w.heap.size w w' := by
  have HB := Aside0.mk (Below.refl w.heap.size w)
  have H : ((transhumancelaw4_known.f k).bind fun t181 => (if t181 = true then ((transhumancelaw4_Make.f k a0).bind fun t182 => ((path_Major.f k t182).bind fun bt183 => ((transhumanceref4_Major.f k t182).bind fun bt185 => ((transhumancelaw4_within.f a1 98).bind fun t187 => ((transhumancelaw4_Make.f k a1).bind fun t188 => (if t188.size + 2 ≤ 9223372036854775807 then ((transhumancelaw4_digits.f k (wrap64 (2 + t187))).bind fun t189 => (if t188.size + 2 + t189.size ≤ 9223372036854775807 then ((path_Major.f k ((t188 ++ (⟨#[47, 118]⟩ : ByteArray)) ++ t189)).bind fun bt190 => (if bt183.1.toList = bt185.1.toList then (if bt183.2 = bt185.2 then (if bt183.2 = 0 then (if bt183.1.toList = t182.toList then (if bt183.2 > 0 then (if bt183.1.size + 2 ≤ 9223372036854775807 then ((transhumancelaw4_digits.f k bt183.2).bind fun t192 => (if bt183.1.size + 2 + t192.size ≤ 9223372036854775807 then (transhumancelaw4_PathMajors.j0 k a1 (wrap64 (2 + t187)) ((t188 ++ (⟨#[47, 118]⟩ : ByteArray)) ++ t189) bt190.1 bt190.2 (((bt183.1 ++ (⟨#[47, 118]⟩ : ByteArray)) ++ t192).toList != t182.toList)) else (none))) else (none)) else (transhumancelaw4_PathMajors.j0 k a1 (wrap64 (2 + t187)) ((t188 ++ (⟨#[47, 118]⟩ : ByteArray)) ++ t189) bt190.1 bt190.2 false)) else (transhumancelaw4_PathMajors.j0 k a1 (wrap64 (2 + t187)) ((t188 ++ (⟨#[47, 118]⟩ : ByteArray)) ++ t189) bt190.1 bt190.2 true)) else (if bt183.2 > 0 then (if bt183.1.size + 2 ≤ 9223372036854775807 then ((transhumancelaw4_digits.f k bt183.2).bind fun t193 => (if bt183.1.size + 2 + t193.size ≤ 9223372036854775807 then (transhumancelaw4_PathMajors.j0 k a1 (wrap64 (2 + t187)) ((t188 ++ (⟨#[47, 118]⟩ : ByteArray)) ++ t189) bt190.1 bt190.2 (((bt183.1 ++ (⟨#[47, 118]⟩ : ByteArray)) ++ t193).toList != t182.toList)) else (none))) else (none)) else (transhumancelaw4_PathMajors.j0 k a1 (wrap64 (2 + t187)) ((t188 ++ (⟨#[47, 118]⟩ : ByteArray)) ++ t189) bt190.1 bt190.2 false))) else (transhumancelaw4_PathMajors.j0 k a1 (wrap64 (2 + t187)) ((t188 ++ (⟨#[47, 118]⟩ : ByteArray)) ++ t189) bt190.1 bt190.2 true)) else (transhumancelaw4_PathMajors.j0 k a1 (wrap64 (2 + t187)) ((t188 ++ (⟨#[47, 118]⟩ : ByteArray)) ++ t189) bt190.1 bt190.2 true))) else (none))) else (none))))))) else (some false))) = some r := h
  clear h
  replace H := Option.bind_eq_some_iff.mp H
  obtain ⟨t181, A30, H⟩ := H
  replace H : (if t181 = true then ((transhumancelaw4_Make.f k a0).bind fun t182 => ((path_Major.f k t182).bind fun bt183 => ((transhumanceref4_Major.f k t182).bind fun bt185 => ((transhumancelaw4_within.f a1 98).bind fun t187 => ((transhumancelaw4_Make.f k a1).bind fun t188 => (if t188.size + 2 ≤ 9223372036854775807 then ((transhumancelaw4_digits.f k (wrap64 (2 + t187))).bind fun t189 => (if t188.size + 2 + t189.size ≤ 9223372036854775807 then ((path_Major.f k ((t188 ++ (⟨#[47, 118]⟩ : ByteArray)) ++ t189)).bind fun bt190 => (if bt183.1.toList = bt185.1.toList then (if bt183.2 = bt185.2 then (if bt183.2 = 0 then (if bt183.1.toList = t182.toList then (if bt183.2 > 0 then (if bt183.1.size + 2 ≤ 9223372036854775807 then ((transhumancelaw4_digits.f k bt183.2).bind fun t192 => (if bt183.1.size + 2 + t192.size ≤ 9223372036854775807 then (transhumancelaw4_PathMajors.j0 k a1 (wrap64 (2 + t187)) ((t188 ++ (⟨#[47, 118]⟩ : ByteArray)) ++ t189) bt190.1 bt190.2 (((bt183.1 ++ (⟨#[47, 118]⟩ : ByteArray)) ++ t192).toList != t182.toList)) else (none))) else (none)) else (transhumancelaw4_PathMajors.j0 k a1 (wrap64 (2 + t187)) ((t188 ++ (⟨#[47, 118]⟩ : ByteArray)) ++ t189) bt190.1 bt190.2 false)) else (transhumancelaw4_PathMajors.j0 k a1 (wrap64 (2 + t187)) ((t188 ++ (⟨#[47, 118]⟩ : ByteArray)) ++ t189) bt190.1 bt190.2 true)) else (if bt183.2 > 0 then (if bt183.1.size + 2 ≤ 9223372036854775807 then ((transhumancelaw4_digits.f k bt183.2).bind fun t193 => (if bt183.1.size + 2 + t193.size ≤ 9223372036854775807 then (transhumancelaw4_PathMajors.j0 k a1 (wrap64 (2 + t187)) ((t188 ++ (⟨#[47, 118]⟩ : ByteArray)) ++ t189) bt190.1 bt190.2 (((bt183.1 ++ (⟨#[47, 118]⟩ : ByteArray)) ++ t193).toList != t182.toList)) else (none))) else (none)) else (transhumancelaw4_PathMajors.j0 k a1 (wrap64 (2 + t187)) ((t188 ++ (⟨#[47, 118]⟩ : ByteArray)) ++ t189) bt190.1 bt190.2 false))) else (transhumancelaw4_PathMajors.j0 k a1 (wrap64 (2 + t187)) ((t188 ++ (⟨#[47, 118]⟩ : ByteArray)) ++ t189) bt190.1 bt190.2 true)) else (transhumancelaw4_PathMajors.j0 k a1 (wrap64 (2 + t187)) ((t188 ++ (⟨#[47, 118]⟩ : ByteArray)) ++ t189) bt190.1 bt190.2 true))) else (none))) else (none))))))) else (some false)) = some r := H
  have A3 := Aside0.mk A30
  clear A30
  by_cases c4 : t181 = true
  · subst c4
    have H1 : ((transhumancelaw4_Make.f k a0).bind fun t182 => ((path_Major.f k t182).bind fun bt183 => ((transhumanceref4_Major.f k t182).bind fun bt185 => ((transhumancelaw4_within.f a1 98).bind fun t187 => ((transhumancelaw4_Make.f k a1).bind fun t188 => (if t188.size + 2 ≤ 9223372036854775807 then ((transhumancelaw4_digits.f k (wrap64 (2 + t187))).bind fun t189 => (if t188.size + 2 + t189.size ≤ 9223372036854775807 then ((path_Major.f k ((t188 ++ (⟨#[47, 118]⟩ : ByteArray)) ++ t189)).bind fun bt190 => (if bt183.1.toList = bt185.1.toList then (if bt183.2 = bt185.2 then (if bt183.2 = 0 then (if bt183.1.toList = t182.toList then (if bt183.2 > 0 then (if bt183.1.size + 2 ≤ 9223372036854775807 then ((transhumancelaw4_digits.f k bt183.2).bind fun t192 => (if bt183.1.size + 2 + t192.size ≤ 9223372036854775807 then (transhumancelaw4_PathMajors.j0 k a1 (wrap64 (2 + t187)) ((t188 ++ (⟨#[47, 118]⟩ : ByteArray)) ++ t189) bt190.1 bt190.2 (((bt183.1 ++ (⟨#[47, 118]⟩ : ByteArray)) ++ t192).toList != t182.toList)) else (none))) else (none)) else (transhumancelaw4_PathMajors.j0 k a1 (wrap64 (2 + t187)) ((t188 ++ (⟨#[47, 118]⟩ : ByteArray)) ++ t189) bt190.1 bt190.2 false)) else (transhumancelaw4_PathMajors.j0 k a1 (wrap64 (2 + t187)) ((t188 ++ (⟨#[47, 118]⟩ : ByteArray)) ++ t189) bt190.1 bt190.2 true)) else (if bt183.2 > 0 then (if bt183.1.size + 2 ≤ 9223372036854775807 then ((transhumancelaw4_digits.f k bt183.2).bind fun t193 => (if bt183.1.size + 2 + t193.size ≤ 9223372036854775807 then (transhumancelaw4_PathMajors.j0 k a1 (wrap64 (2 + t187)) ((t188 ++ (⟨#[47, 118]⟩ : ByteArray)) ++ t189) bt190.1 bt190.2 (((bt183.1 ++ (⟨#[47, 118]⟩ : ByteArray)) ++ t193).toList != t182.toList)) else (none))) else (none)) else (transhumancelaw4_PathMajors.j0 k a1 (wrap64 (2 + t187)) ((t188 ++ (⟨#[47, 118]⟩ : ByteArray)) ++ t189) bt190.1 bt190.2 false))) else (transhumancelaw4_PathMajors.j0 k a1 (wrap64 (2 + t187)) ((t188 ++ (⟨#[47, 118]⟩ : ByteArray)) ++ t189) bt190.1 bt190.2 true)) else (transhumancelaw4_PathMajors.j0 k a1 (wrap64 (2 + t187)) ((t188 ++ (⟨#[47, 118]⟩ : ByteArray)) ++ t189) bt190.1 bt190.2 true))) else (none))) else (none))))))) = some r := by rw [if_pos rfl] at H; exact H
    clear H
    have H := H1
    clear H1
    replace H := Option.bind_eq_some_iff.mp H
    obtain ⟨t182, A50, H⟩ := H
    replace H : ((path_Major.f k t182).bind fun bt183 => ((transhumanceref4_Major.f k t182).bind fun bt185 => ((transhumancelaw4_within.f a1 98).bind fun t187 => ((transhumancelaw4_Make.f k a1).bind fun t188 => (if t188.size + 2 ≤ 9223372036854775807 then ((transhumancelaw4_digits.f k (wrap64 (2 + t187))).bind fun t189 => (if t188.size + 2 + t189.size ≤ 9223372036854775807 then ((path_Major.f k ((t188 ++ (⟨#[47, 118]⟩ : ByteArray)) ++ t189)).bind fun bt190 => (if bt183.1.toList = bt185.1.toList then (if bt183.2 = bt185.2 then (if bt183.2 = 0 then (if bt183.1.toList = t182.toList then (if bt183.2 > 0 then (if bt183.1.size + 2 ≤ 9223372036854775807 then ((transhumancelaw4_digits.f k bt183.2).bind fun t192 => (if bt183.1.size + 2 + t192.size ≤ 9223372036854775807 then (transhumancelaw4_PathMajors.j0 k a1 (wrap64 (2 + t187)) ((t188 ++ (⟨#[47, 118]⟩ : ByteArray)) ++ t189) bt190.1 bt190.2 (((bt183.1 ++ (⟨#[47, 118]⟩ : ByteArray)) ++ t192).toList != t182.toList)) else (none))) else (none)) else (transhumancelaw4_PathMajors.j0 k a1 (wrap64 (2 + t187)) ((t188 ++ (⟨#[47, 118]⟩ : ByteArray)) ++ t189) bt190.1 bt190.2 false)) else (transhumancelaw4_PathMajors.j0 k a1 (wrap64 (2 + t187)) ((t188 ++ (⟨#[47, 118]⟩ : ByteArray)) ++ t189) bt190.1 bt190.2 true)) else (if bt183.2 > 0 then (if bt183.1.size + 2 ≤ 9223372036854775807 then ((transhumancelaw4_digits.f k bt183.2).bind fun t193 => (if bt183.1.size + 2 + t193.size ≤ 9223372036854775807 then (transhumancelaw4_PathMajors.j0 k a1 (wrap64 (2 + t187)) ((t188 ++ (⟨#[47, 118]⟩ : ByteArray)) ++ t189) bt190.1 bt190.2 (((bt183.1 ++ (⟨#[47, 118]⟩ : ByteArray)) ++ t193).toList != t182.toList)) else (none))) else (none)) else (transhumancelaw4_PathMajors.j0 k a1 (wrap64 (2 + t187)) ((t188 ++ (⟨#[47, 118]⟩ : ByteArray)) ++ t189) bt190.1 bt190.2 false))) else (transhumancelaw4_PathMajors.j0 k a1 (wrap64 (2 + t187)) ((t188 ++ (⟨#[47, 118]⟩ : ByteArray)) ++ t189) bt190.1 bt190.2 true)) else (transhumancelaw4_PathMajors.j0 k a1 (wrap64 (2 + t187)) ((t188 ++ (⟨#[47, 118]⟩ : ByteArray)) ++ t189) bt190.1 bt190.2 true))) else (none))) else (none)))))) = some r := H
    have A5 := Aside0.mk A50
    clear A50
    replace H := Option.bind_eq_some_iff.mp H
    obtain ⟨⟨t183, t184⟩, A60, H⟩ := H
    replace H : ((transhumanceref4_Major.f k t182).bind fun bt185 => ((transhumancelaw4_within.f a1 98).bind fun t187 => ((transhumancelaw4_Make.f k a1).bind fun t188 => (if t188.size + 2 ≤ 9223372036854775807 then ((transhumancelaw4_digits.f k (wrap64 (2 + t187))).bind fun t189 => (if t188.size + 2 + t189.size ≤ 9223372036854775807 then ((path_Major.f k ((t188 ++ (⟨#[47, 118]⟩ : ByteArray)) ++ t189)).bind fun bt190 => (if t183.toList = bt185.1.toList then (if t184 = bt185.2 then (if t184 = 0 then (if t183.toList = t182.toList then (if t184 > 0 then (if t183.size + 2 ≤ 9223372036854775807 then ((transhumancelaw4_digits.f k t184).bind fun t192 => (if t183.size + 2 + t192.size ≤ 9223372036854775807 then (transhumancelaw4_PathMajors.j0 k a1 (wrap64 (2 + t187)) ((t188 ++ (⟨#[47, 118]⟩ : ByteArray)) ++ t189) bt190.1 bt190.2 (((t183 ++ (⟨#[47, 118]⟩ : ByteArray)) ++ t192).toList != t182.toList)) else (none))) else (none)) else (transhumancelaw4_PathMajors.j0 k a1 (wrap64 (2 + t187)) ((t188 ++ (⟨#[47, 118]⟩ : ByteArray)) ++ t189) bt190.1 bt190.2 false)) else (transhumancelaw4_PathMajors.j0 k a1 (wrap64 (2 + t187)) ((t188 ++ (⟨#[47, 118]⟩ : ByteArray)) ++ t189) bt190.1 bt190.2 true)) else (if t184 > 0 then (if t183.size + 2 ≤ 9223372036854775807 then ((transhumancelaw4_digits.f k t184).bind fun t193 => (if t183.size + 2 + t193.size ≤ 9223372036854775807 then (transhumancelaw4_PathMajors.j0 k a1 (wrap64 (2 + t187)) ((t188 ++ (⟨#[47, 118]⟩ : ByteArray)) ++ t189) bt190.1 bt190.2 (((t183 ++ (⟨#[47, 118]⟩ : ByteArray)) ++ t193).toList != t182.toList)) else (none))) else (none)) else (transhumancelaw4_PathMajors.j0 k a1 (wrap64 (2 + t187)) ((t188 ++ (⟨#[47, 118]⟩ : ByteArray)) ++ t189) bt190.1 bt190.2 false))) else (transhumancelaw4_PathMajors.j0 k a1 (wrap64 (2 + t187)) ((t188 ++ (⟨#[47, 118]⟩ : ByteArray)) ++ t189) bt190.1 bt190.2 true)) else (transhumancelaw4_PathMajors.j0 k a1 (wrap64 (2 + t187)) ((t188 ++ (⟨#[47, 118]⟩ : ByteArray)) ++ t189) bt190.1 bt190.2 true))) else (none))) else (none))))) = some r := H
    have A6 := Aside0.mk A60
    clear A60
    replace H := Option.bind_eq_some_iff.mp H
    obtain ⟨⟨t185, t186⟩, A70, H⟩ := H
    replace H : ((transhumancelaw4_within.f a1 98).bind fun t187 => ((transhumancelaw4_Make.f k a1).bind fun t188 => (if t188.size + 2 ≤ 9223372036854775807 then ((transhumancelaw4_digits.f k (wrap64 (2 + t187))).bind fun t189 => (if t188.size + 2 + t189.size ≤ 9223372036854775807 then ((path_Major.f k ((t188 ++ (⟨#[47, 118]⟩ : ByteArray)) ++ t189)).bind fun bt190 => (if t183.toList = t185.toList then (if t184 = t186 then (if t184 = 0 then (if t183.toList = t182.toList then (if t184 > 0 then (if t183.size + 2 ≤ 9223372036854775807 then ((transhumancelaw4_digits.f k t184).bind fun t192 => (if t183.size + 2 + t192.size ≤ 9223372036854775807 then (transhumancelaw4_PathMajors.j0 k a1 (wrap64 (2 + t187)) ((t188 ++ (⟨#[47, 118]⟩ : ByteArray)) ++ t189) bt190.1 bt190.2 (((t183 ++ (⟨#[47, 118]⟩ : ByteArray)) ++ t192).toList != t182.toList)) else (none))) else (none)) else (transhumancelaw4_PathMajors.j0 k a1 (wrap64 (2 + t187)) ((t188 ++ (⟨#[47, 118]⟩ : ByteArray)) ++ t189) bt190.1 bt190.2 false)) else (transhumancelaw4_PathMajors.j0 k a1 (wrap64 (2 + t187)) ((t188 ++ (⟨#[47, 118]⟩ : ByteArray)) ++ t189) bt190.1 bt190.2 true)) else (if t184 > 0 then (if t183.size + 2 ≤ 9223372036854775807 then ((transhumancelaw4_digits.f k t184).bind fun t193 => (if t183.size + 2 + t193.size ≤ 9223372036854775807 then (transhumancelaw4_PathMajors.j0 k a1 (wrap64 (2 + t187)) ((t188 ++ (⟨#[47, 118]⟩ : ByteArray)) ++ t189) bt190.1 bt190.2 (((t183 ++ (⟨#[47, 118]⟩ : ByteArray)) ++ t193).toList != t182.toList)) else (none))) else (none)) else (transhumancelaw4_PathMajors.j0 k a1 (wrap64 (2 + t187)) ((t188 ++ (⟨#[47, 118]⟩ : ByteArray)) ++ t189) bt190.1 bt190.2 false))) else (transhumancelaw4_PathMajors.j0 k a1 (wrap64 (2 + t187)) ((t188 ++ (⟨#[47, 118]⟩ : ByteArray)) ++ t189) bt190.1 bt190.2 true)) else (transhumancelaw4_PathMajors.j0 k a1 (wrap64 (2 + t187)) ((t188 ++ (⟨#[47, 118]⟩ : ByteArray)) ++ t189) bt190.1 bt190.2 true))) else (none))) else (none)))) = some r := H
    have A7 := Aside0.mk A70
    clear A70
    replace H := Option.bind_eq_some_iff.mp H
    obtain ⟨t187, A80, H⟩ := H
    replace H : ((transhumancelaw4_Make.f k a1).bind fun t188 => (if t188.size + 2 ≤ 9223372036854775807 then ((transhumancelaw4_digits.f k (wrap64 (2 + t187))).bind fun t189 => (if t188.size + 2 + t189.size ≤ 9223372036854775807 then ((path_Major.f k ((t188 ++ (⟨#[47, 118]⟩ : ByteArray)) ++ t189)).bind fun bt190 => (if t183.toList = t185.toList then (if t184 = t186 then (if t184 = 0 then (if t183.toList = t182.toList then (if t184 > 0 then (if t183.size + 2 ≤ 9223372036854775807 then ((transhumancelaw4_digits.f k t184).bind fun t192 => (if t183.size + 2 + t192.size ≤ 9223372036854775807 then (transhumancelaw4_PathMajors.j0 k a1 (wrap64 (2 + t187)) ((t188 ++ (⟨#[47, 118]⟩ : ByteArray)) ++ t189) bt190.1 bt190.2 (((t183 ++ (⟨#[47, 118]⟩ : ByteArray)) ++ t192).toList != t182.toList)) else (none))) else (none)) else (transhumancelaw4_PathMajors.j0 k a1 (wrap64 (2 + t187)) ((t188 ++ (⟨#[47, 118]⟩ : ByteArray)) ++ t189) bt190.1 bt190.2 false)) else (transhumancelaw4_PathMajors.j0 k a1 (wrap64 (2 + t187)) ((t188 ++ (⟨#[47, 118]⟩ : ByteArray)) ++ t189) bt190.1 bt190.2 true)) else (if t184 > 0 then (if t183.size + 2 ≤ 9223372036854775807 then ((transhumancelaw4_digits.f k t184).bind fun t193 => (if t183.size + 2 + t193.size ≤ 9223372036854775807 then (transhumancelaw4_PathMajors.j0 k a1 (wrap64 (2 + t187)) ((t188 ++ (⟨#[47, 118]⟩ : ByteArray)) ++ t189) bt190.1 bt190.2 (((t183 ++ (⟨#[47, 118]⟩ : ByteArray)) ++ t193).toList != t182.toList)) else (none))) else (none)) else (transhumancelaw4_PathMajors.j0 k a1 (wrap64 (2 + t187)) ((t188 ++ (⟨#[47, 118]⟩ : ByteArray)) ++ t189) bt190.1 bt190.2 false))) else (transhumancelaw4_PathMajors.j0 k a1 (wrap64 (2 + t187)) ((t188 ++ (⟨#[47, 118]⟩ : ByteArray)) ++ t189) bt190.1 bt190.2 true)) else (transhumancelaw4_PathMajors.j0 k a1 (wrap64 (2 + t187)) ((t188 ++ (⟨#[47, 118]⟩ : ByteArray)) ++ t189) bt190.1 bt190.2 true))) else (none))) else (none))) = some r := H
    have A8 := Aside0.mk A80
    clear A80
    replace H := Option.bind_eq_some_iff.mp H
    obtain ⟨t188, A90, H⟩ := H
    replace H : (if t188.size + 2 ≤ 9223372036854775807 then ((transhumancelaw4_digits.f k (wrap64 (2 + t187))).bind fun t189 => (if t188.size + 2 + t189.size ≤ 9223372036854775807 then ((path_Major.f k ((t188 ++ (⟨#[47, 118]⟩ : ByteArray)) ++ t189)).bind fun bt190 => (if t183.toList = t185.toList then (if t184 = t186 then (if t184 = 0 then (if t183.toList = t182.toList then (if t184 > 0 then (if t183.size + 2 ≤ 9223372036854775807 then ((transhumancelaw4_digits.f k t184).bind fun t192 => (if t183.size + 2 + t192.size ≤ 9223372036854775807 then (transhumancelaw4_PathMajors.j0 k a1 (wrap64 (2 + t187)) ((t188 ++ (⟨#[47, 118]⟩ : ByteArray)) ++ t189) bt190.1 bt190.2 (((t183 ++ (⟨#[47, 118]⟩ : ByteArray)) ++ t192).toList != t182.toList)) else (none))) else (none)) else (transhumancelaw4_PathMajors.j0 k a1 (wrap64 (2 + t187)) ((t188 ++ (⟨#[47, 118]⟩ : ByteArray)) ++ t189) bt190.1 bt190.2 false)) else (transhumancelaw4_PathMajors.j0 k a1 (wrap64 (2 + t187)) ((t188 ++ (⟨#[47, 118]⟩ : ByteArray)) ++ t189) bt190.1 bt190.2 true)) else (if t184 > 0 then (if t183.size + 2 ≤ 9223372036854775807 then ((transhumancelaw4_digits.f k t184).bind fun t193 => (if t183.size + 2 + t193.size ≤ 9223372036854775807 then (transhumancelaw4_PathMajors.j0 k a1 (wrap64 (2 + t187)) ((t188 ++ (⟨#[47, 118]⟩ : ByteArray)) ++ t189) bt190.1 bt190.2 (((t183 ++ (⟨#[47, 118]⟩ : ByteArray)) ++ t193).toList != t182.toList)) else (none))) else (none)) else (transhumancelaw4_PathMajors.j0 k a1 (wrap64 (2 + t187)) ((t188 ++ (⟨#[47, 118]⟩ : ByteArray)) ++ t189) bt190.1 bt190.2 false))) else (transhumancelaw4_PathMajors.j0 k a1 (wrap64 (2 + t187)) ((t188 ++ (⟨#[47, 118]⟩ : ByteArray)) ++ t189) bt190.1 bt190.2 true)) else (transhumancelaw4_PathMajors.j0 k a1 (wrap64 (2 + t187)) ((t188 ++ (⟨#[47, 118]⟩ : ByteArray)) ++ t189) bt190.1 bt190.2 true))) else (none))) else (none)) = some r := H
    have A9 := Aside0.mk A90
    clear A90
    by_cases c10 : t188.size + 2 ≤ 9223372036854775807
    · rw [if_pos c10] at H
      have c10b0 := eq_true c10
      have c10b1 : decide (t188.size + 2 ≤ 9223372036854775807) = true := decide_eq_true c10
      try have c10b2 : (9223372036854775807 < t188.size + 2) = False := eq_false (Nat.not_lt.2 c10)
      replace H := Option.bind_eq_some_iff.mp H
      obtain ⟨t189, A110, H⟩ := H
      replace H : (if t188.size + 2 + t189.size ≤ 9223372036854775807 then ((path_Major.f k ((t188 ++ (⟨#[47, 118]⟩ : ByteArray)) ++ t189)).bind fun bt190 => (if t183.toList = t185.toList then (if t184 = t186 then (if t184 = 0 then (if t183.toList = t182.toList then (if t184 > 0 then (if t183.size + 2 ≤ 9223372036854775807 then ((transhumancelaw4_digits.f k t184).bind fun t192 => (if t183.size + 2 + t192.size ≤ 9223372036854775807 then (transhumancelaw4_PathMajors.j0 k a1 (wrap64 (2 + t187)) ((t188 ++ (⟨#[47, 118]⟩ : ByteArray)) ++ t189) bt190.1 bt190.2 (((t183 ++ (⟨#[47, 118]⟩ : ByteArray)) ++ t192).toList != t182.toList)) else (none))) else (none)) else (transhumancelaw4_PathMajors.j0 k a1 (wrap64 (2 + t187)) ((t188 ++ (⟨#[47, 118]⟩ : ByteArray)) ++ t189) bt190.1 bt190.2 false)) else (transhumancelaw4_PathMajors.j0 k a1 (wrap64 (2 + t187)) ((t188 ++ (⟨#[47, 118]⟩ : ByteArray)) ++ t189) bt190.1 bt190.2 true)) else (if t184 > 0 then (if t183.size + 2 ≤ 9223372036854775807 then ((transhumancelaw4_digits.f k t184).bind fun t193 => (if t183.size + 2 + t193.size ≤ 9223372036854775807 then (transhumancelaw4_PathMajors.j0 k a1 (wrap64 (2 + t187)) ((t188 ++ (⟨#[47, 118]⟩ : ByteArray)) ++ t189) bt190.1 bt190.2 (((t183 ++ (⟨#[47, 118]⟩ : ByteArray)) ++ t193).toList != t182.toList)) else (none))) else (none)) else (transhumancelaw4_PathMajors.j0 k a1 (wrap64 (2 + t187)) ((t188 ++ (⟨#[47, 118]⟩ : ByteArray)) ++ t189) bt190.1 bt190.2 false))) else (transhumancelaw4_PathMajors.j0 k a1 (wrap64 (2 + t187)) ((t188 ++ (⟨#[47, 118]⟩ : ByteArray)) ++ t189) bt190.1 bt190.2 true)) else (transhumancelaw4_PathMajors.j0 k a1 (wrap64 (2 + t187)) ((t188 ++ (⟨#[47, 118]⟩ : ByteArray)) ++ t189) bt190.1 bt190.2 true))) else (none)) = some r := H
      have A11 := Aside0.mk A110
      clear A110
      by_cases c12 : t188.size + 2 + t189.size ≤ 9223372036854775807
      · rw [if_pos c12] at H
        have c12b0 := eq_true c12
        have c12b1 : decide (t188.size + 2 + t189.size ≤ 9223372036854775807) = true := decide_eq_true c12
        try have c12b2 : (9223372036854775807 < t188.size + 2 + t189.size) = False := eq_false (Nat.not_lt.2 c12)
        replace H := Option.bind_eq_some_iff.mp H
        obtain ⟨⟨t190, t191⟩, A130, H⟩ := H
        replace H : (if t183.toList = t185.toList then (if t184 = t186 then (if t184 = 0 then (if t183.toList = t182.toList then (if t184 > 0 then (if t183.size + 2 ≤ 9223372036854775807 then ((transhumancelaw4_digits.f k t184).bind fun t192 => (if t183.size + 2 + t192.size ≤ 9223372036854775807 then (transhumancelaw4_PathMajors.j0 k a1 (wrap64 (2 + t187)) ((t188 ++ (⟨#[47, 118]⟩ : ByteArray)) ++ t189) t190 t191 (((t183 ++ (⟨#[47, 118]⟩ : ByteArray)) ++ t192).toList != t182.toList)) else (none))) else (none)) else (transhumancelaw4_PathMajors.j0 k a1 (wrap64 (2 + t187)) ((t188 ++ (⟨#[47, 118]⟩ : ByteArray)) ++ t189) t190 t191 false)) else (transhumancelaw4_PathMajors.j0 k a1 (wrap64 (2 + t187)) ((t188 ++ (⟨#[47, 118]⟩ : ByteArray)) ++ t189) t190 t191 true)) else (if t184 > 0 then (if t183.size + 2 ≤ 9223372036854775807 then ((transhumancelaw4_digits.f k t184).bind fun t193 => (if t183.size + 2 + t193.size ≤ 9223372036854775807 then (transhumancelaw4_PathMajors.j0 k a1 (wrap64 (2 + t187)) ((t188 ++ (⟨#[47, 118]⟩ : ByteArray)) ++ t189) t190 t191 (((t183 ++ (⟨#[47, 118]⟩ : ByteArray)) ++ t193).toList != t182.toList)) else (none))) else (none)) else (transhumancelaw4_PathMajors.j0 k a1 (wrap64 (2 + t187)) ((t188 ++ (⟨#[47, 118]⟩ : ByteArray)) ++ t189) t190 t191 false))) else (transhumancelaw4_PathMajors.j0 k a1 (wrap64 (2 + t187)) ((t188 ++ (⟨#[47, 118]⟩ : ByteArray)) ++ t189) t190 t191 true)) else (transhumancelaw4_PathMajors.j0 k a1 (wrap64 (2 + t187)) ((t188 ++ (⟨#[47, 118]⟩ : ByteArray)) ++ t189) t190 t191 true)) = some r := H
        have A13 := Aside0.mk A130
        clear A130
        have HC14 := Aside0.mk H
        clear H
        go_enter Try.func4, Try.ntmps4
        go_upto_region 9 with (first | ((with_reducible refine gate_callee (f := 12) rfl ?_); refine goesL_ (some 14) rfl rfl Try.func12 (by kernel_rfl) rfl #[] rfl (by (try simp only [List.map_toArray, List.map_cons, List.map_nil]); first | done | rfl | (simp only [List.length_drop, List.length_take]; rfl)) ?_; (with_reducible refine (transhumancelaw4_known.calls k  true _ A3.out).mono ?_); rintro e w15 ⟨rfl, hb⟩; refine ⟨_, rfl, ?_⟩; have n0_ := Aside0.mk (below_step (by repeat (first | (with_reducible first | exact HB.out | apply below_alloc | apply pw_below_drewN | apply below_drew1) | exact HB.out)) hb); clear HB; have HB := n0_; clear n0_; (try clear hb); (try clear hb2); (try clear hk); (try clear hi)) | ((with_reducible refine gate_callee (f := 13) rfl ?_); refine goesL_ (some 17) rfl rfl Try.func13 (by kernel_rfl) rfl #[.int .i64 a0] rfl (by (try simp only [List.map_toArray, List.map_cons, List.map_nil]); first | done | rfl | (simp only [List.length_drop, List.length_take]; rfl)) ?_; (with_reducible refine (transhumancelaw4_Make.calls k a0 t182 _ A5.out).mono ?_); rintro e w16 ⟨rfl, hb⟩; refine ⟨_, rfl, ?_⟩; have n0_ := Aside0.mk (below_step (by repeat (first | (with_reducible first | exact HB.out | apply below_alloc | apply pw_below_drewN | apply below_drew1) | exact HB.out)) hb); clear HB; have HB := n0_; clear n0_; (try clear hb); (try clear hb2); (try clear hk); (try clear hi)) | ((with_reducible refine gate_callee (f := 17) rfl ?_); refine goesL_ (some 20) rfl rfl Try.func17 (by kernel_rfl) rfl #[.string t182] rfl (by (try simp only [List.map_toArray, List.map_cons, List.map_nil]); first | done | rfl | (simp only [List.length_drop, List.length_take]; rfl)) ?_; (with_reducible refine (path_Major.calls k t182 t183 t184 _ A6.out).mono ?_); rintro e w17 ⟨rfl, hb⟩; refine ⟨_, rfl, ?_⟩; have n0_ := Aside0.mk (below_step (by repeat (first | (with_reducible first | exact HB.out | apply below_alloc | apply pw_below_drewN | apply below_drew1) | exact HB.out)) hb); clear HB; have HB := n0_; clear n0_; (try clear hb); (try clear hb2); (try clear hk); (try clear hi)) | ((with_reducible refine gate_callee (f := 18) rfl ?_); refine goesL_ (some 25) rfl rfl Try.func18 (by kernel_rfl) rfl #[.string t182] rfl (by (try simp only [List.map_toArray, List.map_cons, List.map_nil]); first | done | rfl | (simp only [List.length_drop, List.length_take]; rfl)) ?_; (with_reducible refine (transhumanceref4_Major.calls k t182 t185 t186 _ A7.out).mono ?_); rintro e w18 ⟨rfl, hb⟩; refine ⟨_, rfl, ?_⟩; have n0_ := Aside0.mk (below_step (by repeat (first | (with_reducible first | exact HB.out | apply below_alloc | apply pw_below_drewN | apply below_drew1) | exact HB.out)) hb); clear HB; have HB := n0_; clear n0_; (try clear hb); (try clear hb2); (try clear hk); (try clear hi)) | ((with_reducible refine gate_callee (f := 14) rfl ?_); refine goesL_ (some 29) rfl rfl Try.func14 (by kernel_rfl) rfl #[.int .i64 a1, .int .i64 98] rfl (by (try simp only [List.map_toArray, List.map_cons, List.map_nil]); first | done | rfl | (simp only [List.length_drop, List.length_take]; rfl)) ?_; (with_reducible refine (transhumancelaw4_within.calls a1 98 t187 _ A8.out).mono ?_); rintro e w' ⟨rfl, ⟨nd, rfl⟩⟩; refine ⟨_, rfl, ?_⟩) | ((with_reducible refine gate_callee (f := 13) rfl ?_); refine goesL_ (some 32) rfl rfl Try.func13 (by kernel_rfl) rfl #[.int .i64 a1] rfl (by (try simp only [List.map_toArray, List.map_cons, List.map_nil]); first | done | rfl | (simp only [List.length_drop, List.length_take]; rfl)) ?_; (with_reducible refine (transhumancelaw4_Make.calls k a1 t188 _ A9.out).mono ?_); rintro e w19 ⟨rfl, hb⟩; refine ⟨_, rfl, ?_⟩; have n0_ := Aside0.mk (below_step (by repeat (first | (with_reducible first | exact HB.out | apply below_alloc | apply pw_below_drewN | apply below_drew1) | exact HB.out)) hb); clear HB; have HB := n0_; clear n0_; (try clear hb); (try clear hb2); (try clear hk); (try clear hi)) | ((with_reducible refine gate_callee (f := 19) rfl ?_); refine goesL_ (some 35) rfl rfl Try.func19 (by kernel_rfl) rfl #[.int .i64 (wrap64 (2 + t187))] rfl (by (try simp only [List.map_toArray, List.map_cons, List.map_nil]); first | done | rfl | (simp only [List.length_drop, List.length_take]; rfl)) ?_; (with_reducible refine (transhumancelaw4_digits.calls k (wrap64 (2 + t187)) t189 _ A11.out).mono ?_); rintro e w20 ⟨rfl, hb⟩; refine ⟨_, rfl, ?_⟩; have n0_ := Aside0.mk (below_step (by repeat (first | (with_reducible first | exact HB.out | apply below_alloc | apply pw_below_drewN | apply below_drew1) | exact HB.out)) hb); clear HB; have HB := n0_; clear n0_; (try clear hb); (try clear hb2); (try clear hk); (try clear hi)) | ((with_reducible refine gate_callee (f := 17) rfl ?_); refine goesL_ (some 39) rfl rfl Try.func17 (by kernel_rfl) rfl #[.string ((t188 ++ (⟨#[47, 118]⟩ : ByteArray)) ++ t189)] rfl (by (try simp only [List.map_toArray, List.map_cons, List.map_nil]); first | done | rfl | (simp only [List.length_drop, List.length_take]; rfl)) ?_; (with_reducible refine (path_Major.calls k ((t188 ++ (⟨#[47, 118]⟩ : ByteArray)) ++ t189) t190 t191 _ A13.out).mono ?_); rintro e w21 ⟨rfl, hb⟩; refine ⟨_, rfl, ?_⟩; have n0_ := Aside0.mk (below_step (by repeat (first | (with_reducible first | exact HB.out | apply below_alloc | apply pw_below_drewN | apply below_drew1) | exact HB.out)) hb); clear HB; have HB := n0_; clear n0_; (try clear hb); (try clear hb2); (try clear hk); (try clear hi)))
        (try simp only [Act.put, List.setIfInBounds_toArray, List.set_cons_zero, List.set_cons_succ])
        go_cut [71] (fun v71 wc => ∃ (kq : Nat) (x71_13 : Bool), v71 = .bool x71_13 ∧ Aside0 (transhumancelaw4_PathMajors.j0 kq a1 (wrap64 (2 + t187)) ((t188 ++ (⟨#[47, 118]⟩ : ByteArray)) ++ t189) t190 t191 x71_13 = some r) ∧ Aside0 (kq ≤ k) ∧ Aside0 (Below w.heap.size w wc))
        case first =>
          have H := HC14.out
          clear HC14
          by_cases c22 : t183.toList = t185.toList
          · rw [if_pos c22] at H
            have c22b0 : (t183.toList == t185.toList) = true := beq_iff_eq.mpr c22
            have c22b1 : (t183.toList != t185.toList) = false := bne_eq_false_iff_eq.mpr c22
            clear c22
            (first | rw [c22b0] | (simp only [i64_w, i32_w]; rw [c22b0]) | skip)
            by_cases c23 : t184 = t186
            · rw [if_pos c23] at H
              have c23b0 : (t184 == t186) = true := beq_iff_eq.mpr c23
              have c23b1 : (t184 != t186) = false := bne_eq_false_iff_eq.mpr c23
              clear c23
              by_cases c24 : t184 = 0
              · rw [if_pos c24] at H
                have c24b0 : (t184 == 0) = true := beq_iff_eq.mpr c24
                have c24b1 : (t184 != 0) = false := bne_eq_false_iff_eq.mpr c24
                clear c24
                by_cases c25 : t183.toList = t182.toList
                · rw [if_pos c25] at H
                  have c25b0 : (t183.toList == t182.toList) = true := beq_iff_eq.mpr c25
                  have c25b1 : (t183.toList != t182.toList) = false := bne_eq_false_iff_eq.mpr c25
                  clear c25
                  by_cases c26 : t184 > 0
                  · rw [if_pos c26] at H
                    have c26b0 : decide (0 < t184) = true := decide_eq_true c26
                    clear c26
                    by_cases c27 : t183.size + 2 ≤ 9223372036854775807
                    · rw [if_pos c27] at H
                      have c27b0 := eq_true c27
                      have c27b1 : decide (t183.size + 2 ≤ 9223372036854775807) = true := decide_eq_true c27
                      try have c27b2 : (9223372036854775807 < t183.size + 2) = False := eq_false (Nat.not_lt.2 c27)
                      replace H := Option.bind_eq_some_iff.mp H
                      obtain ⟨t192, A280, H⟩ := H
                      replace H : (if t183.size + 2 + t192.size ≤ 9223372036854775807 then (transhumancelaw4_PathMajors.j0 k a1 (wrap64 (2 + t187)) ((t188 ++ (⟨#[47, 118]⟩ : ByteArray)) ++ t189) t190 t191 (((t183 ++ (⟨#[47, 118]⟩ : ByteArray)) ++ t192).toList != t182.toList)) else (none)) = some r := H
                      have A28 := Aside0.mk A280
                      clear A280
                      by_cases c29 : t183.size + 2 + t192.size ≤ 9223372036854775807
                      · rw [if_pos c29] at H
                        have c29b0 := eq_true c29
                        have c29b1 : decide (t183.size + 2 + t192.size ≤ 9223372036854775807) = true := decide_eq_true c29
                        try have c29b2 : (9223372036854775807 < t183.size + 2 + t192.size) = False := eq_false (Nat.not_lt.2 c29)
                        have H' := Aside0.mk H
                        clear H
                        go_wp2_with (first | (go_at_call 19; (with_reducible refine (transhumancelaw4_digits.calls k t184 t192 _ A28.out).mono ?_); rintro e w30 ⟨rfl, hb⟩; have n0_ := Aside0.mk (below_step (by repeat (first | (with_reducible first | exact HB.out | apply below_alloc | apply pw_below_drewN | apply below_drew1) | exact HB.out)) hb); clear HB; have HB := n0_; clear n0_; (try clear hb); (try clear hb2); (try clear hk); (try clear hi)))
                        go_meet
                        case rel => exact ⟨_, ((((t183 ++ (⟨#[47, 118]⟩ : ByteArray)) ++ t192).toList != t182.toList)), (by first | rfl | (simp; done) | (simp [*]; done)), H', ⟨by first | omega | exact Nat.le_refl _⟩, ⟨by repeat (first | (with_reducible first | exact HB.out | apply below_alloc | apply pw_below_drewN | apply below_drew1) | exact HB.out)⟩⟩
                      · rw [if_neg c29] at H
                        exact absurd H (by simp)
                    · rw [if_neg c27] at H
                      exact absurd H (by simp)
                  · rw [if_neg c26] at H
                    have c26b0 : decide (0 < t184) = false := decide_eq_false c26
                    clear c26
                    have H' := Aside0.mk H
                    clear H
                    go_wp2
                    go_meet
                    case rel => exact ⟨_, (false), (by first | rfl | (simp; done) | (simp [*]; done)), H', ⟨by first | omega | exact Nat.le_refl _⟩, ⟨by repeat (first | (with_reducible first | exact HB.out | apply below_alloc | apply pw_below_drewN | apply below_drew1) | exact HB.out)⟩⟩
                · rw [if_neg c25] at H
                  have c25b0 : (t183.toList == t182.toList) = false := beq_eq_false_iff_ne.mpr c25
                  have c25b1 : (t183.toList != t182.toList) = true := bne_iff_ne.mpr c25
                  have H' := Aside0.mk H
                  clear H
                  go_wp2
                  go_meet
                  case rel => exact ⟨_, (true), (by first | rfl | (simp; done) | (simp [*]; done)), H', ⟨by first | omega | exact Nat.le_refl _⟩, ⟨by repeat (first | (with_reducible first | exact HB.out | apply below_alloc | apply pw_below_drewN | apply below_drew1) | exact HB.out)⟩⟩
              · rw [if_neg c24] at H
                have c24b0 : (t184 == 0) = false := beq_eq_false_iff_ne.mpr c24
                have c24b1 : (t184 != 0) = true := bne_iff_ne.mpr c24
                by_cases c31 : t184 > 0
                · rw [if_pos c31] at H
                  have c31b0 : decide (0 < t184) = true := decide_eq_true c31
                  clear c31
                  by_cases c32 : t183.size + 2 ≤ 9223372036854775807
                  · rw [if_pos c32] at H
                    have c32b0 := eq_true c32
                    have c32b1 : decide (t183.size + 2 ≤ 9223372036854775807) = true := decide_eq_true c32
                    try have c32b2 : (9223372036854775807 < t183.size + 2) = False := eq_false (Nat.not_lt.2 c32)
                    replace H := Option.bind_eq_some_iff.mp H
                    obtain ⟨t193, A330, H⟩ := H
                    replace H : (if t183.size + 2 + t193.size ≤ 9223372036854775807 then (transhumancelaw4_PathMajors.j0 k a1 (wrap64 (2 + t187)) ((t188 ++ (⟨#[47, 118]⟩ : ByteArray)) ++ t189) t190 t191 (((t183 ++ (⟨#[47, 118]⟩ : ByteArray)) ++ t193).toList != t182.toList)) else (none)) = some r := H
                    have A33 := Aside0.mk A330
                    clear A330
                    by_cases c34 : t183.size + 2 + t193.size ≤ 9223372036854775807
                    · rw [if_pos c34] at H
                      have c34b0 := eq_true c34
                      have c34b1 : decide (t183.size + 2 + t193.size ≤ 9223372036854775807) = true := decide_eq_true c34
                      try have c34b2 : (9223372036854775807 < t183.size + 2 + t193.size) = False := eq_false (Nat.not_lt.2 c34)
                      have H' := Aside0.mk H
                      clear H
                      go_wp2_with (first | (go_at_call 19; (with_reducible refine (transhumancelaw4_digits.calls k t184 t193 _ A33.out).mono ?_); rintro e w35 ⟨rfl, hb⟩; have n0_ := Aside0.mk (below_step (by repeat (first | (with_reducible first | exact HB.out | apply below_alloc | apply pw_below_drewN | apply below_drew1) | exact HB.out)) hb); clear HB; have HB := n0_; clear n0_; (try clear hb); (try clear hb2); (try clear hk); (try clear hi)))
                      go_meet
                      case rel => exact ⟨_, ((((t183 ++ (⟨#[47, 118]⟩ : ByteArray)) ++ t193).toList != t182.toList)), (by first | rfl | (simp; done) | (simp [*]; done)), H', ⟨by first | omega | exact Nat.le_refl _⟩, ⟨by repeat (first | (with_reducible first | exact HB.out | apply below_alloc | apply pw_below_drewN | apply below_drew1) | exact HB.out)⟩⟩
                    · rw [if_neg c34] at H
                      exact absurd H (by simp)
                  · rw [if_neg c32] at H
                    exact absurd H (by simp)
                · rw [if_neg c31] at H
                  have c31b0 : decide (0 < t184) = false := decide_eq_false c31
                  clear c31
                  have H' := Aside0.mk H
                  clear H
                  go_wp2
                  go_meet
                  case rel => exact ⟨_, (false), (by first | rfl | (simp; done) | (simp [*]; done)), H', ⟨by first | omega | exact Nat.le_refl _⟩, ⟨by repeat (first | (with_reducible first | exact HB.out | apply below_alloc | apply pw_below_drewN | apply below_drew1) | exact HB.out)⟩⟩
            · rw [if_neg c23] at H
              have c23b0 : (t184 == t186) = false := beq_eq_false_iff_ne.mpr c23
              have c23b1 : (t184 != t186) = true := bne_iff_ne.mpr c23
              have H' := Aside0.mk H
              clear H
              go_wp2
              go_meet
              case rel => exact ⟨_, (true), (by first | rfl | (simp; done) | (simp [*]; done)), H', ⟨by first | omega | exact Nat.le_refl _⟩, ⟨by repeat (first | (with_reducible first | exact HB.out | apply below_alloc | apply pw_below_drewN | apply below_drew1) | exact HB.out)⟩⟩
          · rw [if_neg c22] at H
            have c22b0 : (t183.toList == t185.toList) = false := beq_eq_false_iff_ne.mpr c22
            have c22b1 : (t183.toList != t185.toList) = true := bne_iff_ne.mpr c22
            (first | rw [c22b0] | (simp only [i64_w, i32_w]; rw [c22b0]) | skip)
            have H' := Aside0.mk H
            clear H
            go_wp2
            go_meet
            case rel => exact ⟨_, (true), (by first | rfl | (simp; done) | (simp [*]; done)), H', ⟨by first | omega | exact Nat.le_refl _⟩, ⟨by repeat (first | (with_reducible first | exact HB.out | apply below_alloc | apply pw_below_drewN | apply below_drew1) | exact HB.out)⟩⟩
        case rest =>
          clear HC14
          try clear c1
          try clear c2
          try clear p2
          try clear c3
          try clear c4
          try clear p6
          try clear c10
          try clear c10b0
          try clear c10b1
          try clear c10b2
          try clear c12
          try clear c12b0
          try clear c12b1
          try clear c12b2
          try clear c13
          try clear c14
          try clear c17
          try clear c18
          try clear c19
          try clear c22
          try clear c22b0
          try clear c22b1
          try clear c23
          try clear c23b0
          try clear c23b1
          try clear c24
          try clear c24b0
          try clear c24b1
          try clear c25
          try clear c25b0
          try clear c25b1
          try clear c26
          try clear c26b0
          try clear c27
          try clear c27b0
          try clear c27b1
          try clear c27b2
          try clear c29
          try clear c29b0
          try clear c29b1
          try clear c29b2
          try clear c31
          try clear c31b0
          try clear c32
          try clear c32b0
          try clear c32b1
          try clear c32b2
          try clear c34
          try clear c34b0
          try clear c34b1
          try clear c34b2
          obtain ⟨kq, x71_13, rfl, HA, HJ13, HB⟩ := hcut
          cases kq with
          | zero => exact absurd HA.out (by simp [transhumancelaw4_PathMajors.j0])
          | succ kj13 =>
            have H := HA.out
            clear HA
            simp only [transhumancelaw4_PathMajors.j0] at H
            by_cases c36 : x71_13 = true
            · subst c36
              have H1 : (some false) = some r := by rw [if_pos rfl] at H; exact H
              clear H
              have H := H1
              clear H1
              obtain rfl := Option.some.inj H
              go_wp2
              go_ret
              exact ⟨by first | rfl | (simp [errW_none, errW_some] <;> rfl) | (simp [*, errW_none, errW_some] <;> rfl), by repeat (first | (with_reducible first | exact HB.out | apply below_alloc | apply pw_below_drewN | apply below_drew1) | exact HB.out)⟩
            · replace c36 := Bool.eq_false_iff.mpr c36
              subst c36
              have H1 : (if (((t188 ++ (⟨#[47, 118]⟩ : ByteArray)) ++ t189).size : Int) > 40 then (some true) else ((transhumancelaw4_Make.f kj13 a1).bind fun t194 => (if t190.toList = t194.toList then (some (t191 == (wrap64 (2 + t187)))) else (some false)))) = some r := by rw [if_neg (show ¬ (false = true) by decide)] at H; exact H
              clear H
              have H := H1
              clear H1
              by_cases c37 : (((t188 ++ (⟨#[47, 118]⟩ : ByteArray)) ++ t189).size : Int) > 40
              · rw [if_pos c37] at H
                have c37b0 : decide (40 < (((t188 ++ (⟨#[47, 118]⟩ : ByteArray)) ++ t189).size : Int)) = true := decide_eq_true c37
                have c37b1 : decide (40 < ((t188 ++ (⟨#[47, 118]⟩ : ByteArray)) ++ t189).size) = true := decide_eq_true (by omega)
                have c37b2 : decide (40 < (t188.size : Int) + 2 + (t189.size : Int)) = true := decide_eq_true (by have h_ := c37; simp only [ByteArray.size_append] at h_; have : (⟨#[47, 118]⟩ : ByteArray).size = 2 := rfl; omega)
                clear c37
                obtain rfl := Option.some.inj H
                go_wp2
                go_ret
                exact ⟨by first | rfl | (simp [errW_none, errW_some] <;> rfl) | (simp [*, errW_none, errW_some] <;> rfl), by repeat (first | (with_reducible first | exact HB.out | apply below_alloc | apply pw_below_drewN | apply below_drew1) | exact HB.out)⟩
              · rw [if_neg c37] at H
                have c37b0 : decide (40 < (((t188 ++ (⟨#[47, 118]⟩ : ByteArray)) ++ t189).size : Int)) = false := decide_eq_false c37
                have c37b1 : decide (40 < ((t188 ++ (⟨#[47, 118]⟩ : ByteArray)) ++ t189).size) = false := decide_eq_false (by omega)
                have c37b2 : decide (40 < (t188.size : Int) + 2 + (t189.size : Int)) = false := decide_eq_false (by have h_ := c37; simp only [ByteArray.size_append] at h_; have : (⟨#[47, 118]⟩ : ByteArray).size = 2 := rfl; omega)
                clear c37
                replace H := Option.bind_eq_some_iff.mp H
                obtain ⟨t194, A380, H⟩ := H
                replace H : (if t190.toList = t194.toList then (some (t191 == (wrap64 (2 + t187)))) else (some false)) = some r := H
                have A38 := Aside0.mk A380
                clear A380
                by_cases c39 : t190.toList = t194.toList
                · rw [if_pos c39] at H
                  have c39b0 : (t190.toList == t194.toList) = true := beq_iff_eq.mpr c39
                  have c39b1 : (t190.toList != t194.toList) = false := bne_eq_false_iff_eq.mpr c39
                  clear c39
                  obtain rfl := Option.some.inj H
                  go_wp2_with (first | (go_at_call 13; (with_reducible refine (transhumancelaw4_Make.calls kj13 a1 t194 _ A38.out).mono ?_); rintro e w40 ⟨rfl, hb⟩; have n0_ := Aside0.mk (below_step (by repeat (first | (with_reducible first | exact HB.out | apply below_alloc | apply pw_below_drewN | apply below_drew1) | exact HB.out)) hb); clear HB; have HB := n0_; clear n0_; (try clear hb); (try clear hb2); (try clear hk); (try clear hi)))
                  go_ret
                  exact ⟨by first | rfl | (simp [errW_none, errW_some] <;> rfl) | (simp [*, errW_none, errW_some] <;> rfl), by repeat (first | (with_reducible first | exact HB.out | apply below_alloc | apply pw_below_drewN | apply below_drew1) | exact HB.out)⟩
                · rw [if_neg c39] at H
                  have c39b0 : (t190.toList == t194.toList) = false := beq_eq_false_iff_ne.mpr c39
                  have c39b1 : (t190.toList != t194.toList) = true := bne_iff_ne.mpr c39
                  obtain rfl := Option.some.inj H
                  go_wp2_with (first | (go_at_call 13; (with_reducible refine (transhumancelaw4_Make.calls kj13 a1 t194 _ A38.out).mono ?_); rintro e w41 ⟨rfl, hb⟩; have n0_ := Aside0.mk (below_step (by repeat (first | (with_reducible first | exact HB.out | apply below_alloc | apply pw_below_drewN | apply below_drew1) | exact HB.out)) hb); clear HB; have HB := n0_; clear n0_; (try clear hb); (try clear hb2); (try clear hk); (try clear hi)))
                  go_ret
                  exact ⟨by first | rfl | (simp [errW_none, errW_some] <;> rfl) | (simp [*, errW_none, errW_some] <;> rfl), by repeat (first | (with_reducible first | exact HB.out | apply below_alloc | apply pw_below_drewN | apply below_drew1) | exact HB.out)⟩
      · rw [if_neg c12] at H
        exact absurd H (by simp)
    · rw [if_neg c10] at H
      exact absurd H (by simp)
  · replace c4 := Bool.eq_false_iff.mpr c4
    subst c4
    have H1 : (some false) = some r := by rw [if_neg (show ¬ (false = true) by decide)] at H; exact H
    clear H
    have H := H1
    clear H1
    obtain rfl := Option.some.inj H
    go_enter Try.func4, Try.ntmps4
    go_wp2_with (first | ((with_reducible refine gate_callee (f := 12) rfl ?_); refine goesL_ (some 14) rfl rfl Try.func12 (by kernel_rfl) rfl #[] rfl (by (try simp only [List.map_toArray, List.map_cons, List.map_nil]); first | done | rfl | (simp only [List.length_drop, List.length_take]; rfl)) ?_; (with_reducible refine (transhumancelaw4_known.calls k  false _ A3.out).mono ?_); rintro e w42 ⟨rfl, hb⟩; refine ⟨_, rfl, ?_⟩; have n0_ := Aside0.mk (below_step (by repeat (first | (with_reducible first | exact HB.out | apply below_alloc | apply pw_below_drewN | apply below_drew1) | exact HB.out)) hb); clear HB; have HB := n0_; clear n0_; (try clear hb); (try clear hb2); (try clear hk); (try clear hi)))
    go_ret
    exact ⟨by first | rfl | (simp [errW_none, errW_some] <;> rfl) | (simp [*, errW_none, errW_some] <;> rfl), by repeat (first | (with_reducible first | exact HB.out | apply below_alloc | apply pw_below_drewN | apply below_drew1) | exact HB.out)⟩

/-- THE ONE PURE STATEMENT of transhumancelaw4_PathMajors: yours. -/
def transhumancelaw4_PathMajors.Pure : Prop := ∀ (a0 : Int) (a1 : Int), (Lit.int .i64 a0).wf = true → (Lit.int .i64 a1).wf = true → ∃ k, transhumancelaw4_PathMajors.f k a0 a1 = some true
theorem transhumancelaw4_PathMajors.walk (P : transhumancelaw4_PathMajors.Pure) (a0 : Int) (a1 : Int) (w : World) (w0 : (Lit.int .i64 a0).wf = true) (w1 : (Lit.int .i64 a1).wf = true) :
    Calls Try.prog 4 #[.int .i64 a0, .int .i64 a1] w fun e w' => e = .returned (.bool true) ∧ Below w.heap.size w w' := by
  obtain ⟨k, h⟩ := P a0 a1 w0 w1
  refine (transhumancelaw4_PathMajors.calls k a0 a1 true w h).mono ?_
  rintro e w' ⟨rfl, hd⟩
  exact ⟨rfl, hd⟩

end Go.Proofs.Ytelommablohfoaa.X
