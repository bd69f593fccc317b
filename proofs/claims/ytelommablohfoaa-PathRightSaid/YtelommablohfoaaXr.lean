-- Laid by this session's own program (wip/xprint.py). Not trusted: Lean checks it.
import Derived.Test.YtelommablohfoaaXx0
import Derived.Test.YtelommablohfoaaSb
import Derived.Test.YtelommablohfoaaXx1
import Derived.Test.YtelommablohfoaaXx5
import Derived.Test.YtelommablohfoaaXx6
namespace Go.Proofs.Ytelommablohfoaa.X
open Go.RowKit Go.Proofs.YtelommablohfoaaW.PrintWords Go.Proofs.YtelommablohfoaaW.PrintLast Go.Proofs.YtelommablohfoaaW.PrintMore
attribute [local go_sem] max2_int min2_int max_two min_two max_three min_three max_four min_four   -- for this text's walks alone
set_option linter.unusedVariables false
set_option linter.unusedSimpArgs false

/-! ### transhumancelaw4_PathRight: function 3 -/
def transhumancelaw4_PathRight.l0 : Nat → ByteArray → List ByteArray → Int → Option (Bool)
  | 0, _, _, _ => none
  | k + 1, x11, x14, x15 => if x15 < (x14.length : Int) then (if 0 ≤ x15 then ((path_Right.f k (rdOf ByteArray.empty x14 x15)).bind fun t182 => ((transhumanceref4_Right.f k (rdOf ByteArray.empty x14 x15)).bind fun t184 => (if (t182 != t184) = true then (some false) else (transhumancelaw4_PathRight.l0 k x11 x14 (wrap64 (x15 + 1)))))) else (none)) else ((path_Right.f k x11).bind fun t180 => (some t180))
def transhumancelaw4_PathRight.f (k : Nat) (a0 : Int) (a1 : Int) (a2 : Int) (a3 : Int) (a4 : ByteArray) : Option (Bool) := (transhumancelaw4_known.f k).bind fun t168 => (if t168 = true then (if (a4.size : Int) > 60 then (some true) else ((transhumancelaw4_Make.f k a0).bind fun t169 => ((some (bytesI t169 : List Int)).bind fun y170 => ((transhumancelaw4_within.f a1 (y170.length : Int)).bind fun t173 => (if 0 ≤ t173 then (if t173 < (y170.length : Int) then ((transhumancelaw4_within.f a3 (wrap64 ((t169.size : Int) + 1))).bind fun t176 => (if 0 ≤ t176 then (if t176 ≤ (t169.size : Int) then (if (t169.extract 0 (t176 : Int).toNat).size + a4.size ≤ 9223372036854775807 then (if (t169.extract 0 (t176 : Int).toNat).size + a4.size + (t169.extract (t176 : Int).toNat t169.size).size ≤ 9223372036854775807 then (if t169.size + 1 ≤ 9223372036854775807 then (if 1 + t169.size ≤ 9223372036854775807 then (if t169.size + 1 + t169.size ≤ 9223372036854775807 then (if t169.size + 1 + t169.size + 1 ≤ 9223372036854775807 then (if t169.size + 1 + t169.size + 1 + t169.size ≤ 9223372036854775807 then (transhumancelaw4_PathRight.l0 k t169 (([strOfNums (y170.set (t173 : Int).toNat (((rd y170 t173) + a2) % 256)), t169.extract 0 (t176 : Int).toNat, ((t169.extract 0 (t176 : Int).toNat) ++ a4) ++ (t169.extract (t176 : Int).toNat t169.size), a4, t169 ++ (⟨#[47]⟩ : ByteArray), (⟨#[47]⟩ : ByteArray) ++ t169, (((t169 ++ (⟨#[47]⟩ : ByteArray)) ++ t169) ++ (⟨#[47]⟩ : ByteArray)) ++ t169, (⟨#[97, 47, 46, 47, 98]⟩ : ByteArray), (⟨#[46, 46]⟩ : ByteArray), (⟨#[]⟩ : ByteArray)] : List ByteArray)) 0) else (none)) else (none)) else (none)) else (none)) else (none)) else (none)) else (none)) else (none)) else (none))) else (none)) else (none)))))) else (some false))
theorem transhumancelaw4_PathRight.mono_l : ∀ k, (∀ y0 y1 y2, LeO (transhumancelaw4_PathRight.l0 k y0 y1 y2) (transhumancelaw4_PathRight.l0 (k + 1) y0 y1 y2))
  | 0 => fun _ _ _ r h => by simp [transhumancelaw4_PathRight.l0] at h
  | k + 1 => by
    have ih0 := transhumancelaw4_PathRight.mono_l k
    · intro y0 y1 y2
      unfold transhumancelaw4_PathRight.l0
      repeat' first
      | (with_reducible exact ih0 _ _ _)
      | (with_reducible exact path_Right.mono _ _)
      | (with_reducible exact transhumancelaw4_Make.mono _ _)
      | (with_reducible exact transhumancelaw4_known.mono _)
      | (with_reducible exact transhumanceref4_Right.mono _ _)
      | (with_reducible exact LeO.refl _)
      | (with_reducible exact LeO.none _)
      | (with_reducible refine LeO.ite ?_ ?_)
      | (with_reducible refine LeO.bind ?_ (fun _ => ?_))
      | exact ih0 _ _ _
      | exact path_Right.mono _ _
      | exact transhumancelaw4_Make.mono _ _
      | exact transhumancelaw4_known.mono _
      | exact transhumanceref4_Right.mono _ _
      | exact LeO.none _
      | refine LeO.ite ?_ ?_
      | refine LeO.bind ?_ (fun _ => ?_)
theorem transhumancelaw4_PathRight.mono : ∀ a0 a1 a2 a3 a4 k, LeO (transhumancelaw4_PathRight.f k a0 a1 a2 a3 a4) (transhumancelaw4_PathRight.f (k + 1) a0 a1 a2 a3 a4) := by
  intro a0 a1 a2 a3 a4 k
  have ih0 := transhumancelaw4_PathRight.mono_l k
  unfold transhumancelaw4_PathRight.f
  repeat' first
      | (with_reducible exact ih0 _ _ _)
      | (with_reducible exact path_Right.mono _ _)
      | (with_reducible exact transhumancelaw4_Make.mono _ _)
      | (with_reducible exact transhumancelaw4_known.mono _)
      | (with_reducible exact transhumanceref4_Right.mono _ _)
      | (with_reducible exact LeO.refl _)
      | (with_reducible exact LeO.none _)
      | (with_reducible refine LeO.ite ?_ ?_)
      | (with_reducible refine LeO.bind ?_ (fun _ => ?_))
      | exact ih0 _ _ _
      | exact path_Right.mono _ _
      | exact transhumancelaw4_Make.mono _ _
      | exact transhumancelaw4_known.mono _
      | exact transhumanceref4_Right.mono _ _
      | exact LeO.none _
      | refine LeO.ite ?_ ?_
      | refine LeO.bind ?_ (fun _ => ?_)
def transhumancelaw4_PathRight.T9 : Bool × List (List Nat × List Nat) := (true, [([], []), ([0], [0]), ([], []), ([], []), ([2, 3], [2, 3]), ([], []), ([], []), ([5, 6], [5, 6]), ([], []), ([7, 8], [7, 8]), ([], []), ([], []), ([10, 11], [10, 11]), ([9, 12], [9, 12]), ([], []), ([], []), ([15], [15]), ([], []), ([17], [17]), ([], []), ([19], [19]), ([], []), ([20, 21], [20, 21]), ([22], [22]), ([], []), ([23, 24], [23, 24]), ([1, 4, 13, 14, 16, 18, 25], [1, 4, 13, 14, 16, 18, 25]), ([26, 0, 1, 2, 3, 4, 5, 6, 7, 8, 9, 10, 11, 12, 13, 14, 15, 16, 17, 18, 19, 20, 21, 22, 23, 24, 25, 26], [26])])
def transhumancelaw4_PathRight.B9 : List Nat := [0, 1, 0, 0, 12, 0, 0, 96, 0, 480, 0, 0, 3072, 8160, 0, 0, 32768, 0, 131072, 0, 524288, 0, 3670016, 7864320, 0, 33030144, 67108863, 134217727]
theorem transhumancelaw4_PathRight.tab9 : rtab .any (opsOf Try.f3 9) = transhumancelaw4_PathRight.T9 := by kernel_rfl
theorem transhumancelaw4_PathRight.bits9 : waitsOk transhumancelaw4_PathRight.T9.2 transhumancelaw4_PathRight.B9 = true := by kernel_rfl
def transhumancelaw4_PathRight.T13 : Bool × List (List Nat × List Nat) := (true, [([], []), ([], []), ([0, 1], [0, 1]), ([2], [2]), ([3], [3]), ([], []), ([], []), ([5, 6], [5, 6]), ([7], [7]), ([8, 4], [8]), ([4, 9], [4, 9])])
def transhumancelaw4_PathRight.B13 : List Nat := [0, 0, 3, 7, 15, 0, 0, 96, 224, 511, 1023]
theorem transhumancelaw4_PathRight.tab13 : rtab .any (opsOf Try.f3 13) = transhumancelaw4_PathRight.T13 := by kernel_rfl
theorem transhumancelaw4_PathRight.bits13 : waitsOk transhumancelaw4_PathRight.T13.2 transhumancelaw4_PathRight.B13 = true := by kernel_rfl
set_option maxHeartbeats 8000000 in
set_option maxRecDepth 100000 in
theorem transhumancelaw4_PathRight.calls (k : Nat) (a0 : Int) (a1 : Int) (a2 : Int) (a3 : Int) (a4 : ByteArray) (r : Bool) (w : World) (h : transhumancelaw4_PathRight.f k a0 a1 a2 a3 a4 = some r) :
    Calls Try.prog 3 #[.int .i64 a0, .int .i64 a1, .int .u8 a2, .int .i64 a3, .string a4] w fun e w' => e = .returned (.bool r) ∧ Below w.heap.size w w' := by
  have HB := Aside0.mk (Below.refl w.heap.size w)
  have H : ((transhumancelaw4_known.f k).bind fun t168 => (if t168 = true then (if (a4.size : Int) > 60 then (some true) else ((transhumancelaw4_Make.f k a0).bind fun t169 => ((some (bytesI t169 : List Int)).bind fun y170 => ((transhumancelaw4_within.f a1 (y170.length : Int)).bind fun t173 => (if 0 ≤ t173 then (if t173 < (y170.length : Int) then ((transhumancelaw4_within.f a3 (wrap64 ((t169.size : Int) + 1))).bind fun t176 => (if 0 ≤ t176 then (if t176 ≤ (t169.size : Int) then (if (t169.extract 0 (t176 : Int).toNat).size + a4.size ≤ 9223372036854775807 then (if (t169.extract 0 (t176 : Int).toNat).size + a4.size + (t169.extract (t176 : Int).toNat t169.size).size ≤ 9223372036854775807 then (if t169.size + 1 ≤ 9223372036854775807 then (if 1 + t169.size ≤ 9223372036854775807 then (if t169.size + 1 + t169.size ≤ 9223372036854775807 then (if t169.size + 1 + t169.size + 1 ≤ 9223372036854775807 then (if t169.size + 1 + t169.size + 1 + t169.size ≤ 9223372036854775807 then (transhumancelaw4_PathRight.l0 k t169 (([strOfNums (y170.set (t173 : Int).toNat (((rd y170 t173) + a2) % 256)), t169.extract 0 (t176 : Int).toNat, ((t169.extract 0 (t176 : Int).toNat) ++ a4) ++ (t169.extract (t176 : Int).toNat t169.size), a4, t169 ++ (⟨#[47]⟩ : ByteArray), (⟨#[47]⟩ : ByteArray) ++ t169, (((t169 ++ (⟨#[47]⟩ : ByteArray)) ++ t169) ++ (⟨#[47]⟩ : ByteArray)) ++ t169, (⟨#[97, 47, 46, 47, 98]⟩ : ByteArray), (⟨#[46, 46]⟩ : ByteArray), (⟨#[]⟩ : ByteArray)] : List ByteArray)) 0) else (none)) else (none)) else (none)) else (none)) else (none)) else (none)) else (none)) else (none)) else (none))) else (none)) else (none)))))) else (some false))) = some r := h
  clear h
  replace H := Option.bind_eq_some_iff.mp H
  obtain ⟨t168, A60, H⟩ := H
  replace H : (if t168 = true then (if (a4.size : Int) > 60 then (some true) else ((transhumancelaw4_Make.f k a0).bind fun t169 => ((some (bytesI t169 : List Int)).bind fun y170 => ((transhumancelaw4_within.f a1 (y170.length : Int)).bind fun t173 => (if 0 ≤ t173 then (if t173 < (y170.length : Int) then ((transhumancelaw4_within.f a3 (wrap64 ((t169.size : Int) + 1))).bind fun t176 => (if 0 ≤ t176 then (if t176 ≤ (t169.size : Int) then (if (t169.extract 0 (t176 : Int).toNat).size + a4.size ≤ 9223372036854775807 then (if (t169.extract 0 (t176 : Int).toNat).size + a4.size + (t169.extract (t176 : Int).toNat t169.size).size ≤ 9223372036854775807 then (if t169.size + 1 ≤ 9223372036854775807 then (if 1 + t169.size ≤ 9223372036854775807 then (if t169.size + 1 + t169.size ≤ 9223372036854775807 then (if t169.size + 1 + t169.size + 1 ≤ 9223372036854775807 then (if t169.size + 1 + t169.size + 1 + t169.size ≤ 9223372036854775807 then (transhumancelaw4_PathRight.l0 k t169 (([strOfNums (y170.set (t173 : Int).toNat (((rd y170 t173) + a2) % 256)), t169.extract 0 (t176 : Int).toNat, ((t169.extract 0 (t176 : Int).toNat) ++ a4) ++ (t169.extract (t176 : Int).toNat t169.size), a4, t169 ++ (⟨#[47]⟩ : ByteArray), (⟨#[47]⟩ : ByteArray) ++ t169, (((t169 ++ (⟨#[47]⟩ : ByteArray)) ++ t169) ++ (⟨#[47]⟩ : ByteArray)) ++ t169, (⟨#[97, 47, 46, 47, 98]⟩ : ByteArray), (⟨#[46, 46]⟩ : ByteArray), (⟨#[]⟩ : ByteArray)] : List ByteArray)) 0) else (none)) else (none)) else (none)) else (none)) else (none)) else (none)) else (none)) else (none)) else (none))) else (none)) else (none)))))) else (some false)) = some r := H
  have A6 := Aside0.mk A60
  clear A60
  by_cases c7 : t168 = true
  · subst c7
    have H1 : (if (a4.size : Int) > 60 then (some true) else ((transhumancelaw4_Make.f k a0).bind fun t169 => ((some (bytesI t169 : List Int)).bind fun y170 => ((transhumancelaw4_within.f a1 (y170.length : Int)).bind fun t173 => (if 0 ≤ t173 then (if t173 < (y170.length : Int) then ((transhumancelaw4_within.f a3 (wrap64 ((t169.size : Int) + 1))).bind fun t176 => (if 0 ≤ t176 then (if t176 ≤ (t169.size : Int) then (if (t169.extract 0 (t176 : Int).toNat).size + a4.size ≤ 9223372036854775807 then (if (t169.extract 0 (t176 : Int).toNat).size + a4.size + (t169.extract (t176 : Int).toNat t169.size).size ≤ 9223372036854775807 then (if t169.size + 1 ≤ 9223372036854775807 then (if 1 + t169.size ≤ 9223372036854775807 then (if t169.size + 1 + t169.size ≤ 9223372036854775807 then (if t169.size + 1 + t169.size + 1 ≤ 9223372036854775807 then (if t169.size + 1 + t169.size + 1 + t169.size ≤ 9223372036854775807 then (transhumancelaw4_PathRight.l0 k t169 (([strOfNums (y170.set (t173 : Int).toNat (((rd y170 t173) + a2) % 256)), t169.extract 0 (t176 : Int).toNat, ((t169.extract 0 (t176 : Int).toNat) ++ a4) ++ (t169.extract (t176 : Int).toNat t169.size), a4, t169 ++ (⟨#[47]⟩ : ByteArray), (⟨#[47]⟩ : ByteArray) ++ t169, (((t169 ++ (⟨#[47]⟩ : ByteArray)) ++ t169) ++ (⟨#[47]⟩ : ByteArray)) ++ t169, (⟨#[97, 47, 46, 47, 98]⟩ : ByteArray), (⟨#[46, 46]⟩ : ByteArray), (⟨#[]⟩ : ByteArray)] : List ByteArray)) 0) else (none)) else (none)) else (none)) else (none)) else (none)) else (none)) else (none)) else (none)) else (none))) else (none)) else (none)))))) = some r := by rw [if_pos rfl] at H; exact H
    clear H
    have H := H1
    clear H1
    by_cases c8 : (a4.size : Int) > 60
    · rw [if_pos c8] at H
      have c8b0 : decide (60 < (a4.size : Int)) = true := decide_eq_true c8
      have c8b1 : decide (60 < a4.size) = true := decide_eq_true (by omega)
      clear c8
      obtain rfl := Option.some.inj H
      go_enter Try.func3, Try.ntmps3
      go_wp2_with (first | ((with_reducible refine gate_callee (f := 12) rfl ?_); refine goesL_ (some 16) rfl rfl Try.func12 (by kernel_rfl) rfl #[] rfl (by (try simp only [List.map_toArray, List.map_cons, List.map_nil]); first | done | rfl | (simp only [List.length_drop, List.length_take]; rfl)) ?_; (with_reducible refine (transhumancelaw4_known.calls k  true _ A6.out).mono ?_); rintro e w9 ⟨rfl, hb⟩; refine ⟨_, rfl, ?_⟩; have n0_ := Aside0.mk (below_step (by repeat (first | (with_reducible first | exact HB.out | apply below_alloc | apply pw_below_drewN | apply below_drew1) | exact HB.out)) hb); clear HB; have HB := n0_; clear n0_; (try clear hb); (try clear hb2); (try clear hk); (try clear hi)))
      go_ret
      exact ⟨by first | rfl | (simp [errW_none, errW_some] <;> rfl) | (simp [*, errW_none, errW_some] <;> rfl), by repeat (first | (with_reducible first | exact HB.out | apply below_alloc | apply pw_below_drewN | apply below_drew1) | exact HB.out)⟩
    · rw [if_neg c8] at H
      have c8b0 : decide (60 < (a4.size : Int)) = false := decide_eq_false c8
      have c8b1 : decide (60 < a4.size) = false := decide_eq_false (by omega)
      clear c8
      replace H := Option.bind_eq_some_iff.mp H
      obtain ⟨t169, A100, H⟩ := H
      replace H : ((some (bytesI t169 : List Int)).bind fun y170 => ((transhumancelaw4_within.f a1 (y170.length : Int)).bind fun t173 => (if 0 ≤ t173 then (if t173 < (y170.length : Int) then ((transhumancelaw4_within.f a3 (wrap64 ((t169.size : Int) + 1))).bind fun t176 => (if 0 ≤ t176 then (if t176 ≤ (t169.size : Int) then (if (t169.extract 0 (t176 : Int).toNat).size + a4.size ≤ 9223372036854775807 then (if (t169.extract 0 (t176 : Int).toNat).size + a4.size + (t169.extract (t176 : Int).toNat t169.size).size ≤ 9223372036854775807 then (if t169.size + 1 ≤ 9223372036854775807 then (if 1 + t169.size ≤ 9223372036854775807 then (if t169.size + 1 + t169.size ≤ 9223372036854775807 then (if t169.size + 1 + t169.size + 1 ≤ 9223372036854775807 then (if t169.size + 1 + t169.size + 1 + t169.size ≤ 9223372036854775807 then (transhumancelaw4_PathRight.l0 k t169 (([strOfNums (y170.set (t173 : Int).toNat (((rd y170 t173) + a2) % 256)), t169.extract 0 (t176 : Int).toNat, ((t169.extract 0 (t176 : Int).toNat) ++ a4) ++ (t169.extract (t176 : Int).toNat t169.size), a4, t169 ++ (⟨#[47]⟩ : ByteArray), (⟨#[47]⟩ : ByteArray) ++ t169, (((t169 ++ (⟨#[47]⟩ : ByteArray)) ++ t169) ++ (⟨#[47]⟩ : ByteArray)) ++ t169, (⟨#[97, 47, 46, 47, 98]⟩ : ByteArray), (⟨#[46, 46]⟩ : ByteArray), (⟨#[]⟩ : ByteArray)] : List ByteArray)) 0) else (none)) else (none)) else (none)) else (none)) else (none)) else (none)) else (none)) else (none)) else (none))) else (none)) else (none)))) = some r := H
      have A10 := Aside0.mk A100
      clear A100
      obtain ⟨y170, hy170⟩ : ∃ y_ : List Int, y_ = (bytesI t169) := ⟨_, rfl⟩
      replace H : ((transhumancelaw4_within.f a1 (y170.length : Int)).bind fun t173 => (if 0 ≤ t173 then (if t173 < (y170.length : Int) then ((transhumancelaw4_within.f a3 (wrap64 ((t169.size : Int) + 1))).bind fun t176 => (if 0 ≤ t176 then (if t176 ≤ (t169.size : Int) then (if (t169.extract 0 (t176 : Int).toNat).size + a4.size ≤ 9223372036854775807 then (if (t169.extract 0 (t176 : Int).toNat).size + a4.size + (t169.extract (t176 : Int).toNat t169.size).size ≤ 9223372036854775807 then (if t169.size + 1 ≤ 9223372036854775807 then (if 1 + t169.size ≤ 9223372036854775807 then (if t169.size + 1 + t169.size ≤ 9223372036854775807 then (if t169.size + 1 + t169.size + 1 ≤ 9223372036854775807 then (if t169.size + 1 + t169.size + 1 + t169.size ≤ 9223372036854775807 then (transhumancelaw4_PathRight.l0 k t169 (([strOfNums (y170.set (t173 : Int).toNat (((rd y170 t173) + a2) % 256)), t169.extract 0 (t176 : Int).toNat, ((t169.extract 0 (t176 : Int).toNat) ++ a4) ++ (t169.extract (t176 : Int).toNat t169.size), a4, t169 ++ (⟨#[47]⟩ : ByteArray), (⟨#[47]⟩ : ByteArray) ++ t169, (((t169 ++ (⟨#[47]⟩ : ByteArray)) ++ t169) ++ (⟨#[47]⟩ : ByteArray)) ++ t169, (⟨#[97, 47, 46, 47, 98]⟩ : ByteArray), (⟨#[46, 46]⟩ : ByteArray), (⟨#[]⟩ : ByteArray)] : List ByteArray)) 0) else (none)) else (none)) else (none)) else (none)) else (none)) else (none)) else (none)) else (none)) else (none))) else (none)) else (none))) = some r := by first | (rw [hy170]; with_reducible exact H) | (have H2_ := (Option.bind_some _ _).symm.trans H; rw [hy170]; with_reducible exact H2_) | (have H2_ := (Option.bind_some _ _).symm.trans H; with_reducible exact H2_) | with_reducible exact H | (rw [hy170]; exact H) | exact H
      have Ny170 := Aside0.mk hy170
      clear hy170
      replace H := Option.bind_eq_some_iff.mp H
      obtain ⟨t173, A110, H⟩ := H
      replace H : (if 0 ≤ t173 then (if t173 < (y170.length : Int) then ((transhumancelaw4_within.f a3 (wrap64 ((t169.size : Int) + 1))).bind fun t176 => (if 0 ≤ t176 then (if t176 ≤ (t169.size : Int) then (if (t169.extract 0 (t176 : Int).toNat).size + a4.size ≤ 9223372036854775807 then (if (t169.extract 0 (t176 : Int).toNat).size + a4.size + (t169.extract (t176 : Int).toNat t169.size).size ≤ 9223372036854775807 then (if t169.size + 1 ≤ 9223372036854775807 then (if 1 + t169.size ≤ 9223372036854775807 then (if t169.size + 1 + t169.size ≤ 9223372036854775807 then (if t169.size + 1 + t169.size + 1 ≤ 9223372036854775807 then (if t169.size + 1 + t169.size + 1 + t169.size ≤ 9223372036854775807 then (transhumancelaw4_PathRight.l0 k t169 (([strOfNums (y170.set (t173 : Int).toNat (((rd y170 t173) + a2) % 256)), t169.extract 0 (t176 : Int).toNat, ((t169.extract 0 (t176 : Int).toNat) ++ a4) ++ (t169.extract (t176 : Int).toNat t169.size), a4, t169 ++ (⟨#[47]⟩ : ByteArray), (⟨#[47]⟩ : ByteArray) ++ t169, (((t169 ++ (⟨#[47]⟩ : ByteArray)) ++ t169) ++ (⟨#[47]⟩ : ByteArray)) ++ t169, (⟨#[97, 47, 46, 47, 98]⟩ : ByteArray), (⟨#[46, 46]⟩ : ByteArray), (⟨#[]⟩ : ByteArray)] : List ByteArray)) 0) else (none)) else (none)) else (none)) else (none)) else (none)) else (none)) else (none)) else (none)) else (none))) else (none)) else (none)) = some r := H
      have A11 := Aside0.mk A110
      clear A110
      by_cases c12 : 0 ≤ t173
      · rw [if_pos c12] at H
        have c12b0 : decide (0 ≤ t173) = true := decide_eq_true c12
        clear c12
        by_cases c13 : t173 < (y170.length : Int)
        · rw [if_pos c13] at H
          have c13b0 : decide (t173 < (y170.length : Int)) = true := decide_eq_true c13
          clear c13
          obtain ⟨y175, hy175⟩ : ∃ y_ : List Int, y_ = (y170.set (t173 : Int).toNat (((rd y170 t173) + a2) % 256)) := ⟨_, rfl⟩
          replace H : ((transhumancelaw4_within.f a3 (wrap64 ((t169.size : Int) + 1))).bind fun t176 => (if 0 ≤ t176 then (if t176 ≤ (t169.size : Int) then (if (t169.extract 0 (t176 : Int).toNat).size + a4.size ≤ 9223372036854775807 then (if (t169.extract 0 (t176 : Int).toNat).size + a4.size + (t169.extract (t176 : Int).toNat t169.size).size ≤ 9223372036854775807 then (if t169.size + 1 ≤ 9223372036854775807 then (if 1 + t169.size ≤ 9223372036854775807 then (if t169.size + 1 + t169.size ≤ 9223372036854775807 then (if t169.size + 1 + t169.size + 1 ≤ 9223372036854775807 then (if t169.size + 1 + t169.size + 1 + t169.size ≤ 9223372036854775807 then (transhumancelaw4_PathRight.l0 k t169 (([strOfNums y175, t169.extract 0 (t176 : Int).toNat, ((t169.extract 0 (t176 : Int).toNat) ++ a4) ++ (t169.extract (t176 : Int).toNat t169.size), a4, t169 ++ (⟨#[47]⟩ : ByteArray), (⟨#[47]⟩ : ByteArray) ++ t169, (((t169 ++ (⟨#[47]⟩ : ByteArray)) ++ t169) ++ (⟨#[47]⟩ : ByteArray)) ++ t169, (⟨#[97, 47, 46, 47, 98]⟩ : ByteArray), (⟨#[46, 46]⟩ : ByteArray), (⟨#[]⟩ : ByteArray)] : List ByteArray)) 0) else (none)) else (none)) else (none)) else (none)) else (none)) else (none)) else (none)) else (none)) else (none))) = some r := by first | (rw [hy175]; with_reducible exact H) | (have H2_ := (Option.bind_some _ _).symm.trans H; rw [hy175]; with_reducible exact H2_) | (have H2_ := (Option.bind_some _ _).symm.trans H; with_reducible exact H2_) | with_reducible exact H | (rw [hy175]; exact H) | exact H
          have Ny175 := Aside0.mk hy175
          clear hy175
          replace H := Option.bind_eq_some_iff.mp H
          obtain ⟨t176, A150, H⟩ := H
          replace H : (if 0 ≤ t176 then (if t176 ≤ (t169.size : Int) then (if (t169.extract 0 (t176 : Int).toNat).size + a4.size ≤ 9223372036854775807 then (if (t169.extract 0 (t176 : Int).toNat).size + a4.size + (t169.extract (t176 : Int).toNat t169.size).size ≤ 9223372036854775807 then (if t169.size + 1 ≤ 9223372036854775807 then (if 1 + t169.size ≤ 9223372036854775807 then (if t169.size + 1 + t169.size ≤ 9223372036854775807 then (if t169.size + 1 + t169.size + 1 ≤ 9223372036854775807 then (if t169.size + 1 + t169.size + 1 + t169.size ≤ 9223372036854775807 then (transhumancelaw4_PathRight.l0 k t169 (([strOfNums y175, t169.extract 0 (t176 : Int).toNat, ((t169.extract 0 (t176 : Int).toNat) ++ a4) ++ (t169.extract (t176 : Int).toNat t169.size), a4, t169 ++ (⟨#[47]⟩ : ByteArray), (⟨#[47]⟩ : ByteArray) ++ t169, (((t169 ++ (⟨#[47]⟩ : ByteArray)) ++ t169) ++ (⟨#[47]⟩ : ByteArray)) ++ t169, (⟨#[97, 47, 46, 47, 98]⟩ : ByteArray), (⟨#[46, 46]⟩ : ByteArray), (⟨#[]⟩ : ByteArray)] : List ByteArray)) 0) else (none)) else (none)) else (none)) else (none)) else (none)) else (none)) else (none)) else (none)) else (none)) = some r := H
          have A15 := Aside0.mk A150
          clear A150
          by_cases c16 : 0 ≤ t176
          · rw [if_pos c16] at H
            have c16b0 := eq_true c16
            have c16b1 : decide (0 ≤ t176) = true := decide_eq_true c16
            clear c16
            by_cases c17 : t176 ≤ (t169.size : Int)
            · rw [if_pos c17] at H
              have c17b0 := eq_true c17
              have c17b1 : decide (t176 ≤ (t169.size : Int)) = true := decide_eq_true c17
              clear c17
              have c18b0 := eq_true (of_decide_eq_true (by first | (with_reducible assumption) | assumption) : 0 ≤ t176)
              have c19b0 := eq_true (of_decide_eq_true (by first | (with_reducible assumption) | assumption) : t176 ≤ (t169.size : Int))
              by_cases c20 : (t169.extract 0 (t176 : Int).toNat).size + a4.size ≤ 9223372036854775807
              · rw [if_pos c20] at H
                have c20b0 := eq_true c20
                have c20b1 : decide ((t169.extract 0 (t176 : Int).toNat).size + a4.size ≤ 9223372036854775807) = true := decide_eq_true c20
                try have c20b2 : (9223372036854775807 < (t169.extract 0 (t176 : Int).toNat).size + a4.size) = False := eq_false (Nat.not_lt.2 c20)
                try have c20b8 : (9223372036854775807 < t176.toNat + a4.size) = False := eq_false (by have h_ := c20; (try have h0a_ := of_eq_true (‹(t176 ≤ (t169.size : Int)) = True›)); (try have h0b_ := of_eq_true (‹(0 ≤ t176) = True›)); simp only [ByteArray.size_extract] at h_; omega)
                have c21b0 := eq_true (of_decide_eq_true (by first | (with_reducible assumption) | assumption) : 0 ≤ t176)
                have c22b0 := eq_true (of_decide_eq_true (by first | (with_reducible assumption) | assumption) : t176 ≤ (t169.size : Int))
                by_cases c23 : (t169.extract 0 (t176 : Int).toNat).size + a4.size + (t169.extract (t176 : Int).toNat t169.size).size ≤ 9223372036854775807
                · rw [if_pos c23] at H
                  have c23b0 := eq_true c23
                  have c23b1 : decide ((t169.extract 0 (t176 : Int).toNat).size + a4.size + (t169.extract (t176 : Int).toNat t169.size).size ≤ 9223372036854775807) = true := decide_eq_true c23
                  try have c23b2 : (9223372036854775807 < (t169.extract 0 (t176 : Int).toNat).size + a4.size + (t169.extract (t176 : Int).toNat t169.size).size) = False := eq_false (Nat.not_lt.2 c23)
                  try have c23b8 : (9223372036854775807 < t176.toNat + a4.size + (t169.size - t176.toNat)) = False := eq_false (by have h_ := c23; (try have h0a_ := of_eq_true (‹(t176 ≤ (t169.size : Int)) = True›)); (try have h0b_ := of_eq_true (‹(0 ≤ t176) = True›)); simp only [ByteArray.size_extract] at h_; omega)
                  by_cases c24 : t169.size + 1 ≤ 9223372036854775807
                  · rw [if_pos c24] at H
                    have c24b0 := eq_true c24
                    have c24b1 : decide (t169.size + 1 ≤ 9223372036854775807) = true := decide_eq_true c24
                    try have c24b2 : (9223372036854775807 < t169.size + 1) = False := eq_false (Nat.not_lt.2 c24)
                    by_cases c25 : 1 + t169.size ≤ 9223372036854775807
                    · rw [if_pos c25] at H
                      have c25b0 := eq_true c25
                      have c25b1 : decide (1 + t169.size ≤ 9223372036854775807) = true := decide_eq_true c25
                      try have c25b2 : (9223372036854775807 < 1 + t169.size) = False := eq_false (Nat.not_lt.2 c25)
                      by_cases c26 : t169.size + 1 + t169.size ≤ 9223372036854775807
                      · rw [if_pos c26] at H
                        have c26b0 := eq_true c26
                        have c26b1 : decide (t169.size + 1 + t169.size ≤ 9223372036854775807) = true := decide_eq_true c26
                        try have c26b2 : (9223372036854775807 < t169.size + 1 + t169.size) = False := eq_false (Nat.not_lt.2 c26)
                        by_cases c27 : t169.size + 1 + t169.size + 1 ≤ 9223372036854775807
                        · rw [if_pos c27] at H
                          have c27b0 := eq_true c27
                          have c27b1 : decide (t169.size + 1 + t169.size + 1 ≤ 9223372036854775807) = true := decide_eq_true c27
                          try have c27b2 : (9223372036854775807 < t169.size + 1 + t169.size + 1) = False := eq_false (Nat.not_lt.2 c27)
                          by_cases c28 : t169.size + 1 + t169.size + 1 + t169.size ≤ 9223372036854775807
                          · rw [if_pos c28] at H
                            have c28b0 := eq_true c28
                            have c28b1 : decide (t169.size + 1 + t169.size + 1 + t169.size ≤ 9223372036854775807) = true := decide_eq_true c28
                            try have c28b2 : (9223372036854775807 < t169.size + 1 + t169.size + 1 + t169.size) = False := eq_false (Nat.not_lt.2 c28)
                            obtain ⟨y177, hy177⟩ : ∃ y_ : List ByteArray, y_ = (([strOfNums y175, t169.extract 0 (t176 : Int).toNat, ((t169.extract 0 (t176 : Int).toNat) ++ a4) ++ (t169.extract (t176 : Int).toNat t169.size), a4, t169 ++ (⟨#[47]⟩ : ByteArray), (⟨#[47]⟩ : ByteArray) ++ t169, (((t169 ++ (⟨#[47]⟩ : ByteArray)) ++ t169) ++ (⟨#[47]⟩ : ByteArray)) ++ t169, (⟨#[97, 47, 46, 47, 98]⟩ : ByteArray), (⟨#[46, 46]⟩ : ByteArray), (⟨#[]⟩ : ByteArray)] : List ByteArray)) := ⟨_, rfl⟩
                            replace H : (transhumancelaw4_PathRight.l0 k t169 y177 0) = some r := by first | (rw [hy177]; with_reducible exact H) | (have H2_ := (Option.bind_some _ _).symm.trans H; rw [hy177]; with_reducible exact H2_) | (have H2_ := (Option.bind_some _ _).symm.trans H; with_reducible exact H2_) | with_reducible exact H | (rw [hy177]; exact H) | exact H
                            have Ny177 := Aside0.mk hy177
                            clear hy177
                            have H' := Aside0.mk H
                            clear H
                            have ew_ : wrap64 ((t169.size : Int) + 1) = (t169.size : Int) + 1 := by have h_ := of_eq_true (‹(t169.size + 1 ≤ 9223372036854775807) = True›); unfold wrap64; omega
                            replace A15 := Aside0.mk (by have h_ := A15.out; rw [ew_] at h_; exact h_)
                            clear ew_
                            go_enter Try.func3, Try.ntmps3
                            try go_wp2_with (first | ((with_reducible refine gate_callee (f := 12) rfl ?_); refine goesL_ (some 16) rfl rfl Try.func12 (by kernel_rfl) rfl #[] rfl (by (try simp only [List.map_toArray, List.map_cons, List.map_nil]); first | done | rfl | (simp only [List.length_drop, List.length_take]; rfl)) ?_; (with_reducible refine (transhumancelaw4_known.calls k  true _ A6.out).mono ?_); rintro e w29 ⟨rfl, hb⟩; refine ⟨_, rfl, ?_⟩; have n0_ := Aside0.mk (below_step (by repeat (first | (with_reducible first | exact HB.out | apply below_alloc | apply pw_below_drewN | apply below_drew1) | exact HB.out)) hb); clear HB; have HB := n0_; clear n0_; (try clear hb); (try clear hb2); (try clear hk); (try clear hi)) | ((with_reducible refine gate_callee (f := 13) rfl ?_); refine goesL_ (some 22) rfl rfl Try.func13 (by kernel_rfl) rfl #[.int .i64 a0] rfl (by (try simp only [List.map_toArray, List.map_cons, List.map_nil]); first | done | rfl | (simp only [List.length_drop, List.length_take]; rfl)) ?_; (with_reducible refine (transhumancelaw4_Make.calls k a0 t169 _ A10.out).mono ?_); rintro e w30 ⟨rfl, hb⟩; refine ⟨_, rfl, ?_⟩; have n0_ := Aside0.mk (below_step (by repeat (first | (with_reducible first | exact HB.out | apply below_alloc | apply pw_below_drewN | apply below_drew1) | exact HB.out)) hb); clear HB; have HB := n0_; clear n0_; (try clear hb); (try clear hb2); (try clear hk); (try clear hi)) | ((with_reducible refine gate_dst (N := 24) rfl ?_); refine Kb.R_bytes _ 9 24 5 rfl (N := 24) rfl _ rfl t169 (by rfl) Try.underlying9 Try.underlying24 Try.underlying5 (Below.refl _ _) (Nat.le_refl _) ?_; intro v171 w31 ho32 hb hg_ hnew_; clear hg_ hnew_; (first | rw [← Ny170.out] at ho32 | (simp only [Int.reduceToNat] at ho32; rw [← Ny170.out] at ho32)); have n0_ := Aside0.mk (Kb.R_lower ho32 (below_size (by repeat (first | (with_reducible first | exact HB.out | apply below_alloc | apply pw_below_drewN | apply below_drew1) | exact HB.out)))); have n1_ := Aside0.mk (below_step (by repeat (first | (with_reducible first | exact HB.out | apply below_alloc | apply pw_below_drewN | apply below_drew1) | exact HB.out)) hb); clear HB; have HO172 := n0_; have HB := n1_; clear n0_ n1_; clear hb ho32; obtain ⟨Ao33, co33, eo33⟩ := Kb.R_slice HO172.out; subst eo33) | ((with_reducible refine gate_callee (f := 14) rfl ?_); refine goesL_ (some 29) rfl rfl Try.func14 (by kernel_rfl) rfl #[.int .i64 a1, .int .i64 (y170.length : Int)] rfl (by (try simp only [List.map_toArray, List.map_cons, List.map_nil]); first | done | rfl | (simp only [List.length_drop, List.length_take]; rfl)) ?_; (with_reducible refine (transhumancelaw4_within.calls a1 (y170.length : Int) t173 _ A11.out).mono ?_); rintro e w' ⟨rfl, ⟨nd, rfl⟩⟩; refine ⟨_, rfl, ?_⟩; (try (rw [drewN_self w31]; generalize hq_ : World.drewN w31 _ = w31; have n0_ : Aside0 (Kb.R 5 w31 w.heap.size (fun _ => True) (.slice Ao33 y170.length co33) y170) := ⟨by rw [← hq_]; exact (by (with_reducible repeat (first | apply Kb.R_alloc | apply Kb.R_drewN | apply Kb.R_drew)); exact HO172.out)⟩; have n1_ : Aside0 (Below w.heap.size w w31) := ⟨by rw [← hq_]; exact (by repeat (first | (with_reducible first | exact HB.out | apply below_alloc | apply pw_below_drewN | apply below_drew1) | exact HB.out))⟩; clear HO172 HB hq_; have HO172 := n0_; have HB := n1_; clear n0_ n1_)); have p174 : 0 ≤ (t173 : Int) := of_decide_eq_true (by first | (with_reducible assumption) | assumption); have q174 : t173 < (y170.length : Int) := of_decide_eq_true (by first | (with_reducible assumption) | assumption); obtain ⟨ad174, e174, hx174_0⟩ := Kb.at_int HO172.out t173 p174 q174; cases e174; replace p174 := eq_true p174; replace q174 := eq_true q174; have p14 : 0 ≤ (t173 : Int) := of_decide_eq_true (by first | (with_reducible assumption) | assumption); have q14 : (t173 : Int) < ((y170.length : Int) : Int) := of_decide_eq_true (by first | (with_reducible assumption) | assumption); obtain ⟨go14, co14, eo14, gb14, gl14, cl14, HG14⟩ := Kb.R_form HO172.out (by omega); (first | cases eo14 | (injection eo14 with ea_ en_ ec_; (first | subst ea_ | (injection ea_ with ea_; subst ea_)); subst ec_; clear en_)); have GB14 := Aside0.mk gb14; have GG14 := Aside0.mk HG14; clear gb14 gl14 HG14; (first | simp only [add_plain] at hx174_0 | skip); obtain ⟨hx14_0, hf14_0⟩ := Kb.R_celln 0 HO172.out (t173 : Int) p14 q14; replace p14 := eq_true p14; replace q14 := eq_true q14; obtain ⟨hy34_, hz34_⟩ := Kb.R_celln 0 HO172.out (t173 : Int) (of_decide_eq_true (by first | (with_reducible assumption) | assumption)) (of_decide_eq_true (by first | (with_reducible assumption) | assumption)); have HP34 := Kb.R_putg HO172.out (t173 : Int) (((rd y170 t173) + a2) % 256)) | ((with_reducible refine gate_store (t := 5) (p := 34) rfl ?_); refine store_event (t := 5) (p := 34) (v := ?vo_w35) (w1 := (w31.setCell ⟨go14, (t173 : Int).toNat, none⟩ (.int .u8 (((rd y170 t173) + a2) % 256)))) ?hg ?ho ?hn ?hr ?_; (case ho => rfl); (case hg => rfl); (case hn => rfl); (case hr => first | (go_simp; done) | (go_simp; rfl)); intro w35 hw; have hg : w31.grownBy w35 (some go14) := (by rw [hw]; exact HP34.2); have hp_ : Kb.R 5 w35 w.heap.size (fun _ => True) (.slice (some ⟨go14, 0, none⟩) y170.length co33) y175 := (by rw [hw, Ny175.out]; exact HP34.1); clear HP34; have n0_ := Aside0.mk (hp_); have n1_ := Aside0.mk ((by rw [hw]; exact below_set (HB.out) GB14.out : Below w.heap.size w w35)); clear HO172; clear HB; have HO172 := n0_; have HB := n1_; clear n0_ n1_; clear hg hw hp_) | ((with_reducible refine gate_callee (f := 14) rfl ?_); refine goesL_ (some 39) rfl rfl Try.func14 (by kernel_rfl) rfl #[.int .i64 a3, .int .i64 ((t169.size : Int) + 1)] rfl (by (try simp only [List.map_toArray, List.map_cons, List.map_nil]); first | done | rfl | (simp only [List.length_drop, List.length_take]; rfl)) ?_; (with_reducible refine (transhumancelaw4_within.calls a3 ((t169.size : Int) + 1) t176 _ A15.out).mono ?_); rintro e w' ⟨rfl, ⟨nd, rfl⟩⟩; refine ⟨_, rfl, ?_⟩))
                            (try (rw [drewN_self w35]; generalize hq_ : World.drewN w35 _ = w35; have n0_ : Aside0 (Kb.R 5 w35 w.heap.size (fun _ => True) (.slice (some ⟨go14, 0, none⟩) y170.length co33) y175) := ⟨by rw [← hq_]; exact (by (with_reducible repeat (first | apply Kb.R_alloc | apply Kb.R_drewN | apply Kb.R_drew)); exact HO172.out)⟩; have n1_ : Aside0 (Below w.heap.size w w35) := ⟨by rw [← hq_]; exact (by repeat (first | (with_reducible first | exact HB.out | apply below_alloc | apply pw_below_drewN | apply below_drew1) | exact HB.out))⟩; clear HO172 HB hq_; have HO172 := n0_; have HB := n1_; clear n0_ n1_))
                            have n0_ := Aside0.mk (Kb.R_drew HO172.out)
                            have n1_ := Aside0.mk (below_drew1 HB.out)
                            clear HO172
                            clear HB
                            have HO172 := n0_
                            have HB := n1_
                            clear n0_ n1_
                            have hcv37 := Kb.string_of (P := Try.prog) Try.underlying24 Try.underlying5 Try.underlying9 HO172.out
                            refine start_ (n := 28) (S := fun w' => Kb.R 5 w' w.heap.size (fun _ => True) (.slice (some ⟨go14, 0, none⟩) y170.length co33) y175) (ds := []) #[false, false, false, false, false, false, false, false, false, false, false, false, false, false, false, false, false, false, false, false, false, false, false, false, false, false, false, false] (by kernel_rfl) rfl rfl HO172.out (fun hHeld => ?_); refine with_tabW transhumancelaw4_PathRight.tab9 transhumancelaw4_PathRight.bits9 (fun HT_ HW_ => ?_)
                            generalize w35.drew = w36 at HO172 HB hHeld ⊢
                            refine pure_ (i := 0) (N := some 40) (v := ?_) (a' := ?_) #[true, false, false, false, false, false, false, false, false, false, false, false, false, false, false, false, false, false, false, false, false, false, false, false, false, false, false, false] rfl rfl (any_of HT_.out (by kernel_rfl)) (fun _ _ _ h => h) (Or.inl ⟨by rfl, ?_⟩) ?_ ?_
                            rotate_left
                            · intro w'
                              go_simp
                              with_reducible rfl
                            rotate_left
                            · simp only [Act.put, List.setIfInBounds_toArray, List.set_cons_zero, List.set_cons_succ, i64_w, i32_w]
                              rfl
                            refine take_ (i := 1) (N := some 41) (v := ?_) (a' := ?_) #[true, true, false, false, false, false, false, false, false, false, false, false, false, false, false, false, false, false, false, false, false, false, false, false, false, false, false, false] rfl rfl (take_ofW HT_.out HW_.out (by kernel_rfl)) (fun _ _ _ h => h) (Or.inl ⟨by rfl, ?_⟩) hHeld ?_ ?_
                            rotate_left
                            · intro w' hs_
                              have hcv37 := Kb.string_of (P := Try.prog) Try.underlying24 Try.underlying5 Try.underlying9 hs_
                              go_simp
                              with_reducible rfl
                            rotate_left
                            · simp only [Act.put, List.setIfInBounds_toArray, List.set_cons_zero, List.set_cons_succ, i64_w, i32_w]
                              rfl
                            refine pure_ (i := 2) (N := some 42) (v := ?_) (a' := ?_) #[true, true, true, false, false, false, false, false, false, false, false, false, false, false, false, false, false, false, false, false, false, false, false, false, false, false, false, false] rfl rfl (any_of HT_.out (by kernel_rfl)) (fun _ _ _ h => h) (Or.inl ⟨by rfl, ?_⟩) ?_ ?_
                            rotate_left
                            · intro w'
                              go_simp
                              with_reducible rfl
                            rotate_left
                            · simp only [Act.put, List.setIfInBounds_toArray, List.set_cons_zero, List.set_cons_succ, i64_w, i32_w]
                              rfl
                            refine pure_ (i := 3) (N := some 43) (v := ?_) (a' := ?_) #[true, true, true, true, false, false, false, false, false, false, false, false, false, false, false, false, false, false, false, false, false, false, false, false, false, false, false, false] rfl rfl (any_of HT_.out (by kernel_rfl)) (fun _ _ _ h => h) (Or.inl ⟨by rfl, ?_⟩) ?_ ?_
                            rotate_left
                            · intro w'
                              go_simp
                              with_reducible rfl
                            rotate_left
                            · simp only [Act.put, List.setIfInBounds_toArray, List.set_cons_zero, List.set_cons_succ, i64_w, i32_w]
                              rfl
                            refine pure_ (i := 4) (N := some 44) (v := ?_) (a' := ?_) #[true, true, true, true, true, false, false, false, false, false, false, false, false, false, false, false, false, false, false, false, false, false, false, false, false, false, false, false] rfl rfl (any_of HT_.out (by kernel_rfl)) (fun _ _ _ h => h) (Or.inl ⟨by rfl, ?_⟩) ?_ ?_
                            rotate_left
                            · intro w'
                              go_simp
                              with_reducible rfl
                            rotate_left
                            · simp only [Act.put, List.setIfInBounds_toArray, List.set_cons_zero, List.set_cons_succ, i64_w, i32_w]
                              rfl
                            refine pure_ (i := 5) (N := some 45) (v := ?_) (a' := ?_) #[true, true, true, true, true, true, false, false, false, false, false, false, false, false, false, false, false, false, false, false, false, false, false, false, false, false, false, false] rfl rfl (any_of HT_.out (by kernel_rfl)) (fun _ _ _ h => h) (Or.inl ⟨by rfl, ?_⟩) ?_ ?_
                            rotate_left
                            · intro w'
                              go_simp
                              with_reducible rfl
                            rotate_left
                            · simp only [Act.put, List.setIfInBounds_toArray, List.set_cons_zero, List.set_cons_succ, i64_w, i32_w]
                              rfl
                            refine pure_ (i := 6) (N := some 46) (v := ?_) (a' := ?_) #[true, true, true, true, true, true, true, false, false, false, false, false, false, false, false, false, false, false, false, false, false, false, false, false, false, false, false, false] rfl rfl (any_of HT_.out (by kernel_rfl)) (fun _ _ _ h => h) (Or.inl ⟨by rfl, ?_⟩) ?_ ?_
                            rotate_left
                            · intro w'
                              go_simp
                              with_reducible rfl
                            rotate_left
                            · simp only [Act.put, List.setIfInBounds_toArray, List.set_cons_zero, List.set_cons_succ, i64_w, i32_w]
                              rfl
                            refine pure_ (i := 7) (N := some 47) (v := ?_) (a' := ?_) #[true, true, true, true, true, true, true, true, false, false, false, false, false, false, false, false, false, false, false, false, false, false, false, false, false, false, false, false] rfl rfl (any_of HT_.out (by kernel_rfl)) (fun _ _ _ h => h) (Or.inl ⟨by rfl, ?_⟩) ?_ ?_
                            rotate_left
                            · intro w'
                              go_simp
                              with_reducible rfl
                            rotate_left
                            · simp only [Act.put, List.setIfInBounds_toArray, List.set_cons_zero, List.set_cons_succ, i64_w, i32_w]
                              rfl
                            refine pure_ (i := 8) (N := some 48) (v := ?_) (a' := ?_) #[true, true, true, true, true, true, true, true, true, false, false, false, false, false, false, false, false, false, false, false, false, false, false, false, false, false, false, false] rfl rfl (any_of HT_.out (by kernel_rfl)) (fun _ _ _ h => h) (Or.inl ⟨by rfl, ?_⟩) ?_ ?_
                            rotate_left
                            · intro w'
                              go_simp
                              with_reducible rfl
                            rotate_left
                            · simp only [Act.put, List.setIfInBounds_toArray, List.set_cons_zero, List.set_cons_succ, i64_w, i32_w]
                              rfl
                            refine pure_ (i := 9) (N := some 49) (v := ?_) (a' := ?_) #[true, true, true, true, true, true, true, true, true, true, false, false, false, false, false, false, false, false, false, false, false, false, false, false, false, false, false, false] rfl rfl (any_of HT_.out (by kernel_rfl)) (fun _ _ _ h => h) (Or.inl ⟨by rfl, ?_⟩) ?_ ?_
                            rotate_left
                            · intro w'
                              go_simp
                              with_reducible rfl
                            rotate_left
                            · simp only [Act.put, List.setIfInBounds_toArray, List.set_cons_zero, List.set_cons_succ, i64_w, i32_w]
                              rfl
                            refine pure_ (i := 10) (N := some 50) (v := ?_) (a' := ?_) #[true, true, true, true, true, true, true, true, true, true, true, false, false, false, false, false, false, false, false, false, false, false, false, false, false, false, false, false] rfl rfl (any_of HT_.out (by kernel_rfl)) (fun _ _ _ h => h) (Or.inl ⟨by rfl, ?_⟩) ?_ ?_
                            rotate_left
                            · intro w'
                              go_simp
                              with_reducible rfl
                            rotate_left
                            · simp only [Act.put, List.setIfInBounds_toArray, List.set_cons_zero, List.set_cons_succ, i64_w, i32_w]
                              rfl
                            refine pure_ (i := 11) (N := some 51) (v := ?_) (a' := ?_) #[true, true, true, true, true, true, true, true, true, true, true, true, false, false, false, false, false, false, false, false, false, false, false, false, false, false, false, false] rfl rfl (any_of HT_.out (by kernel_rfl)) (fun _ _ _ h => h) (Or.inl ⟨by rfl, ?_⟩) ?_ ?_
                            rotate_left
                            · intro w'
                              go_simp
                              with_reducible rfl
                            rotate_left
                            · simp only [Act.put, List.setIfInBounds_toArray, List.set_cons_zero, List.set_cons_succ, i64_w, i32_w]
                              rfl
                            refine pure_ (i := 12) (N := some 52) (v := ?_) (a' := ?_) #[true, true, true, true, true, true, true, true, true, true, true, true, true, false, false, false, false, false, false, false, false, false, false, false, false, false, false, false] rfl rfl (any_of HT_.out (by kernel_rfl)) (fun _ _ _ h => h) (Or.inl ⟨by rfl, ?_⟩) ?_ ?_
                            rotate_left
                            · intro w'
                              go_simp
                              with_reducible rfl
                            rotate_left
                            · simp only [Act.put, List.setIfInBounds_toArray, List.set_cons_zero, List.set_cons_succ, i64_w, i32_w]
                              rfl
                            refine pure_ (i := 13) (N := some 53) (v := ?_) (a' := ?_) #[true, true, true, true, true, true, true, true, true, true, true, true, true, true, false, false, false, false, false, false, false, false, false, false, false, false, false, false] rfl rfl (any_of HT_.out (by kernel_rfl)) (fun _ _ _ h => h) (Or.inl ⟨by rfl, ?_⟩) ?_ ?_
                            rotate_left
                            · intro w'
                              go_simp
                              with_reducible rfl
                            rotate_left
                            · simp only [Act.put, List.setIfInBounds_toArray, List.set_cons_zero, List.set_cons_succ, i64_w, i32_w]
                              rfl
                            refine pure_ (i := 14) (N := some 54) (v := ?_) (a' := ?_) #[true, true, true, true, true, true, true, true, true, true, true, true, true, true, true, false, false, false, false, false, false, false, false, false, false, false, false, false] rfl rfl (any_of HT_.out (by kernel_rfl)) (fun _ _ _ h => h) (Or.inl ⟨by rfl, ?_⟩) ?_ ?_
                            rotate_left
                            · intro w'
                              go_simp
                              with_reducible rfl
                            rotate_left
                            · simp only [Act.put, List.setIfInBounds_toArray, List.set_cons_zero, List.set_cons_succ, i64_w, i32_w]
                              rfl
                            refine pure_ (i := 15) (N := some 55) (v := ?_) (a' := ?_) #[true, true, true, true, true, true, true, true, true, true, true, true, true, true, true, true, false, false, false, false, false, false, false, false, false, false, false, false] rfl rfl (any_of HT_.out (by kernel_rfl)) (fun _ _ _ h => h) (Or.inl ⟨by rfl, ?_⟩) ?_ ?_
                            rotate_left
                            · intro w'
                              go_simp
                              with_reducible rfl
                            rotate_left
                            · simp only [Act.put, List.setIfInBounds_toArray, List.set_cons_zero, List.set_cons_succ, i64_w, i32_w]
                              rfl
                            refine pure_ (i := 16) (N := some 56) (v := ?_) (a' := ?_) #[true, true, true, true, true, true, true, true, true, true, true, true, true, true, true, true, true, false, false, false, false, false, false, false, false, false, false, false] rfl rfl (any_of HT_.out (by kernel_rfl)) (fun _ _ _ h => h) (Or.inl ⟨by rfl, ?_⟩) ?_ ?_
                            rotate_left
                            · intro w'
                              go_simp
                              with_reducible rfl
                            rotate_left
                            · simp only [Act.put, List.setIfInBounds_toArray, List.set_cons_zero, List.set_cons_succ, i64_w, i32_w]
                              rfl
                            refine pure_ (i := 17) (N := some 57) (v := ?_) (a' := ?_) #[true, true, true, true, true, true, true, true, true, true, true, true, true, true, true, true, true, true, false, false, false, false, false, false, false, false, false, false] rfl rfl (any_of HT_.out (by kernel_rfl)) (fun _ _ _ h => h) (Or.inl ⟨by rfl, ?_⟩) ?_ ?_
                            rotate_left
                            · intro w'
                              go_simp
                              with_reducible rfl
                            rotate_left
                            · simp only [Act.put, List.setIfInBounds_toArray, List.set_cons_zero, List.set_cons_succ, i64_w, i32_w]
                              rfl
                            refine pure_ (i := 18) (N := some 58) (v := ?_) (a' := ?_) #[true, true, true, true, true, true, true, true, true, true, true, true, true, true, true, true, true, true, true, false, false, false, false, false, false, false, false, false] rfl rfl (any_of HT_.out (by kernel_rfl)) (fun _ _ _ h => h) (Or.inl ⟨by rfl, ?_⟩) ?_ ?_
                            rotate_left
                            · intro w'
                              go_simp
                              with_reducible rfl
                            rotate_left
                            · simp only [Act.put, List.setIfInBounds_toArray, List.set_cons_zero, List.set_cons_succ, i64_w, i32_w]
                              rfl
                            refine pure_ (i := 19) (N := some 59) (v := ?_) (a' := ?_) #[true, true, true, true, true, true, true, true, true, true, true, true, true, true, true, true, true, true, true, true, false, false, false, false, false, false, false, false] rfl rfl (any_of HT_.out (by kernel_rfl)) (fun _ _ _ h => h) (Or.inl ⟨by rfl, ?_⟩) ?_ ?_
                            rotate_left
                            · intro w'
                              go_simp
                              with_reducible rfl
                            rotate_left
                            · simp only [Act.put, List.setIfInBounds_toArray, List.set_cons_zero, List.set_cons_succ, i64_w, i32_w]
                              rfl
                            refine pure_ (i := 20) (N := some 60) (v := ?_) (a' := ?_) #[true, true, true, true, true, true, true, true, true, true, true, true, true, true, true, true, true, true, true, true, true, false, false, false, false, false, false, false] rfl rfl (any_of HT_.out (by kernel_rfl)) (fun _ _ _ h => h) (Or.inl ⟨by rfl, ?_⟩) ?_ ?_
                            rotate_left
                            · intro w'
                              go_simp
                              with_reducible rfl
                            rotate_left
                            · simp only [Act.put, List.setIfInBounds_toArray, List.set_cons_zero, List.set_cons_succ, i64_w, i32_w]
                              rfl
                            refine pure_ (i := 21) (N := some 61) (v := ?_) (a' := ?_) #[true, true, true, true, true, true, true, true, true, true, true, true, true, true, true, true, true, true, true, true, true, true, false, false, false, false, false, false] rfl rfl (any_of HT_.out (by kernel_rfl)) (fun _ _ _ h => h) (Or.inl ⟨by rfl, ?_⟩) ?_ ?_
                            rotate_left
                            · intro w'
                              go_simp
                              with_reducible rfl
                            rotate_left
                            · simp only [Act.put, List.setIfInBounds_toArray, List.set_cons_zero, List.set_cons_succ, i64_w, i32_w]
                              rfl
                            refine pure_ (i := 22) (N := some 62) (v := ?_) (a' := ?_) #[true, true, true, true, true, true, true, true, true, true, true, true, true, true, true, true, true, true, true, true, true, true, true, false, false, false, false, false] rfl rfl (any_of HT_.out (by kernel_rfl)) (fun _ _ _ h => h) (Or.inl ⟨by rfl, ?_⟩) ?_ ?_
                            rotate_left
                            · intro w'
                              go_simp
                              with_reducible rfl
                            rotate_left
                            · simp only [Act.put, List.setIfInBounds_toArray, List.set_cons_zero, List.set_cons_succ, i64_w, i32_w]
                              rfl
                            refine pure_ (i := 23) (N := some 63) (v := ?_) (a' := ?_) #[true, true, true, true, true, true, true, true, true, true, true, true, true, true, true, true, true, true, true, true, true, true, true, true, false, false, false, false] rfl rfl (any_of HT_.out (by kernel_rfl)) (fun _ _ _ h => h) (Or.inl ⟨by rfl, ?_⟩) ?_ ?_
                            rotate_left
                            · intro w'
                              go_simp
                              with_reducible rfl
                            rotate_left
                            · simp only [Act.put, List.setIfInBounds_toArray, List.set_cons_zero, List.set_cons_succ, i64_w, i32_w]
                              rfl
                            refine pure_ (i := 24) (N := some 64) (v := ?_) (a' := ?_) #[true, true, true, true, true, true, true, true, true, true, true, true, true, true, true, true, true, true, true, true, true, true, true, true, true, false, false, false] rfl rfl (any_of HT_.out (by kernel_rfl)) (fun _ _ _ h => h) (Or.inl ⟨by rfl, ?_⟩) ?_ ?_
                            rotate_left
                            · intro w'
                              go_simp
                              with_reducible rfl
                            rotate_left
                            · simp only [Act.put, List.setIfInBounds_toArray, List.set_cons_zero, List.set_cons_succ, i64_w, i32_w]
                              rfl
                            refine pure_ (i := 25) (N := some 65) (v := ?_) (a' := ?_) #[true, true, true, true, true, true, true, true, true, true, true, true, true, true, true, true, true, true, true, true, true, true, true, true, true, true, false, false] rfl rfl (any_of HT_.out (by kernel_rfl)) (fun _ _ _ h => h) (Or.inl ⟨by rfl, ?_⟩) ?_ ?_
                            rotate_left
                            · intro w'
                              go_simp
                              with_reducible rfl
                            rotate_left
                            · simp only [Act.put, List.setIfInBounds_toArray, List.set_cons_zero, List.set_cons_succ, i64_w, i32_w]
                              rfl
                            refine one_ (i := 26) (N := some 66) #[true, true, true, true, true, true, true, true, true, true, true, true, true, true, true, true, true, true, true, true, true, true, true, true, true, true, true, false] rfl rfl (one_of HT_.out (by kernel_rfl)) (by decide) (fun K hK => ?_)
                            refine Kd.R_lit_step Kd.string _ 9 ?hg (N := 66) ?hd (xs := ([strOfNums y175, t169.extract 0 (t176 : Int).toNat, ((t169.extract 0 (t176 : Int).toNat) ++ a4) ++ (t169.extract (t176 : Int).toNat t169.size), a4, t169 ++ (⟨#[47]⟩ : ByteArray), (⟨#[47]⟩ : ByteArray) ++ t169, (((t169 ++ (⟨#[47]⟩ : ByteArray)) ++ t169) ++ (⟨#[47]⟩ : ByteArray)) ++ t169, (⟨#[97, 47, 46, 47, 98]⟩ : ByteArray), (⟨#[46, 46]⟩ : ByteArray), (⟨#[]⟩ : ByteArray)] : List ByteArray)) (inner := [.string (strOfNums y175), .string (t169.extract 0 (t176 : Int).toNat), .string (((t169.extract 0 (t176 : Int).toNat) ++ a4) ++ (t169.extract (t176 : Int).toNat t169.size)), .string a4, .string (t169 ++ (⟨#[47]⟩ : ByteArray)), .string ((⟨#[47]⟩ : ByteArray) ++ t169), .string ((((t169 ++ (⟨#[47]⟩ : ByteArray)) ++ t169) ++ (⟨#[47]⟩ : ByteArray)) ++ t169), .string (⟨#[97, 47, 46, 47, 98]⟩ : ByteArray), .string (⟨#[46, 46]⟩ : ByteArray), .string (⟨#[]⟩ : ByteArray)]) (ok := fun _ => True) (okp := fun _ => True) ?hr ?hp (fun _ hk => hk) trivial (Below.refl _ _) (Nat.le_refl _) (by simp) ?_; (case hd => rfl); (case hg => rfl); (case hr => first | (go_simp; done) | (go_simp; rfl)); (case hp => exact (Reps.one (show Kd.M Kd.string _ _ _ (strOfNums y175) [.string (strOfNums y175)] from rfl) (Reps.one (show Kd.M Kd.string _ _ _ (t169.extract 0 (t176 : Int).toNat) [.string (t169.extract 0 (t176 : Int).toNat)] from rfl) (Reps.one (show Kd.M Kd.string _ _ _ (((t169.extract 0 (t176 : Int).toNat) ++ a4) ++ (t169.extract (t176 : Int).toNat t169.size)) [.string (((t169.extract 0 (t176 : Int).toNat) ++ a4) ++ (t169.extract (t176 : Int).toNat t169.size))] from rfl) (Reps.one (show Kd.M Kd.string _ _ _ a4 [.string a4] from rfl) (Reps.one (show Kd.M Kd.string _ _ _ (t169 ++ (⟨#[47]⟩ : ByteArray)) [.string (t169 ++ (⟨#[47]⟩ : ByteArray))] from rfl) (Reps.one (show Kd.M Kd.string _ _ _ ((⟨#[47]⟩ : ByteArray) ++ t169) [.string ((⟨#[47]⟩ : ByteArray) ++ t169)] from rfl) (Reps.one (show Kd.M Kd.string _ _ _ ((((t169 ++ (⟨#[47]⟩ : ByteArray)) ++ t169) ++ (⟨#[47]⟩ : ByteArray)) ++ t169) [.string ((((t169 ++ (⟨#[47]⟩ : ByteArray)) ++ t169) ++ (⟨#[47]⟩ : ByteArray)) ++ t169)] from rfl) (Reps.one (show Kd.M Kd.string _ _ _ (⟨#[97, 47, 46, 47, 98]⟩ : ByteArray) [.string (⟨#[97, 47, 46, 47, 98]⟩ : ByteArray)] from rfl) (Reps.one (show Kd.M Kd.string _ _ _ (⟨#[46, 46]⟩ : ByteArray) [.string (⟨#[46, 46]⟩ : ByteArray)] from rfl) (Reps.one (show Kd.M Kd.string _ _ _ (⟨#[]⟩ : ByteArray) [.string (⟨#[]⟩ : ByteArray)] from rfl) (Reps.none _ _))))))))))))
                            intro v178 w38 ho39 hb hg_ hnew_
                            clear hg_ hnew_
                            (first | rw [← Ny177.out] at ho39 | (simp only [Int.reduceToNat] at ho39; rw [← Ny177.out] at ho39))
                            have n0_ := Aside0.mk (Kb.R_below (by (with_reducible repeat (first | apply Kb.R_alloc | apply Kb.R_drewN | apply Kb.R_drew)); exact HO172.out) hb)
                            have n1_ := Aside0.mk (Kd.R_lower ho39 (below_size (by repeat (first | (with_reducible first | exact HB.out | apply below_alloc | apply pw_below_drewN | apply below_drew1) | exact HB.out))))
                            have n2_ := Aside0.mk (below_step (by repeat (first | (with_reducible first | exact HB.out | apply below_alloc | apply pw_below_drewN | apply below_drew1) | exact HB.out)) hb)
                            clear HO172
                            clear HB
                            have HO172 := n0_
                            have HO179 := n1_
                            have HB := n2_
                            clear n0_ n1_ n2_
                            clear hb ho39
                            refine hK.out _ _ (by first | exact HO172.out | exact Kb.R_drewN HO172.out _ | exact Kb.R_below HO172.out (by repeat (first | (with_reducible first | exact HB.out | apply below_alloc | apply pw_below_drewN | apply below_drew1) | exact HB.out))) (fun hHeld => ?_)
                            clear hK K
                            refine norm_ (a' := ?_) ?_ ?_
                            rotate_left
                            · show Act.put _ (some 66) _ = _
                              simp only [Act.put, List.setIfInBounds_toArray, List.set_cons_zero, List.set_cons_succ, i64_w, i32_w]
                              rfl
                            refine pure_ (i := 27) (N := some 14) (v := ?_) (a' := ?_) #[true, true, true, true, true, true, true, true, true, true, true, true, true, true, true, true, true, true, true, true, true, true, true, true, true, true, true, true] rfl rfl (any_of HT_.out (by kernel_rfl)) (fun _ _ _ h => h) (Or.inl ⟨by rfl, ?_⟩) ?_ ?_
                            rotate_left
                            · intro w'
                              go_simp
                              with_reducible rfl
                            rotate_left
                            · simp only [Act.put, List.setIfInBounds_toArray, List.set_cons_zero, List.set_cons_succ, i64_w, i32_w]
                              rfl
                            refine done_ (done_of HT_.out (by kernel_rfl)) ?_
                            try go_wp2
                            go_loopg [15] k (fun kq v15 w' => ∃ (x15_1 : Int), v15 = .int .i64 x15_1 ∧ Aside0 (transhumancelaw4_PathRight.l0 kq t169 y177 x15_1 = some r) ∧ Aside0 (kq ≤ k) ∧ Aside0 (Kd.R Kd.string 9 w' w.heap.size (fun _ => True) v178 y177) ∧ Aside0 (Below w.heap.size w w'))
                            case atStart => exact ⟨(0), (by first | rfl | (simp; done) | (simp [*]; done)), H', ⟨Nat.le_refl _⟩, ⟨by (with_reducible repeat (first | apply Kd.R_alloc | apply Kd.R_drewN | apply Kd.R_drew)); exact HO179.out⟩, ⟨by repeat (first | (with_reducible first | exact HB.out | apply below_alloc | apply pw_below_drewN | apply below_drew1) | exact HB.out)⟩⟩
                            case round =>
                              clear H'
                              try clear c1
                              try clear p1
                              try clear q1
                              try clear hx1
                              try clear c2
                              try clear p2
                              try clear c3
                              try clear hcv3
                              try clear p6
                              try clear c7
                              try clear c8
                              try clear c8b0
                              try clear c8b1
                              try clear c12
                              try clear c12b0
                              try clear c13
                              try clear c13b0
                              try clear c14
                              try clear p14
                              try clear q14
                              try clear hx14
                              try clear hf14
                              try clear c16
                              try clear c16b0
                              try clear c16b1
                              try clear c17
                              try clear c17b0
                              try clear c17b1
                              try clear p17
                              try clear q17
                              try clear hx17
                              try clear c18
                              try clear c18b0
                              try clear c19
                              try clear c19b0
                              try clear c20
                              try clear c20b0
                              try clear c20b1
                              try clear c20b2
                              try clear c21
                              try clear c21b0
                              try clear c22
                              try clear c22b0
                              try clear c23
                              try clear c23b0
                              try clear c23b1
                              try clear c23b2
                              try clear c24
                              try clear c24b0
                              try clear c24b1
                              try clear c24b2
                              try clear c25
                              try clear c25b0
                              try clear c25b1
                              try clear c25b2
                              try clear c26
                              try clear c26b0
                              try clear c26b1
                              try clear c26b2
                              try clear c27
                              try clear c27b0
                              try clear c27b1
                              try clear c27b2
                              try clear c28
                              try clear c28b0
                              try clear c28b1
                              try clear c28b2
                              try clear hcv37
                              try clear hx14_0
                              try clear hx174_0
                              try clear p14
                              try clear p174
                              try clear q14
                              try clear q174
                              obtain ⟨x15_1, rfl, HA, HK1, HO_14, HB⟩ := hrel
                              cases gk with
                              | zero => exact absurd HA.out (by simp [transhumancelaw4_PathRight.l0])
                              | succ k1 =>
                                have H := HA.out
                                clear HA
                                simp only [transhumancelaw4_PathRight.l0] at H
                                by_cases c40 : x15_1 < (y177.length : Int)
                                · rw [if_pos c40] at H
                                  have c40b0 : decide (x15_1 < (y177.length : Int)) = true := decide_eq_true c40
                                  clear c40
                                  by_cases c41 : 0 ≤ x15_1
                                  · rw [if_pos c41] at H
                                    have c41b0 : decide (0 ≤ x15_1) = true := decide_eq_true c41
                                    clear c41
                                    replace H := Option.bind_eq_some_iff.mp H
                                    obtain ⟨t182, A420, H⟩ := H
                                    replace H : ((transhumanceref4_Right.f k1 (rdOf ByteArray.empty y177 x15_1)).bind fun t184 => (if (t182 != t184) = true then (some false) else (transhumancelaw4_PathRight.l0 k1 t169 y177 (wrap64 (x15_1 + 1))))) = some r := H
                                    have A42 := Aside0.mk A420
                                    clear A420
                                    replace H := Option.bind_eq_some_iff.mp H
                                    obtain ⟨t184, A430, H⟩ := H
                                    replace H : (if (t182 != t184) = true then (some false) else (transhumancelaw4_PathRight.l0 k1 t169 y177 (wrap64 (x15_1 + 1)))) = some r := H
                                    have A43 := Aside0.mk A430
                                    clear A430
                                    by_cases c44 : (t182 != t184) = true
                                    · rw [if_pos c44] at H
                                      have c44b0 : (t182 != t184) = true := c44
                                      (try (have c44b1 : decide (t182 = t184) = false := by simpa using c44))
                                      (try (have c44b2 : (t182 == t184) = false := by simpa using c44))
                                      (try (have c44b3 : ¬ (t182 = t184) := by simpa using c44))
                                      clear c44
                                      obtain rfl := Option.some.inj H
                                      obtain ⟨Ao45, co45, eo45⟩ := Kd.R_slice HO_14.out
                                      subst eo45
                                      try go_wp2
                                      have n0_ := Aside0.mk (Kd.R_drew HO_14.out)
                                      have n1_ := Aside0.mk (below_drew1 HB.out)
                                      clear HO_14
                                      clear HB
                                      have HO_14 := n0_
                                      have HB := n1_
                                      clear n0_ n1_
                                      have p181 : 0 ≤ (x15_1 : Int) := of_decide_eq_true (by first | (with_reducible assumption) | assumption)
                                      have q181 : x15_1 < (y177.length : Int) := of_decide_eq_true (by first | (with_reducible assumption) | assumption)
                                      obtain ⟨ad181, e181, hx181_0⟩ := Kd.at_string (Kd.R_reads' HO_14.out).2.2 x15_1 p181 q181
                                      cases e181
                                      replace p181 := eq_true p181
                                      replace q181 := eq_true q181
                                      have p183 : 0 ≤ (x15_1 : Int) := of_decide_eq_true (by first | (with_reducible assumption) | assumption)
                                      have q183 : x15_1 < (y177.length : Int) := of_decide_eq_true (by first | (with_reducible assumption) | assumption)
                                      obtain ⟨ad183, e183, hx183_0⟩ := Kd.at_string (Kd.R_reads' HO_14.out).2.2 x15_1 p183 q183
                                      obtain rfl : ad181 = ad183 := (by injection e183)
                                      replace p183 := eq_true p183
                                      replace q183 := eq_true q183
                                      refine start_ (n := 11) (S := fun w' => w'.cell? (ad181.add (x15_1).toNat) = some (.string (rdOf ByteArray.empty y177 x15_1)) ∧ w'.cell? (ad181.add (x15_1).toNat) = some (.string (rdOf ByteArray.empty y177 x15_1))) (ds := []) #[false, false, false, false, false, false, false, false, false, false, false] (by kernel_rfl) rfl rfl ⟨hx181_0, hx183_0⟩ (fun hHeld => ?_); refine with_tabW transhumancelaw4_PathRight.tab13 transhumancelaw4_PathRight.bits13 (fun HT_ HW_ => ?_)
                                      generalize wr.drew = w46 at HO_14 HB hx181_0 hx183_0 hHeld ⊢
                                      refine pure_ (i := 0) (N := some 73) (v := ?_) (a' := ?_) #[true, false, false, false, false, false, false, false, false, false, false] rfl rfl (any_of HT_.out (by kernel_rfl)) (fun _ _ _ h => h) (Or.inl ⟨by rfl, ?_⟩) ?_ ?_
                                      rotate_left
                                      · intro w'
                                        go_simp
                                        with_reducible rfl
                                      rotate_left
                                      · simp only [Act.put, List.setIfInBounds_toArray, List.set_cons_zero, List.set_cons_succ, i64_w, i32_w]
                                        rfl
                                      refine pure_ (i := 1) (N := some 74) (v := ?_) (a' := ?_) #[true, true, false, false, false, false, false, false, false, false, false] rfl rfl (any_of HT_.out (by kernel_rfl)) (fun _ _ _ h => h) (Or.inl ⟨by rfl, ?_⟩) ?_ ?_
                                      rotate_left
                                      · intro w'
                                        go_simp
                                        with_reducible rfl
                                      rotate_left
                                      · simp only [Act.put, List.setIfInBounds_toArray, List.set_cons_zero, List.set_cons_succ, i64_w, i32_w]
                                        rfl
                                      refine pure_ (i := 2) (N := some 75) (v := ?_) (a' := ?_) #[true, true, true, false, false, false, false, false, false, false, false] rfl rfl (any_of HT_.out (by kernel_rfl)) (fun _ _ _ h => h) (Or.inl ⟨by rfl, ?_⟩) ?_ ?_
                                      rotate_left
                                      · intro w'
                                        go_simp
                                        with_reducible rfl
                                      rotate_left
                                      · simp only [Act.put, List.setIfInBounds_toArray, List.set_cons_zero, List.set_cons_succ, i64_w, i32_w]
                                        rfl
                                      refine pure_ (i := 5) (N := some 78) (v := ?_) (a' := ?_) #[true, true, true, false, false, true, false, false, false, false, false] rfl rfl (any_of HT_.out (by kernel_rfl)) (fun _ _ _ h => h) (Or.inl ⟨by rfl, ?_⟩) ?_ ?_
                                      rotate_left
                                      · intro w'
                                        go_simp
                                        with_reducible rfl
                                      rotate_left
                                      · simp only [Act.put, List.setIfInBounds_toArray, List.set_cons_zero, List.set_cons_succ, i64_w, i32_w]
                                        rfl
                                      refine pure_ (i := 6) (N := some 79) (v := ?_) (a' := ?_) #[true, true, true, false, false, true, true, false, false, false, false] rfl rfl (any_of HT_.out (by kernel_rfl)) (fun _ _ _ h => h) (Or.inl ⟨by rfl, ?_⟩) ?_ ?_
                                      rotate_left
                                      · intro w'
                                        go_simp
                                        with_reducible rfl
                                      rotate_left
                                      · simp only [Act.put, List.setIfInBounds_toArray, List.set_cons_zero, List.set_cons_succ, i64_w, i32_w]
                                        rfl
                                      refine pure_ (i := 7) (N := some 80) (v := ?_) (a' := ?_) #[true, true, true, false, false, true, true, true, false, false, false] rfl rfl (any_of HT_.out (by kernel_rfl)) (fun _ _ _ h => h) (Or.inl ⟨by rfl, ?_⟩) ?_ ?_
                                      rotate_left
                                      · intro w'
                                        go_simp
                                        with_reducible rfl
                                      rotate_left
                                      · simp only [Act.put, List.setIfInBounds_toArray, List.set_cons_zero, List.set_cons_succ, i64_w, i32_w]
                                        rfl
                                      refine take_ (i := 3) (N := some 76) (v := ?_) (a' := ?_) #[true, true, true, true, false, true, true, true, false, false, false] rfl rfl (take_ofW HT_.out HW_.out (by kernel_rfl)) (fun _ _ _ h => h) (Or.inl ⟨by rfl, ?_⟩) hHeld ?_ ?_
                                      rotate_left
                                      · rintro w' ⟨s0, s1⟩
                                        go_simp
                                        with_reducible rfl
                                      rotate_left
                                      · simp only [Act.put, List.setIfInBounds_toArray, List.set_cons_zero, List.set_cons_succ, i64_w, i32_w]
                                        rfl
                                      refine take_ (i := 8) (N := some 81) (v := ?_) (a' := ?_) #[true, true, true, true, false, true, true, true, true, false, false] rfl rfl (take_ofW HT_.out HW_.out (by kernel_rfl)) (fun _ _ _ h => h) (Or.inl ⟨by rfl, ?_⟩) hHeld ?_ ?_
                                      rotate_left
                                      · rintro w' ⟨s0, s1⟩
                                        go_simp
                                        with_reducible rfl
                                      rotate_left
                                      · simp only [Act.put, List.setIfInBounds_toArray, List.set_cons_zero, List.set_cons_succ, i64_w, i32_w]
                                        rfl
                                      refine one_ (i := 4) (N := some 77) #[true, true, true, true, true, true, true, true, true, false, false] rfl rfl (one_of HT_.out (by kernel_rfl)) (by decide) (fun K hK => ?_)
                                      refine goes_ Try.func15 (by kernel_rfl) rfl #[.string (rdOf ByteArray.empty y177 x15_1)] (by rfl) rfl rfl (by (try simp only [List.map_toArray, List.map_cons, List.map_nil]); first | done | rfl | (simp only [List.length_drop, List.length_take]; rfl)) ?_
                                      with_reducible refine (path_Right.calls k1 (rdOf ByteArray.empty y177 x15_1) t182 _ A42.out).mono ?_
                                      rintro e w' ⟨rfl, ⟨nd, rfl⟩⟩
                                      refine ⟨_, rfl, ?_⟩
                                      refine hK.out _ _ ⟨hHeld.1, hHeld.2⟩ (fun hHeld => ?_)
                                      clear hK K
                                      refine norm_ (a' := ?_) ?_ ?_
                                      rotate_left
                                      · show Act.put _ (some 77) _ = _
                                        simp only [Act.put, List.setIfInBounds_toArray, List.set_cons_zero, List.set_cons_succ, i64_w, i32_w]
                                        rfl
                                      refine one_ (i := 9) (N := some 82) #[true, true, true, true, true, true, true, true, true, true, false] rfl rfl (one_of HT_.out (by kernel_rfl)) (by decide) (fun K hK => ?_)
                                      refine goes_ Try.func16 (by kernel_rfl) rfl #[.string (rdOf ByteArray.empty y177 x15_1)] (by rfl) rfl rfl (by (try simp only [List.map_toArray, List.map_cons, List.map_nil]); first | done | rfl | (simp only [List.length_drop, List.length_take]; rfl)) ?_
                                      with_reducible refine (transhumanceref4_Right.calls k1 (rdOf ByteArray.empty y177 x15_1) t184 _ A43.out).mono ?_
                                      rintro e w47 ⟨rfl, hb⟩
                                      have HS0_ := (hb.cell (World.block_lt_of_cell? _ _ (hHeld.1))).trans (hHeld.1)
                                      have HS1_ := (hb.cell (World.block_lt_of_cell? _ _ (hHeld.2))).trans (hHeld.2)
                                      refine ⟨_, rfl, ?_⟩
                                      have n0_ := Aside0.mk (Kd.R_below (by (with_reducible repeat (first | apply Kd.R_alloc | apply Kd.R_drewN | apply Kd.R_drew)); exact HO_14.out) hb)
                                      have n1_ := Aside0.mk (below_step (by repeat (first | (with_reducible first | exact HB.out | apply below_alloc | apply pw_below_drewN | apply below_drew1) | exact HB.out)) hb)
                                      clear HO_14
                                      clear HB
                                      have HO_14 := n0_
                                      have HB := n1_
                                      clear n0_ n1_
                                      (try clear hb)
                                      (try clear hb2)
                                      (try clear hk)
                                      (try clear hi)
                                      refine hK.out _ _ ⟨HS0_, HS1_⟩ (fun hHeld => ?_)
                                      clear hK K
                                      refine norm_ (a' := ?_) ?_ ?_
                                      rotate_left
                                      · show Act.put _ (some 82) _ = _
                                        simp only [Act.put, List.setIfInBounds_toArray, List.set_cons_zero, List.set_cons_succ, i64_w, i32_w]
                                        rfl
                                      refine pure_ (i := 10) (N := some 83) (v := ?_) (a' := ?_) #[true, true, true, true, true, true, true, true, true, true, true] rfl rfl (any_of HT_.out (by kernel_rfl)) (fun _ _ _ h => h) (Or.inl ⟨by rfl, ?_⟩) ?_ ?_
                                      rotate_left
                                      · intro w'
                                        go_simp
                                        with_reducible rfl
                                      rotate_left
                                      · simp only [Act.put, List.setIfInBounds_toArray, List.set_cons_zero, List.set_cons_succ, i64_w, i32_w]
                                        rfl
                                      refine done_ (done_of HT_.out (by kernel_rfl)) ?_
                                      try go_wp2
                                      go_ret
                                      exact ⟨by first | rfl | (simp [errW_none, errW_some] <;> rfl) | (simp [*, errW_none, errW_some] <;> rfl), by repeat (first | (with_reducible first | exact HB.out | apply below_alloc | apply pw_below_drewN | apply below_drew1) | exact HB.out)⟩
                                    · rw [if_neg c44] at H
                                      have c44b0 : (t182 != t184) = false := by simpa using c44
                                      (try (have c44b1 : decide (t182 = t184) = true := by simpa using c44))
                                      (try (have c44b2 : (t182 == t184) = true := by simpa using c44))
                                      clear c44
                                      have H' := Aside0.mk H
                                      clear H
                                      obtain ⟨Ao48, co48, eo48⟩ := Kd.R_slice HO_14.out
                                      subst eo48
                                      try go_wp2
                                      have n0_ := Aside0.mk (Kd.R_drew HO_14.out)
                                      have n1_ := Aside0.mk (below_drew1 HB.out)
                                      clear HO_14
                                      clear HB
                                      have HO_14 := n0_
                                      have HB := n1_
                                      clear n0_ n1_
                                      have p181 : 0 ≤ (x15_1 : Int) := of_decide_eq_true (by first | (with_reducible assumption) | assumption)
                                      have q181 : x15_1 < (y177.length : Int) := of_decide_eq_true (by first | (with_reducible assumption) | assumption)
                                      obtain ⟨ad181, e181, hx181_0⟩ := Kd.at_string (Kd.R_reads' HO_14.out).2.2 x15_1 p181 q181
                                      cases e181
                                      replace p181 := eq_true p181
                                      replace q181 := eq_true q181
                                      have p183 : 0 ≤ (x15_1 : Int) := of_decide_eq_true (by first | (with_reducible assumption) | assumption)
                                      have q183 : x15_1 < (y177.length : Int) := of_decide_eq_true (by first | (with_reducible assumption) | assumption)
                                      obtain ⟨ad183, e183, hx183_0⟩ := Kd.at_string (Kd.R_reads' HO_14.out).2.2 x15_1 p183 q183
                                      obtain rfl : ad181 = ad183 := (by injection e183)
                                      replace p183 := eq_true p183
                                      replace q183 := eq_true q183
                                      refine start_ (n := 11) (S := fun w' => w'.cell? (ad181.add (x15_1).toNat) = some (.string (rdOf ByteArray.empty y177 x15_1)) ∧ w'.cell? (ad181.add (x15_1).toNat) = some (.string (rdOf ByteArray.empty y177 x15_1))) (ds := []) #[false, false, false, false, false, false, false, false, false, false, false] (by kernel_rfl) rfl rfl ⟨hx181_0, hx183_0⟩ (fun hHeld => ?_); refine with_tabW transhumancelaw4_PathRight.tab13 transhumancelaw4_PathRight.bits13 (fun HT_ HW_ => ?_)
                                      generalize wr.drew = w49 at HO_14 HB hx181_0 hx183_0 hHeld ⊢
                                      refine pure_ (i := 0) (N := some 73) (v := ?_) (a' := ?_) #[true, false, false, false, false, false, false, false, false, false, false] rfl rfl (any_of HT_.out (by kernel_rfl)) (fun _ _ _ h => h) (Or.inl ⟨by rfl, ?_⟩) ?_ ?_
                                      rotate_left
                                      · intro w'
                                        go_simp
                                        with_reducible rfl
                                      rotate_left
                                      · simp only [Act.put, List.setIfInBounds_toArray, List.set_cons_zero, List.set_cons_succ, i64_w, i32_w]
                                        rfl
                                      refine pure_ (i := 1) (N := some 74) (v := ?_) (a' := ?_) #[true, true, false, false, false, false, false, false, false, false, false] rfl rfl (any_of HT_.out (by kernel_rfl)) (fun _ _ _ h => h) (Or.inl ⟨by rfl, ?_⟩) ?_ ?_
                                      rotate_left
                                      · intro w'
                                        go_simp
                                        with_reducible rfl
                                      rotate_left
                                      · simp only [Act.put, List.setIfInBounds_toArray, List.set_cons_zero, List.set_cons_succ, i64_w, i32_w]
                                        rfl
                                      refine pure_ (i := 2) (N := some 75) (v := ?_) (a' := ?_) #[true, true, true, false, false, false, false, false, false, false, false] rfl rfl (any_of HT_.out (by kernel_rfl)) (fun _ _ _ h => h) (Or.inl ⟨by rfl, ?_⟩) ?_ ?_
                                      rotate_left
                                      · intro w'
                                        go_simp
                                        with_reducible rfl
                                      rotate_left
                                      · simp only [Act.put, List.setIfInBounds_toArray, List.set_cons_zero, List.set_cons_succ, i64_w, i32_w]
                                        rfl
                                      refine pure_ (i := 5) (N := some 78) (v := ?_) (a' := ?_) #[true, true, true, false, false, true, false, false, false, false, false] rfl rfl (any_of HT_.out (by kernel_rfl)) (fun _ _ _ h => h) (Or.inl ⟨by rfl, ?_⟩) ?_ ?_
                                      rotate_left
                                      · intro w'
                                        go_simp
                                        with_reducible rfl
                                      rotate_left
                                      · simp only [Act.put, List.setIfInBounds_toArray, List.set_cons_zero, List.set_cons_succ, i64_w, i32_w]
                                        rfl
                                      refine pure_ (i := 6) (N := some 79) (v := ?_) (a' := ?_) #[true, true, true, false, false, true, true, false, false, false, false] rfl rfl (any_of HT_.out (by kernel_rfl)) (fun _ _ _ h => h) (Or.inl ⟨by rfl, ?_⟩) ?_ ?_
                                      rotate_left
                                      · intro w'
                                        go_simp
                                        with_reducible rfl
                                      rotate_left
                                      · simp only [Act.put, List.setIfInBounds_toArray, List.set_cons_zero, List.set_cons_succ, i64_w, i32_w]
                                        rfl
                                      refine pure_ (i := 7) (N := some 80) (v := ?_) (a' := ?_) #[true, true, true, false, false, true, true, true, false, false, false] rfl rfl (any_of HT_.out (by kernel_rfl)) (fun _ _ _ h => h) (Or.inl ⟨by rfl, ?_⟩) ?_ ?_
                                      rotate_left
                                      · intro w'
                                        go_simp
                                        with_reducible rfl
                                      rotate_left
                                      · simp only [Act.put, List.setIfInBounds_toArray, List.set_cons_zero, List.set_cons_succ, i64_w, i32_w]
                                        rfl
                                      refine take_ (i := 3) (N := some 76) (v := ?_) (a' := ?_) #[true, true, true, true, false, true, true, true, false, false, false] rfl rfl (take_ofW HT_.out HW_.out (by kernel_rfl)) (fun _ _ _ h => h) (Or.inl ⟨by rfl, ?_⟩) hHeld ?_ ?_
                                      rotate_left
                                      · rintro w' ⟨s0, s1⟩
                                        go_simp
                                        with_reducible rfl
                                      rotate_left
                                      · simp only [Act.put, List.setIfInBounds_toArray, List.set_cons_zero, List.set_cons_succ, i64_w, i32_w]
                                        rfl
                                      refine take_ (i := 8) (N := some 81) (v := ?_) (a' := ?_) #[true, true, true, true, false, true, true, true, true, false, false] rfl rfl (take_ofW HT_.out HW_.out (by kernel_rfl)) (fun _ _ _ h => h) (Or.inl ⟨by rfl, ?_⟩) hHeld ?_ ?_
                                      rotate_left
                                      · rintro w' ⟨s0, s1⟩
                                        go_simp
                                        with_reducible rfl
                                      rotate_left
                                      · simp only [Act.put, List.setIfInBounds_toArray, List.set_cons_zero, List.set_cons_succ, i64_w, i32_w]
                                        rfl
                                      refine one_ (i := 4) (N := some 77) #[true, true, true, true, true, true, true, true, true, false, false] rfl rfl (one_of HT_.out (by kernel_rfl)) (by decide) (fun K hK => ?_)
                                      refine goes_ Try.func15 (by kernel_rfl) rfl #[.string (rdOf ByteArray.empty y177 x15_1)] (by rfl) rfl rfl (by (try simp only [List.map_toArray, List.map_cons, List.map_nil]); first | done | rfl | (simp only [List.length_drop, List.length_take]; rfl)) ?_
                                      with_reducible refine (path_Right.calls k1 (rdOf ByteArray.empty y177 x15_1) t182 _ A42.out).mono ?_
                                      rintro e w' ⟨rfl, ⟨nd, rfl⟩⟩
                                      refine ⟨_, rfl, ?_⟩
                                      refine hK.out _ _ ⟨hHeld.1, hHeld.2⟩ (fun hHeld => ?_)
                                      clear hK K
                                      refine norm_ (a' := ?_) ?_ ?_
                                      rotate_left
                                      · show Act.put _ (some 77) _ = _
                                        simp only [Act.put, List.setIfInBounds_toArray, List.set_cons_zero, List.set_cons_succ, i64_w, i32_w]
                                        rfl
                                      refine one_ (i := 9) (N := some 82) #[true, true, true, true, true, true, true, true, true, true, false] rfl rfl (one_of HT_.out (by kernel_rfl)) (by decide) (fun K hK => ?_)
                                      refine goes_ Try.func16 (by kernel_rfl) rfl #[.string (rdOf ByteArray.empty y177 x15_1)] (by rfl) rfl rfl (by (try simp only [List.map_toArray, List.map_cons, List.map_nil]); first | done | rfl | (simp only [List.length_drop, List.length_take]; rfl)) ?_
                                      with_reducible refine (transhumanceref4_Right.calls k1 (rdOf ByteArray.empty y177 x15_1) t184 _ A43.out).mono ?_
                                      rintro e w50 ⟨rfl, hb⟩
                                      have HS0_ := (hb.cell (World.block_lt_of_cell? _ _ (hHeld.1))).trans (hHeld.1)
                                      have HS1_ := (hb.cell (World.block_lt_of_cell? _ _ (hHeld.2))).trans (hHeld.2)
                                      refine ⟨_, rfl, ?_⟩
                                      have n0_ := Aside0.mk (Kd.R_below (by (with_reducible repeat (first | apply Kd.R_alloc | apply Kd.R_drewN | apply Kd.R_drew)); exact HO_14.out) hb)
                                      have n1_ := Aside0.mk (below_step (by repeat (first | (with_reducible first | exact HB.out | apply below_alloc | apply pw_below_drewN | apply below_drew1) | exact HB.out)) hb)
                                      clear HO_14
                                      clear HB
                                      have HO_14 := n0_
                                      have HB := n1_
                                      clear n0_ n1_
                                      (try clear hb)
                                      (try clear hb2)
                                      (try clear hk)
                                      (try clear hi)
                                      refine hK.out _ _ ⟨HS0_, HS1_⟩ (fun hHeld => ?_)
                                      clear hK K
                                      refine norm_ (a' := ?_) ?_ ?_
                                      rotate_left
                                      · show Act.put _ (some 82) _ = _
                                        simp only [Act.put, List.setIfInBounds_toArray, List.set_cons_zero, List.set_cons_succ, i64_w, i32_w]
                                        rfl
                                      refine pure_ (i := 10) (N := some 83) (v := ?_) (a' := ?_) #[true, true, true, true, true, true, true, true, true, true, true] rfl rfl (any_of HT_.out (by kernel_rfl)) (fun _ _ _ h => h) (Or.inl ⟨by rfl, ?_⟩) ?_ ?_
                                      rotate_left
                                      · intro w'
                                        go_simp
                                        with_reducible rfl
                                      rotate_left
                                      · simp only [Act.put, List.setIfInBounds_toArray, List.set_cons_zero, List.set_cons_succ, i64_w, i32_w]
                                        rfl
                                      refine done_ (done_of HT_.out (by kernel_rfl)) ?_
                                      try go_wp2
                                      go_roundg k1
                                      case measure => have := HK1.out; omega
                                      case rel => exact ⟨(wrap64 (x15_1 + 1)), (by first | rfl | (simp; done) | (simp [*]; done)), H', ⟨by have := HK1.out; omega⟩, ⟨by (with_reducible repeat (first | apply Kd.R_alloc | apply Kd.R_drewN | apply Kd.R_drew)); exact HO_14.out⟩, ⟨by repeat (first | (with_reducible first | exact HB.out | apply below_alloc | apply pw_below_drewN | apply below_drew1) | exact HB.out)⟩⟩
                                  · rw [if_neg c41] at H
                                    exact absurd H (by simp)
                                · rw [if_neg c40] at H
                                  have c40b0 : decide (x15_1 < (y177.length : Int)) = false := decide_eq_false c40
                                  clear c40
                                  replace H := Option.bind_eq_some_iff.mp H
                                  obtain ⟨t180, A510, H⟩ := H
                                  replace H : (some t180) = some r := H
                                  have A51 := Aside0.mk A510
                                  clear A510
                                  obtain rfl := Option.some.inj H
                                  obtain ⟨Ao52, co52, eo52⟩ := Kd.R_slice HO_14.out
                                  subst eo52
                                  go_wp2_with (first | ((with_reducible refine gate_callee (f := 15) rfl ?_); refine goesL_ (some 85) rfl rfl Try.func15 (by kernel_rfl) rfl #[.string t169] rfl (by (try simp only [List.map_toArray, List.map_cons, List.map_nil]); first | done | rfl | (simp only [List.length_drop, List.length_take]; rfl)) ?_; (with_reducible refine (path_Right.calls k1 t169 t180 _ A51.out).mono ?_); rintro e w' ⟨rfl, ⟨nd, rfl⟩⟩; refine ⟨_, rfl, ?_⟩))
                                  go_ret
                                  exact ⟨by first | rfl | (simp [errW_none, errW_some] <;> rfl) | (simp [*, errW_none, errW_some] <;> rfl), by repeat (first | (with_reducible first | exact HB.out | apply below_alloc | apply pw_below_drewN | apply below_drew1) | exact HB.out)⟩
                          · rw [if_neg c28] at H
                            exact absurd H (by simp)
                        · rw [if_neg c27] at H
                          exact absurd H (by simp)
                      · rw [if_neg c26] at H
                        exact absurd H (by simp)
                    · rw [if_neg c25] at H
                      exact absurd H (by simp)
                  · rw [if_neg c24] at H
                    exact absurd H (by simp)
                · rw [if_neg c23] at H
                  exact absurd H (by simp)
              · rw [if_neg c20] at H
                exact absurd H (by simp)
            · rw [if_neg c17] at H
              exact absurd H (by simp)
          · rw [if_neg c16] at H
            exact absurd H (by simp)
        · rw [if_neg c13] at H
          exact absurd H (by simp)
      · rw [if_neg c12] at H
        exact absurd H (by simp)
  · replace c7 := Bool.eq_false_iff.mpr c7
    subst c7
    have H1 : (some false) = some r := by rw [if_neg (show ¬ (false = true) by decide)] at H; exact H
    clear H
    have H := H1
    clear H1
    obtain rfl := Option.some.inj H
    go_enter Try.func3, Try.ntmps3
    go_wp2_with (first | ((with_reducible refine gate_callee (f := 12) rfl ?_); refine goesL_ (some 16) rfl rfl Try.func12 (by kernel_rfl) rfl #[] rfl (by (try simp only [List.map_toArray, List.map_cons, List.map_nil]); first | done | rfl | (simp only [List.length_drop, List.length_take]; rfl)) ?_; (with_reducible refine (transhumancelaw4_known.calls k  false _ A6.out).mono ?_); rintro e w53 ⟨rfl, hb⟩; refine ⟨_, rfl, ?_⟩; have n0_ := Aside0.mk (below_step (by repeat (first | (with_reducible first | exact HB.out | apply below_alloc | apply pw_below_drewN | apply below_drew1) | exact HB.out)) hb); clear HB; have HB := n0_; clear n0_; (try clear hb); (try clear hb2); (try clear hk); (try clear hi)))
    go_ret
    exact ⟨by first | rfl | (simp [errW_none, errW_some] <;> rfl) | (simp [*, errW_none, errW_some] <;> rfl), by repeat (first | (with_reducible first | exact HB.out | apply below_alloc | apply pw_below_drewN | apply below_drew1) | exact HB.out)⟩

/-- THE ONE PURE STATEMENT of transhumancelaw4_PathRight: yours. -/
def transhumancelaw4_PathRight.Pure : Prop := ∀ (a0 : Int) (a1 : Int) (a2 : Int) (a3 : Int) (a4 : ByteArray), (Lit.int .i64 a0).wf = true → (Lit.int .i64 a1).wf = true → (Lit.int .u8 a2).wf = true → (Lit.int .i64 a3).wf = true → a4.size ≤ 140737488351232 → ∃ k, transhumancelaw4_PathRight.f k a0 a1 a2 a3 a4 = some true
theorem transhumancelaw4_PathRight.walk (P : transhumancelaw4_PathRight.Pure) (a0 : Int) (a1 : Int) (a2 : Int) (a3 : Int) (a4 : ByteArray) (w : World) (w0 : (Lit.int .i64 a0).wf = true) (w1 : (Lit.int .i64 a1).wf = true) (w2 : (Lit.int .u8 a2).wf = true) (w3 : (Lit.int .i64 a3).wf = true) (w4 : a4.size ≤ 140737488351232) :
    Calls Try.prog 3 #[.int .i64 a0, .int .i64 a1, .int .u8 a2, .int .i64 a3, .string a4] w fun e w' => e = .returned (.bool true) ∧ Below w.heap.size w w' := by
  obtain ⟨k, h⟩ := P a0 a1 a2 a3 a4 w0 w1 w2 w3 w4
  refine (transhumancelaw4_PathRight.calls k a0 a1 a2 a3 a4 true w h).mono ?_
  rintro e w' ⟨rfl, hd⟩
  exact ⟨rfl, hd⟩

end Go.Proofs.Ytelommablohfoaa.X
