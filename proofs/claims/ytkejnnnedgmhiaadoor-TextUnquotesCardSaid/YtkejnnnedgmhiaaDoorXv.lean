-- Laid by this session's own program (wip/xprint.py). Not trusted: Lean checks it.
import Derived.Test.YtkejnnnedgmhiaaDoorXx0
import Derived.Test.YtkejnnnedgmhiaaDoorSb
import Derived.Test.YtkejnnnedgmhiaaDoorXx3
import Derived.Test.YtkejnnnedgmhiaaDoorXx5
import Derived.Test.YtkejnnnedgmhiaaDoorXx6
import Derived.Test.YtkejnnnedgmhiaaDoorXx11
import Derived.Test.YtkejnnnedgmhiaaDoorXx13
namespace Go.Proofs.YtkejnnnedgmhiaaDoor.X
open Go.RowKit Go.Proofs.YtkejnnnedgmhiaaDoorW.PrintWords Go.Proofs.YtkejnnnedgmhiaaDoorW.PrintLast Go.Proofs.YtkejnnnedgmhiaaDoorW.PrintMore
attribute [local go_sem] max2_int min2_int max_two min_two max_three min_three max_four min_four   -- for this text's walks alone
set_option linter.unusedVariables false
set_option linter.unusedSimpArgs false

/-! ### transhumancelaw1_TextUnquotes: function 7 -/
mutual
def transhumancelaw1_TextUnquotes.j0 : Nat → List Int → Int → Int → Int → ByteArray → Bool → Option (Bool)
  | 0, _, _, _, _, _, _ => none
  | k + 1, x0, x1, x2, x3, x4, x30 => if x30 = true then (some true) else ((transhumancelaw1_Plain.f k x0 100).bind fun t285 => ((transhumanceref1_Quote.f k t285).bind fun t286 => ((some (bytesI t286 : List Int)).bind fun y287 => ((transhumancelaw1_within.f x1 (y287.length : Int)).bind fun t290 => (if 0 ≤ t290 then (if t290 < (y287.length : Int) then ((transhumancelaw1_within.f x3 (wrap64 ((t286.size : Int) + 1))).bind fun t293 => (if 0 ≤ t293 then (if t293 ≤ (t286.size : Int) then (if 1 + x4.size ≤ 9223372036854775807 then (if 2 + x4.size ≤ 9223372036854775807 then (transhumancelaw1_TextUnquotes.l0 k (([strOfNums (y287.set (t290 : Int).toNat (((rd y287 t290) + x2) % 256)), t286.extract 0 (t293 : Int).toNat, x4, (⟨#[34]⟩ : ByteArray) ++ x4, (⟨#[34, 92]⟩ : ByteArray) ++ x4] : List ByteArray)) 0) else (none)) else (none)) else (none)) else (none))) else (none)) else (none))))))
def transhumancelaw1_TextUnquotes.l0 : Nat → List ByteArray → Int → Option (Bool)
  | 0, _, _ => none
  | k + 1, x13, x14 => if x14 < (x13.length : Int) then (if 0 ≤ x14 then ((text_Unquote.f k (rdOf ByteArray.empty x13 x14)).bind fun bt298 => ((transhumanceref1_Unquote.f k (rdOf ByteArray.empty x13 x14)).bind fun bt302 => (if bt298.1.toList = bt302.1.toList then (if bt298.2.1 = bt302.2.1 then (if (bt298.2.2 != bt302.2.2) = true then (some false) else (transhumancelaw1_TextUnquotes.l0 k x13 (wrap64 (x14 + 1)))) else (some false)) else (some false)))) else (none)) else (some true)
end
def transhumancelaw1_TextUnquotes.f (k : Nat) (l0 : List Int) (a1 : Int) (a2 : Int) (a3 : Int) (a4 : ByteArray) : Option (Bool) := (transhumancelaw1_known.f k).bind fun t284 => (if t284 = true then (if (l0.length : Int) > 100 then (transhumancelaw1_TextUnquotes.j0 k l0 a1 a2 a3 a4 true) else (transhumancelaw1_TextUnquotes.j0 k l0 a1 a2 a3 a4 (decide ((a4.size : Int) > 100)))) else (some false))
theorem transhumancelaw1_TextUnquotes.mono_l : ∀ k, (∀ y0 y1 y2 y3 y4 y5, LeO (transhumancelaw1_TextUnquotes.j0 k y0 y1 y2 y3 y4 y5) (transhumancelaw1_TextUnquotes.j0 (k + 1) y0 y1 y2 y3 y4 y5)) ∧ (∀ y0 y1, LeO (transhumancelaw1_TextUnquotes.l0 k y0 y1) (transhumancelaw1_TextUnquotes.l0 (k + 1) y0 y1))
  | 0 => ⟨fun _ _ _ _ _ _ r h => by simp [transhumancelaw1_TextUnquotes.j0] at h, fun _ _ r h => by simp [transhumancelaw1_TextUnquotes.l0] at h⟩
  | k + 1 => by
    obtain ⟨ih0, ih1⟩ := transhumancelaw1_TextUnquotes.mono_l k
    refine ⟨?_, ?_⟩
    · intro y0 y1 y2 y3 y4 y5
      unfold transhumancelaw1_TextUnquotes.j0
      repeat' first
      | (with_reducible exact ih0 _ _ _ _ _ _)
      | (with_reducible exact ih1 _ _)
      | (with_reducible exact text_Unquote.mono _ _)
      | (with_reducible exact transhumancelaw1_Plain.mono _ _ _)
      | (with_reducible exact transhumancelaw1_known.mono _)
      | (with_reducible exact transhumanceref1_Quote.mono _ _)
      | (with_reducible exact transhumanceref1_Unquote.mono _ _)
      | (with_reducible exact LeO.refl _)
      | (with_reducible exact LeO.none _)
      | (with_reducible refine LeO.ite ?_ ?_)
      | (with_reducible refine LeO.bind ?_ (fun _ => ?_))
      | exact ih0 _ _ _ _ _ _
      | exact ih1 _ _
      | exact text_Unquote.mono _ _
      | exact transhumancelaw1_Plain.mono _ _ _
      | exact transhumancelaw1_known.mono _
      | exact transhumanceref1_Quote.mono _ _
      | exact transhumanceref1_Unquote.mono _ _
      | exact LeO.none _
      | refine LeO.ite ?_ ?_
      | refine LeO.bind ?_ (fun _ => ?_)
    · intro y0 y1
      unfold transhumancelaw1_TextUnquotes.l0
      repeat' first
      | (with_reducible exact ih0 _ _ _ _ _ _)
      | (with_reducible exact ih1 _ _)
      | (with_reducible exact text_Unquote.mono _ _)
      | (with_reducible exact transhumancelaw1_Plain.mono _ _ _)
      | (with_reducible exact transhumancelaw1_known.mono _)
      | (with_reducible exact transhumanceref1_Quote.mono _ _)
      | (with_reducible exact transhumanceref1_Unquote.mono _ _)
      | (with_reducible exact LeO.refl _)
      | (with_reducible exact LeO.none _)
      | (with_reducible refine LeO.ite ?_ ?_)
      | (with_reducible refine LeO.bind ?_ (fun _ => ?_))
      | exact ih0 _ _ _ _ _ _
      | exact ih1 _ _
      | exact text_Unquote.mono _ _
      | exact transhumancelaw1_Plain.mono _ _ _
      | exact transhumancelaw1_known.mono _
      | exact transhumanceref1_Quote.mono _ _
      | exact transhumanceref1_Unquote.mono _ _
      | exact LeO.none _
      | refine LeO.ite ?_ ?_
      | refine LeO.bind ?_ (fun _ => ?_)
theorem transhumancelaw1_TextUnquotes.mono : ∀ a0 a1 a2 a3 a4 k, LeO (transhumancelaw1_TextUnquotes.f k a0 a1 a2 a3 a4) (transhumancelaw1_TextUnquotes.f (k + 1) a0 a1 a2 a3 a4) := by
  intro a0 a1 a2 a3 a4 k
  obtain ⟨ih0, ih1⟩ := transhumancelaw1_TextUnquotes.mono_l k
  unfold transhumancelaw1_TextUnquotes.f
  repeat' first
      | (with_reducible exact ih0 _ _ _ _ _ _)
      | (with_reducible exact ih1 _ _)
      | (with_reducible exact text_Unquote.mono _ _)
      | (with_reducible exact transhumancelaw1_Plain.mono _ _ _)
      | (with_reducible exact transhumancelaw1_known.mono _)
      | (with_reducible exact transhumanceref1_Quote.mono _ _)
      | (with_reducible exact transhumanceref1_Unquote.mono _ _)
      | (with_reducible exact LeO.refl _)
      | (with_reducible exact LeO.none _)
      | (with_reducible refine LeO.ite ?_ ?_)
      | (with_reducible refine LeO.bind ?_ (fun _ => ?_))
      | exact ih0 _ _ _ _ _ _
      | exact ih1 _ _
      | exact text_Unquote.mono _ _
      | exact transhumancelaw1_Plain.mono _ _ _
      | exact transhumancelaw1_known.mono _
      | exact transhumanceref1_Quote.mono _ _
      | exact transhumanceref1_Unquote.mono _ _
      | exact LeO.none _
      | refine LeO.ite ?_ ?_
      | refine LeO.bind ?_ (fun _ => ?_)
def transhumancelaw1_TextUnquotes.T8 : Bool × List (List Nat × List Nat) := (true, [([], []), ([0], [0]), ([], []), ([], []), ([], []), ([4], [4]), ([5], [5]), ([3, 6], [3, 6]), ([2, 7], [2, 7]), ([], []), ([], []), ([10], [10]), ([], []), ([12], [12]), ([1, 8, 9, 11, 13], [1, 8, 9, 11, 13]), ([14, 7, 0, 1, 2, 3, 4, 5, 6, 7, 8, 9, 10, 11, 12, 13, 14], [14])])
def transhumancelaw1_TextUnquotes.B8 : List Nat := [0, 1, 0, 0, 0, 16, 48, 120, 252, 0, 0, 1024, 0, 4096, 16383, 32767]
theorem transhumancelaw1_TextUnquotes.tab8 : rtab .any (opsOf Tryd.f7 8) = transhumancelaw1_TextUnquotes.T8 := by kernel_rfl
theorem transhumancelaw1_TextUnquotes.bits8 : waitsOk transhumancelaw1_TextUnquotes.T8.2 transhumancelaw1_TextUnquotes.B8 = true := by kernel_rfl
set_option maxHeartbeats 8000000 in
set_option maxRecDepth 100000 in
theorem transhumancelaw1_TextUnquotes.calls (k : Nat) (A0 : Option Addr) (c0 : Nat) (l0 : List Int) (a1 : Int) (a2 : Int) (a3 : Int) (a4 : ByteArray) (r : Bool) (w : World) (hr0 : Kd.C (Kd.int .u8) w A0 l0.length l0) (hc0 : l0.length ≤ c0) (h : transhumancelaw1_TextUnquotes.f k l0 a1 a2 a3 a4 = some r) :
    Calls Tryd.prog 7 #[.slice A0 l0.length c0, .int .i64 a1, .int .u8 a2, .int .i64 a3, .string a4] w fun e w' => e = .returned (.bool r) ∧ Below w.heap.size w w' := by
  have HR0 := Aside0.mk hr0
  have HC0 := Aside0.mk hc0
  clear hr0 hc0
  have HB := Aside0.mk (Below.refl w.heap.size w)
  have H : ((transhumancelaw1_known.f k).bind fun t284 => (if t284 = true then (if (l0.length : Int) > 100 then (transhumancelaw1_TextUnquotes.j0 k l0 a1 a2 a3 a4 true) else (transhumancelaw1_TextUnquotes.j0 k l0 a1 a2 a3 a4 (decide ((a4.size : Int) > 100)))) else (some false))) = some r := h
  clear h
  replace H := Option.bind_eq_some_iff.mp H
  obtain ⟨t284, A60, H⟩ := H
  replace H : (if t284 = true then (if (l0.length : Int) > 100 then (transhumancelaw1_TextUnquotes.j0 k l0 a1 a2 a3 a4 true) else (transhumancelaw1_TextUnquotes.j0 k l0 a1 a2 a3 a4 (decide ((a4.size : Int) > 100)))) else (some false)) = some r := H
  have A6 := Aside0.mk A60
  clear A60
  by_cases c7 : t284 = true
  · subst c7
    have H1 : (if (l0.length : Int) > 100 then (transhumancelaw1_TextUnquotes.j0 k l0 a1 a2 a3 a4 true) else (transhumancelaw1_TextUnquotes.j0 k l0 a1 a2 a3 a4 (decide ((a4.size : Int) > 100)))) = some r := by rw [if_pos rfl] at H; exact H
    clear H
    have H := H1
    clear H1
    have HC8 := Aside0.mk H
    clear H
    go_enter Tryd.func7, Tryd.ntmps7
    go_upto_region 3 with (first | ((with_reducible refine gate_callee (f := 13) rfl ?_); refine goesL_ (some 21) rfl rfl Tryd.func13 (by kernel_rfl) rfl #[] rfl (by (try simp only [List.map_toArray, List.map_cons, List.map_nil]); first | done | rfl | (simp only [List.length_drop, List.length_take]; rfl)) ?_; (with_reducible refine (transhumancelaw1_known.calls k  true _ A6.out).mono ?_); rintro e w9 ⟨rfl, hb⟩; refine ⟨_, rfl, ?_⟩; have n0_ := Aside0.mk (below_step (by repeat (first | (with_reducible first | exact HB.out | apply below_alloc | apply pw_below_drewN | apply below_drew1) | exact HB.out)) hb); clear HB; have HB := n0_; clear n0_; (try clear hb); (try clear hb2); (try clear hk); (try clear hi)))
    (try simp only [Act.put, List.setIfInBounds_toArray, List.set_cons_zero, List.set_cons_succ])
    go_cut [30] (fun v30 wc => ∃ (kq : Nat) (x30_7 : Bool), v30 = .bool x30_7 ∧ Aside0 (transhumancelaw1_TextUnquotes.j0 kq l0 a1 a2 a3 a4 x30_7 = some r) ∧ Aside0 (kq ≤ k) ∧ Aside0 (Below w.heap.size w wc))
    case first =>
      have H := HC8.out
      clear HC8
      by_cases c10 : (l0.length : Int) > 100
      · rw [if_pos c10] at H
        have c10b0 : decide (100 < (l0.length : Int)) = true := decide_eq_true c10
        have c10b1 : decide (100 < l0.length) = true := decide_eq_true (by omega)
        clear c10
        (first | rw [c10b0] | (simp only [i64_w, i32_w]; rw [c10b0]) | skip)
        have H' := Aside0.mk H
        clear H
        go_wp2
        go_meet
        case rel => exact ⟨_, (true), (by first | rfl | (simp; done) | (simp [*]; done)), H', ⟨by first | omega | exact Nat.le_refl _⟩, ⟨by repeat (first | (with_reducible first | exact HB.out | apply below_alloc | apply pw_below_drewN | apply below_drew1) | exact HB.out)⟩⟩
      · rw [if_neg c10] at H
        have c10b0 : decide (100 < (l0.length : Int)) = false := decide_eq_false c10
        have c10b1 : decide (100 < l0.length) = false := decide_eq_false (by omega)
        clear c10
        (first | rw [c10b0] | (simp only [i64_w, i32_w]; rw [c10b0]) | skip)
        have H' := Aside0.mk H
        clear H
        go_wp2
        go_meet
        case rel => exact ⟨_, (decide ((a4.size : Int) > 100)), (by first | rfl | (simp; done) | (simp [*]; done)), H', ⟨by first | omega | exact Nat.le_refl _⟩, ⟨by repeat (first | (with_reducible first | exact HB.out | apply below_alloc | apply pw_below_drewN | apply below_drew1) | exact HB.out)⟩⟩
    case rest =>
      clear HC8
      try clear c1
      try clear p2
      try clear c7
      try clear c10
      try clear c10b0
      try clear c10b1
      obtain ⟨kq, x30_7, rfl, HA, HJ7, HB⟩ := hcut
      cases kq with
      | zero => exact absurd HA.out (by simp [transhumancelaw1_TextUnquotes.j0])
      | succ kj7 =>
        have H := HA.out
        clear HA
        simp only [transhumancelaw1_TextUnquotes.j0] at H
        by_cases c11 : x30_7 = true
        · subst c11
          have H1 : (some true) = some r := by rw [if_pos rfl] at H; exact H
          clear H
          have H := H1
          clear H1
          obtain rfl := Option.some.inj H
          go_wp2
          go_ret
          exact ⟨by first | rfl | (simp [errW_none, errW_some] <;> rfl) | (simp [*, errW_none, errW_some] <;> rfl), by repeat (first | (with_reducible first | exact HB.out | apply below_alloc | apply pw_below_drewN | apply below_drew1) | exact HB.out)⟩
        · replace c11 := Bool.eq_false_iff.mpr c11
          subst c11
          have H1 : ((transhumancelaw1_Plain.f kj7 l0 100).bind fun t285 => ((transhumanceref1_Quote.f kj7 t285).bind fun t286 => ((some (bytesI t286 : List Int)).bind fun y287 => ((transhumancelaw1_within.f a1 (y287.length : Int)).bind fun t290 => (if 0 ≤ t290 then (if t290 < (y287.length : Int) then ((transhumancelaw1_within.f a3 (wrap64 ((t286.size : Int) + 1))).bind fun t293 => (if 0 ≤ t293 then (if t293 ≤ (t286.size : Int) then (if 1 + a4.size ≤ 9223372036854775807 then (if 2 + a4.size ≤ 9223372036854775807 then (transhumancelaw1_TextUnquotes.l0 kj7 (([strOfNums (y287.set (t290 : Int).toNat (((rd y287 t290) + a2) % 256)), t286.extract 0 (t293 : Int).toNat, a4, (⟨#[34]⟩ : ByteArray) ++ a4, (⟨#[34, 92]⟩ : ByteArray) ++ a4] : List ByteArray)) 0) else (none)) else (none)) else (none)) else (none))) else (none)) else (none)))))) = some r := by rw [if_neg (show ¬ (false = true) by decide)] at H; exact H
          clear H
          have H := H1
          clear H1
          replace H := Option.bind_eq_some_iff.mp H
          obtain ⟨t285, A120, H⟩ := H
          replace H : ((transhumanceref1_Quote.f kj7 t285).bind fun t286 => ((some (bytesI t286 : List Int)).bind fun y287 => ((transhumancelaw1_within.f a1 (y287.length : Int)).bind fun t290 => (if 0 ≤ t290 then (if t290 < (y287.length : Int) then ((transhumancelaw1_within.f a3 (wrap64 ((t286.size : Int) + 1))).bind fun t293 => (if 0 ≤ t293 then (if t293 ≤ (t286.size : Int) then (if 1 + a4.size ≤ 9223372036854775807 then (if 2 + a4.size ≤ 9223372036854775807 then (transhumancelaw1_TextUnquotes.l0 kj7 (([strOfNums (y287.set (t290 : Int).toNat (((rd y287 t290) + a2) % 256)), t286.extract 0 (t293 : Int).toNat, a4, (⟨#[34]⟩ : ByteArray) ++ a4, (⟨#[34, 92]⟩ : ByteArray) ++ a4] : List ByteArray)) 0) else (none)) else (none)) else (none)) else (none))) else (none)) else (none))))) = some r := H
          have A12 := Aside0.mk A120
          clear A120
          replace H := Option.bind_eq_some_iff.mp H
          obtain ⟨t286, A130, H⟩ := H
          replace H : ((some (bytesI t286 : List Int)).bind fun y287 => ((transhumancelaw1_within.f a1 (y287.length : Int)).bind fun t290 => (if 0 ≤ t290 then (if t290 < (y287.length : Int) then ((transhumancelaw1_within.f a3 (wrap64 ((t286.size : Int) + 1))).bind fun t293 => (if 0 ≤ t293 then (if t293 ≤ (t286.size : Int) then (if 1 + a4.size ≤ 9223372036854775807 then (if 2 + a4.size ≤ 9223372036854775807 then (transhumancelaw1_TextUnquotes.l0 kj7 (([strOfNums (y287.set (t290 : Int).toNat (((rd y287 t290) + a2) % 256)), t286.extract 0 (t293 : Int).toNat, a4, (⟨#[34]⟩ : ByteArray) ++ a4, (⟨#[34, 92]⟩ : ByteArray) ++ a4] : List ByteArray)) 0) else (none)) else (none)) else (none)) else (none))) else (none)) else (none)))) = some r := H
          have A13 := Aside0.mk A130
          clear A130
          obtain ⟨y287, hy287⟩ : ∃ y_ : List Int, y_ = (bytesI t286) := ⟨_, rfl⟩
          replace H : ((transhumancelaw1_within.f a1 (y287.length : Int)).bind fun t290 => (if 0 ≤ t290 then (if t290 < (y287.length : Int) then ((transhumancelaw1_within.f a3 (wrap64 ((t286.size : Int) + 1))).bind fun t293 => (if 0 ≤ t293 then (if t293 ≤ (t286.size : Int) then (if 1 + a4.size ≤ 9223372036854775807 then (if 2 + a4.size ≤ 9223372036854775807 then (transhumancelaw1_TextUnquotes.l0 kj7 (([strOfNums (y287.set (t290 : Int).toNat (((rd y287 t290) + a2) % 256)), t286.extract 0 (t293 : Int).toNat, a4, (⟨#[34]⟩ : ByteArray) ++ a4, (⟨#[34, 92]⟩ : ByteArray) ++ a4] : List ByteArray)) 0) else (none)) else (none)) else (none)) else (none))) else (none)) else (none))) = some r := by first | (rw [hy287]; with_reducible exact H) | (have H2_ := (Option.bind_some _ _).symm.trans H; rw [hy287]; with_reducible exact H2_) | (have H2_ := (Option.bind_some _ _).symm.trans H; with_reducible exact H2_) | with_reducible exact H | (rw [hy287]; exact H) | exact H
          have Ny287 := Aside0.mk hy287
          clear hy287
          replace H := Option.bind_eq_some_iff.mp H
          obtain ⟨t290, A140, H⟩ := H
          replace H : (if 0 ≤ t290 then (if t290 < (y287.length : Int) then ((transhumancelaw1_within.f a3 (wrap64 ((t286.size : Int) + 1))).bind fun t293 => (if 0 ≤ t293 then (if t293 ≤ (t286.size : Int) then (if 1 + a4.size ≤ 9223372036854775807 then (if 2 + a4.size ≤ 9223372036854775807 then (transhumancelaw1_TextUnquotes.l0 kj7 (([strOfNums (y287.set (t290 : Int).toNat (((rd y287 t290) + a2) % 256)), t286.extract 0 (t293 : Int).toNat, a4, (⟨#[34]⟩ : ByteArray) ++ a4, (⟨#[34, 92]⟩ : ByteArray) ++ a4] : List ByteArray)) 0) else (none)) else (none)) else (none)) else (none))) else (none)) else (none)) = some r := H
          have A14 := Aside0.mk A140
          clear A140
          by_cases c15 : 0 ≤ t290
          · rw [if_pos c15] at H
            have c15b0 : decide (0 ≤ t290) = true := decide_eq_true c15
            clear c15
            by_cases c16 : t290 < (y287.length : Int)
            · rw [if_pos c16] at H
              have c16b0 : decide (t290 < (y287.length : Int)) = true := decide_eq_true c16
              clear c16
              obtain ⟨y292, hy292⟩ : ∃ y_ : List Int, y_ = (y287.set (t290 : Int).toNat (((rd y287 t290) + a2) % 256)) := ⟨_, rfl⟩
              replace H : ((transhumancelaw1_within.f a3 (wrap64 ((t286.size : Int) + 1))).bind fun t293 => (if 0 ≤ t293 then (if t293 ≤ (t286.size : Int) then (if 1 + a4.size ≤ 9223372036854775807 then (if 2 + a4.size ≤ 9223372036854775807 then (transhumancelaw1_TextUnquotes.l0 kj7 (([strOfNums y292, t286.extract 0 (t293 : Int).toNat, a4, (⟨#[34]⟩ : ByteArray) ++ a4, (⟨#[34, 92]⟩ : ByteArray) ++ a4] : List ByteArray)) 0) else (none)) else (none)) else (none)) else (none))) = some r := by first | (rw [hy292]; with_reducible exact H) | (have H2_ := (Option.bind_some _ _).symm.trans H; rw [hy292]; with_reducible exact H2_) | (have H2_ := (Option.bind_some _ _).symm.trans H; with_reducible exact H2_) | with_reducible exact H | (rw [hy292]; exact H) | exact H
              have Ny292 := Aside0.mk hy292
              clear hy292
              replace H := Option.bind_eq_some_iff.mp H
              obtain ⟨t293, A180, H⟩ := H
              replace H : (if 0 ≤ t293 then (if t293 ≤ (t286.size : Int) then (if 1 + a4.size ≤ 9223372036854775807 then (if 2 + a4.size ≤ 9223372036854775807 then (transhumancelaw1_TextUnquotes.l0 kj7 (([strOfNums y292, t286.extract 0 (t293 : Int).toNat, a4, (⟨#[34]⟩ : ByteArray) ++ a4, (⟨#[34, 92]⟩ : ByteArray) ++ a4] : List ByteArray)) 0) else (none)) else (none)) else (none)) else (none)) = some r := H
              have A18 := Aside0.mk A180
              clear A180
              by_cases c19 : 0 ≤ t293
              · rw [if_pos c19] at H
                have c19b0 := eq_true c19
                have c19b1 : decide (0 ≤ t293) = true := decide_eq_true c19
                clear c19
                by_cases c20 : t293 ≤ (t286.size : Int)
                · rw [if_pos c20] at H
                  have c20b0 := eq_true c20
                  have c20b1 : decide (t293 ≤ (t286.size : Int)) = true := decide_eq_true c20
                  clear c20
                  by_cases c21 : 1 + a4.size ≤ 9223372036854775807
                  · rw [if_pos c21] at H
                    have c21b0 := eq_true c21
                    have c21b1 : decide (1 + a4.size ≤ 9223372036854775807) = true := decide_eq_true c21
                    try have c21b2 : (9223372036854775807 < 1 + a4.size) = False := eq_false (Nat.not_lt.2 c21)
                    by_cases c22 : 2 + a4.size ≤ 9223372036854775807
                    · rw [if_pos c22] at H
                      have c22b0 := eq_true c22
                      have c22b1 : decide (2 + a4.size ≤ 9223372036854775807) = true := decide_eq_true c22
                      try have c22b2 : (9223372036854775807 < 2 + a4.size) = False := eq_false (Nat.not_lt.2 c22)
                      obtain ⟨y294, hy294⟩ : ∃ y_ : List ByteArray, y_ = (([strOfNums y292, t286.extract 0 (t293 : Int).toNat, a4, (⟨#[34]⟩ : ByteArray) ++ a4, (⟨#[34, 92]⟩ : ByteArray) ++ a4] : List ByteArray)) := ⟨_, rfl⟩
                      replace H : (transhumancelaw1_TextUnquotes.l0 kj7 y294 0) = some r := by first | (rw [hy294]; with_reducible exact H) | (have H2_ := (Option.bind_some _ _).symm.trans H; rw [hy294]; with_reducible exact H2_) | (have H2_ := (Option.bind_some _ _).symm.trans H; with_reducible exact H2_) | with_reducible exact H | (rw [hy294]; exact H) | exact H
                      have Ny294 := Aside0.mk hy294
                      clear hy294
                      have H' := Aside0.mk H
                      clear H
                      try go_wp2_with (first | ((with_reducible refine gate_callee (f := 14) rfl ?_); refine goesL_ (some 32) rfl rfl Tryd.func14 (by kernel_rfl) rfl #[.slice A0 l0.length c0, .int .i64 100] rfl (by (try simp only [List.map_toArray, List.map_cons, List.map_nil]); first | done | rfl | (simp only [List.length_drop, List.length_take]; rfl)) ?_; (with_reducible refine (transhumancelaw1_Plain.calls kj7 _ _ l0 100 t285 _ ?side1 ?side2 A12.out).mono ?_); (case side1 => repeat (first | exact (Kd.C_below HR0.out HB.out) | (with_reducible refine Kd.C_alloc ?_ _) | (with_reducible refine Kd.C_drewN ?_ _) | (with_reducible refine Kd.C_drew ?_))); (case side2 => exact HC0.out); rintro e w23 ⟨rfl, hb⟩; refine ⟨_, rfl, ?_⟩; have n0_ := Aside0.mk (below_step (by repeat (first | (with_reducible first | exact HB.out | apply below_alloc | apply pw_below_drewN | apply below_drew1) | exact HB.out)) hb); clear HB; have HB := n0_; clear n0_; (try clear hb); (try clear hb2); (try clear hk); (try clear hi)) | ((with_reducible refine gate_callee (f := 35) rfl ?_); refine goesL_ (some 33) rfl rfl Tryd.func35 (by kernel_rfl) rfl #[.string t285] rfl (by (try simp only [List.map_toArray, List.map_cons, List.map_nil]); first | done | rfl | (simp only [List.length_drop, List.length_take]; rfl)) ?_; (with_reducible refine (transhumanceref1_Quote.calls kj7 t285 t286 _ A13.out).mono ?_); rintro e w' ⟨rfl, ⟨nd, rfl⟩⟩; refine ⟨_, rfl, ?_⟩; (try (rw [drewN_self w23]; generalize hq_ : World.drewN w23 _ = w23; have n0_ : Aside0 (Below w.heap.size w w23) := ⟨by rw [← hq_]; exact (by repeat (first | (with_reducible first | exact HB.out | apply below_alloc | apply pw_below_drewN | apply below_drew1) | exact HB.out))⟩; clear HB hq_; have HB := n0_; clear n0_))) | ((with_reducible refine gate_dst (N := 35) rfl ?_); (try (refine gate_guard (by rfl) ?_; dsimp only)); refine Kb.R_bytes _ 9 22 5 rfl (N := 35) rfl _ rfl t286 (by rfl) Tryd.underlying9 Tryd.underlying22 Tryd.underlying5 (Below.refl _ _) (Nat.le_refl _) ?_; intro v288 w24 ho25 hb hg_ hnew_; clear hg_ hnew_; (first | rw [← Ny287.out] at ho25 | (simp only [Int.reduceToNat] at ho25; rw [← Ny287.out] at ho25)); have n0_ := Aside0.mk (Kb.R_lower ho25 (below_size (by repeat (first | (with_reducible first | exact HB.out | apply below_alloc | apply pw_below_drewN | apply below_drew1) | exact HB.out)))); have n1_ := Aside0.mk (below_step (by repeat (first | (with_reducible first | exact HB.out | apply below_alloc | apply pw_below_drewN | apply below_drew1) | exact HB.out)) hb); clear HB; have HO289 := n0_; have HB := n1_; clear n0_ n1_; clear hb ho25; obtain ⟨Ao26, co26, eo26⟩ := Kb.R_slice HO289.out; subst eo26) | ((with_reducible refine gate_callee (f := 15) rfl ?_); refine goesL_ (some 40) rfl rfl Tryd.func15 (by kernel_rfl) rfl #[.int .i64 a1, .int .i64 (y287.length : Int)] rfl (by (try simp only [List.map_toArray, List.map_cons, List.map_nil]); first | done | rfl | (simp only [List.length_drop, List.length_take]; rfl)) ?_; (with_reducible refine (transhumancelaw1_within.calls a1 (y287.length : Int) t290 _ A14.out).mono ?_); rintro e w' ⟨rfl, ⟨nd, rfl⟩⟩; refine ⟨_, rfl, ?_⟩; (try (rw [drewN_self w24]; generalize hq_ : World.drewN w24 _ = w24; have n0_ : Aside0 (Kb.R 5 w24 w.heap.size (fun _ => True) (.slice Ao26 y287.length co26) y287) := ⟨by rw [← hq_]; exact (by (with_reducible repeat (first | apply Kb.R_alloc | apply Kb.R_drewN | apply Kb.R_drew)); exact HO289.out)⟩; have n1_ : Aside0 (Below w.heap.size w w24) := ⟨by rw [← hq_]; exact (by repeat (first | (with_reducible first | exact HB.out | apply below_alloc | apply pw_below_drewN | apply below_drew1) | exact HB.out))⟩; clear HO289 HB hq_; have HO289 := n0_; have HB := n1_; clear n0_ n1_)); have p291 : 0 ≤ (t290 : Int) := of_decide_eq_true (by first | (with_reducible assumption) | assumption); have q291 : t290 < (y287.length : Int) := of_decide_eq_true (by first | (with_reducible assumption) | assumption); obtain ⟨ad291, e291, hx291_0⟩ := Kb.at_int HO289.out t290 p291 q291; cases e291; replace p291 := eq_true p291; replace q291 := eq_true q291; have p17 : 0 ≤ (t290 : Int) := of_decide_eq_true (by first | (with_reducible assumption) | assumption); have q17 : (t290 : Int) < ((y287.length : Int) : Int) := of_decide_eq_true (by first | (with_reducible assumption) | assumption); obtain ⟨go17, co17, eo17, gb17, gl17, cl17, HG17⟩ := Kb.R_form HO289.out (by omega); (first | cases eo17 | (injection eo17 with ea_ en_ ec_; (first | subst ea_ | (injection ea_ with ea_; subst ea_)); subst ec_; clear en_)); have GB17 := Aside0.mk gb17; have GG17 := Aside0.mk HG17; clear gb17 gl17 HG17; (first | simp only [add_plain] at hx291_0 | skip); obtain ⟨hx17_0, hf17_0⟩ := Kb.R_celln 0 HO289.out (t290 : Int) p17 q17; replace p17 := eq_true p17; replace q17 := eq_true q17; obtain ⟨hy27_, hz27_⟩ := Kb.R_celln 0 HO289.out (t290 : Int) (of_decide_eq_true (by first | (with_reducible assumption) | assumption)) (of_decide_eq_true (by first | (with_reducible assumption) | assumption)); have HP27 := Kb.R_putg HO289.out (t290 : Int) (((rd y287 t290) + a2) % 256)) | ((with_reducible refine gate_store (t := 5) (p := 45) rfl ?_); refine store_event (t := 5) (p := 45) (v := ?vo_w28) (w1 := (w24.setCell ⟨go17, (t290 : Int).toNat, none⟩ (.int .u8 (((rd y287 t290) + a2) % 256)))) ?hg ?ho ?hn ?hr ?_; (case ho => rfl); (case hg => rfl); (case hn => rfl); (case hr => first | (go_simp; done) | (go_simp; rfl)); intro w28 hw; have hg : w24.grownBy w28 (some go17) := (by rw [hw]; exact HP27.2); have hp_ : Kb.R 5 w28 w.heap.size (fun _ => True) (.slice (some ⟨go17, 0, none⟩) y287.length co26) y292 := (by rw [hw, Ny292.out]; exact HP27.1); clear HP27; have n0_ := Aside0.mk (hp_); have n1_ := Aside0.mk ((by rw [hw]; exact below_set (HB.out) GB17.out : Below w.heap.size w w28)); clear HO289; clear HB; have HO289 := n0_; have HB := n1_; clear n0_ n1_; clear hg hw hp_))
                      have n0_ := Aside0.mk (Kb.R_drew HO289.out)
                      have n1_ := Aside0.mk (below_drew1 HB.out)
                      clear HO289
                      clear HB
                      have HO289 := n0_
                      have HB := n1_
                      clear n0_ n1_
                      have hcv30 := Kb.string_of (P := Tryd.prog) Tryd.underlying22 Tryd.underlying5 Tryd.underlying9 HO289.out
                      refine start_ (n := 16) (S := fun w' => Kb.R 5 w' w.heap.size (fun _ => True) (.slice (some ⟨go17, 0, none⟩) y287.length co26) y292) (ds := []) #[false, false, false, false, false, false, false, false, false, false, false, false, false, false, false, false] (by kernel_rfl) rfl rfl HO289.out (fun hHeld => ?_); refine with_tabW transhumancelaw1_TextUnquotes.tab8 transhumancelaw1_TextUnquotes.bits8 (fun HT_ HW_ => ?_)
                      generalize w28.drew = w29 at HO289 HB hHeld ⊢
                      refine pure_ (i := 0) (N := some 46) (v := ?_) (a' := ?_) #[true, false, false, false, false, false, false, false, false, false, false, false, false, false, false, false] rfl rfl (any_of HT_.out (by kernel_rfl)) (fun _ _ _ h => h) (Or.inl ⟨by rfl, ?_⟩) ?_ ?_
                      rotate_left
                      · intro w'
                        go_simp
                        with_reducible rfl
                      rotate_left
                      · simp only [Act.put, List.setIfInBounds_toArray, List.set_cons_zero, List.set_cons_succ, i64_w, i32_w]
                        rfl
                      refine take_ (i := 1) (N := some 47) (v := ?_) (a' := ?_) #[true, true, false, false, false, false, false, false, false, false, false, false, false, false, false, false] rfl rfl (take_ofW HT_.out HW_.out (by kernel_rfl)) (fun _ _ _ h => h) (Or.inl ⟨by rfl, ?_⟩) hHeld ?_ ?_
                      rotate_left
                      · intro w' hs_
                        have hcv30 := Kb.string_of (P := Tryd.prog) Tryd.underlying22 Tryd.underlying5 Tryd.underlying9 hs_
                        go_simp
                        with_reducible rfl
                      rotate_left
                      · simp only [Act.put, List.setIfInBounds_toArray, List.set_cons_zero, List.set_cons_succ, i64_w, i32_w]
                        rfl
                      refine pure_ (i := 2) (N := some 48) (v := ?_) (a' := ?_) #[true, true, true, false, false, false, false, false, false, false, false, false, false, false, false, false] rfl rfl (any_of HT_.out (by kernel_rfl)) (fun _ _ _ h => h) (Or.inl ⟨by rfl, ?_⟩) ?_ ?_
                      rotate_left
                      · intro w'
                        go_simp
                        with_reducible rfl
                      rotate_left
                      · simp only [Act.put, List.setIfInBounds_toArray, List.set_cons_zero, List.set_cons_succ, i64_w, i32_w]
                        rfl
                      refine pure_ (i := 3) (N := some 49) (v := ?_) (a' := ?_) #[true, true, true, true, false, false, false, false, false, false, false, false, false, false, false, false] rfl rfl (any_of HT_.out (by kernel_rfl)) (fun _ _ _ h => h) (Or.inl ⟨by rfl, ?_⟩) ?_ ?_
                      rotate_left
                      · intro w'
                        go_simp
                        with_reducible rfl
                      rotate_left
                      · simp only [Act.put, List.setIfInBounds_toArray, List.set_cons_zero, List.set_cons_succ, i64_w, i32_w]
                        rfl
                      refine pure_ (i := 4) (N := some 50) (v := ?_) (a' := ?_) #[true, true, true, true, true, false, false, false, false, false, false, false, false, false, false, false] rfl rfl (any_of HT_.out (by kernel_rfl)) (fun _ _ _ h => h) (Or.inl ⟨by rfl, ?_⟩) ?_ ?_
                      rotate_left
                      · intro w'
                        go_simp
                        with_reducible rfl
                      rotate_left
                      · simp only [Act.put, List.setIfInBounds_toArray, List.set_cons_zero, List.set_cons_succ, i64_w, i32_w]
                        rfl
                      refine pure_ (i := 5) (N := some 51) (v := ?_) (a' := ?_) #[true, true, true, true, true, true, false, false, false, false, false, false, false, false, false, false] rfl rfl (any_of HT_.out (by kernel_rfl)) (fun _ _ _ h => h) (Or.inl ⟨by rfl, ?_⟩) ?_ ?_
                      rotate_left
                      · intro w'
                        go_simp
                        with_reducible rfl
                      rotate_left
                      · simp only [Act.put, List.setIfInBounds_toArray, List.set_cons_zero, List.set_cons_succ, i64_w, i32_w]
                        rfl
                      refine pure_ (i := 6) (N := some 52) (v := ?_) (a' := ?_) #[true, true, true, true, true, true, true, false, false, false, false, false, false, false, false, false] rfl rfl (any_of HT_.out (by kernel_rfl)) (fun _ _ _ h => h) (Or.inl ⟨by rfl, ?_⟩) ?_ ?_
                      rotate_left
                      · intro w'
                        go_simp
                        with_reducible rfl
                      rotate_left
                      · simp only [Act.put, List.setIfInBounds_toArray, List.set_cons_zero, List.set_cons_succ, i64_w, i32_w]
                        rfl
                      refine pure_ (i := 9) (N := some 55) (v := ?_) (a' := ?_) #[true, true, true, true, true, true, true, false, false, true, false, false, false, false, false, false] rfl rfl (any_of HT_.out (by kernel_rfl)) (fun _ _ _ h => h) (Or.inl ⟨by rfl, ?_⟩) ?_ ?_
                      rotate_left
                      · intro w'
                        go_simp
                        with_reducible rfl
                      rotate_left
                      · simp only [Act.put, List.setIfInBounds_toArray, List.set_cons_zero, List.set_cons_succ, i64_w, i32_w]
                        rfl
                      refine pure_ (i := 10) (N := some 56) (v := ?_) (a' := ?_) #[true, true, true, true, true, true, true, false, false, true, true, false, false, false, false, false] rfl rfl (any_of HT_.out (by kernel_rfl)) (fun _ _ _ h => h) (Or.inl ⟨by rfl, ?_⟩) ?_ ?_
                      rotate_left
                      · intro w'
                        go_simp
                        with_reducible rfl
                      rotate_left
                      · simp only [Act.put, List.setIfInBounds_toArray, List.set_cons_zero, List.set_cons_succ, i64_w, i32_w]
                        rfl
                      refine pure_ (i := 11) (N := some 57) (v := ?_) (a' := ?_) #[true, true, true, true, true, true, true, false, false, true, true, true, false, false, false, false] rfl rfl (any_of HT_.out (by kernel_rfl)) (fun _ _ _ h => h) (Or.inl ⟨by rfl, ?_⟩) ?_ ?_
                      rotate_left
                      · intro w'
                        go_simp
                        with_reducible rfl
                      rotate_left
                      · simp only [Act.put, List.setIfInBounds_toArray, List.set_cons_zero, List.set_cons_succ, i64_w, i32_w]
                        rfl
                      refine pure_ (i := 12) (N := some 58) (v := ?_) (a' := ?_) #[true, true, true, true, true, true, true, false, false, true, true, true, true, false, false, false] rfl rfl (any_of HT_.out (by kernel_rfl)) (fun _ _ _ h => h) (Or.inl ⟨by rfl, ?_⟩) ?_ ?_
                      rotate_left
                      · intro w'
                        go_simp
                        with_reducible rfl
                      rotate_left
                      · simp only [Act.put, List.setIfInBounds_toArray, List.set_cons_zero, List.set_cons_succ, i64_w, i32_w]
                        rfl
                      refine pure_ (i := 13) (N := some 59) (v := ?_) (a' := ?_) #[true, true, true, true, true, true, true, false, false, true, true, true, true, true, false, false] rfl rfl (any_of HT_.out (by kernel_rfl)) (fun _ _ _ h => h) (Or.inl ⟨by rfl, ?_⟩) ?_ ?_
                      rotate_left
                      · intro w'
                        go_simp
                        with_reducible rfl
                      rotate_left
                      · simp only [Act.put, List.setIfInBounds_toArray, List.set_cons_zero, List.set_cons_succ, i64_w, i32_w]
                        rfl
                      refine one_ (i := 7) (N := some 53) #[true, true, true, true, true, true, true, true, false, true, true, true, true, true, false, false] rfl rfl (one_of HT_.out (by kernel_rfl)) (by decide) (fun K hK => ?_)
                      refine goes_ Tryd.func15 (by kernel_rfl) rfl #[.int .i64 a3, .int .i64 (wrap64 ((t286.size : Int) + 1))] (by rfl) rfl rfl (by (try simp only [List.map_toArray, List.map_cons, List.map_nil]); first | done | rfl | (simp only [List.length_drop, List.length_take]; rfl)) ?_
                      with_reducible refine (transhumancelaw1_within.calls a3 (wrap64 ((t286.size : Int) + 1)) t293 _ A18.out).mono ?_
                      rintro e w' ⟨rfl, ⟨nd, rfl⟩⟩
                      refine ⟨_, rfl, ?_⟩
                      refine hK.out _ _ (by first | exact HO289.out | exact Kb.R_drewN HO289.out _ | exact Kb.R_below HO289.out (by repeat (first | (with_reducible first | exact HB.out | apply below_alloc | apply pw_below_drewN | apply below_drew1) | exact HB.out))) (fun hHeld => ?_)
                      clear hK K
                      refine norm_ (a' := ?_) ?_ ?_
                      rotate_left
                      · show Act.put _ (some 53) _ = _
                        simp only [Act.put, List.setIfInBounds_toArray, List.set_cons_zero, List.set_cons_succ, i64_w, i32_w]
                        rfl
                      refine pure_ (i := 8) (N := some 54) (v := ?_) (a' := ?_) #[true, true, true, true, true, true, true, true, true, true, true, true, true, true, false, false] rfl rfl (any_of HT_.out (by kernel_rfl)) (fun _ _ _ h => h) (Or.inl ⟨by rfl, ?_⟩) ?_ ?_
                      rotate_left
                      · intro w'
                        go_simp
                        with_reducible rfl
                      rotate_left
                      · simp only [Act.put, List.setIfInBounds_toArray, List.set_cons_zero, List.set_cons_succ, i64_w, i32_w]
                        rfl
                      refine one_ (i := 14) (N := some 60) #[true, true, true, true, true, true, true, true, true, true, true, true, true, true, true, false] rfl rfl (one_of HT_.out (by kernel_rfl)) (by decide) (fun K hK => ?_)
                      refine Kd.R_lit_step Kd.string _ 9 ?hg (N := 60) ?hd (xs := ([strOfNums y292, t286.extract 0 (t293 : Int).toNat, a4, (⟨#[34]⟩ : ByteArray) ++ a4, (⟨#[34, 92]⟩ : ByteArray) ++ a4] : List ByteArray)) (inner := [.string (strOfNums y292), .string (t286.extract 0 (t293 : Int).toNat), .string a4, .string ((⟨#[34]⟩ : ByteArray) ++ a4), .string ((⟨#[34, 92]⟩ : ByteArray) ++ a4)]) (ok := fun _ => True) (okp := fun _ => True) ?hr ?hp (fun _ hk => hk) trivial (Below.refl _ _) (Nat.le_refl _) (by simp) ?_; (case hd => rfl); (case hg => rfl); (case hr => first | (go_simp; done) | (go_simp; rfl)); (case hp => exact (Reps.one (show Kd.M Kd.string _ _ _ (strOfNums y292) [.string (strOfNums y292)] from rfl) (Reps.one (show Kd.M Kd.string _ _ _ (t286.extract 0 (t293 : Int).toNat) [.string (t286.extract 0 (t293 : Int).toNat)] from rfl) (Reps.one (show Kd.M Kd.string _ _ _ a4 [.string a4] from rfl) (Reps.one (show Kd.M Kd.string _ _ _ ((⟨#[34]⟩ : ByteArray) ++ a4) [.string ((⟨#[34]⟩ : ByteArray) ++ a4)] from rfl) (Reps.one (show Kd.M Kd.string _ _ _ ((⟨#[34, 92]⟩ : ByteArray) ++ a4) [.string ((⟨#[34, 92]⟩ : ByteArray) ++ a4)] from rfl) (Reps.none _ _)))))))
                      intro v295 w32 ho33 hb hg_ hnew_
                      clear hg_ hnew_
                      (first | rw [← Ny294.out] at ho33 | (simp only [Int.reduceToNat] at ho33; rw [← Ny294.out] at ho33))
                      have n0_ := Aside0.mk (Kb.R_below (by (with_reducible repeat (first | apply Kb.R_alloc | apply Kb.R_drewN | apply Kb.R_drew)); exact HO289.out) hb)
                      have n1_ := Aside0.mk (Kd.R_lower ho33 (below_size (by repeat (first | (with_reducible first | exact HB.out | apply below_alloc | apply pw_below_drewN | apply below_drew1) | exact HB.out))))
                      have n2_ := Aside0.mk (below_step (by repeat (first | (with_reducible first | exact HB.out | apply below_alloc | apply pw_below_drewN | apply below_drew1) | exact HB.out)) hb)
                      clear HO289
                      clear HB
                      have HO289 := n0_
                      have HO296 := n1_
                      have HB := n2_
                      clear n0_ n1_ n2_
                      clear hb ho33
                      refine hK.out _ _ (by first | exact HO289.out | exact Kb.R_drewN HO289.out _ | exact Kb.R_below HO289.out (by repeat (first | (with_reducible first | exact HB.out | apply below_alloc | apply pw_below_drewN | apply below_drew1) | exact HB.out))) (fun hHeld => ?_)
                      clear hK K
                      refine norm_ (a' := ?_) ?_ ?_
                      rotate_left
                      · show Act.put _ (some 60) _ = _
                        simp only [Act.put, List.setIfInBounds_toArray, List.set_cons_zero, List.set_cons_succ, i64_w, i32_w]
                        rfl
                      refine pure_ (i := 15) (N := some 13) (v := ?_) (a' := ?_) #[true, true, true, true, true, true, true, true, true, true, true, true, true, true, true, true] rfl rfl (any_of HT_.out (by kernel_rfl)) (fun _ _ _ h => h) (Or.inl ⟨by rfl, ?_⟩) ?_ ?_
                      rotate_left
                      · intro w'
                        go_simp
                        with_reducible rfl
                      rotate_left
                      · simp only [Act.put, List.setIfInBounds_toArray, List.set_cons_zero, List.set_cons_succ, i64_w, i32_w]
                        rfl
                      refine done_ (done_of HT_.out (by kernel_rfl)) ?_
                      try go_wp2
                      go_loopg [14] kj7 (fun kq v14 w' => ∃ (x14_2 : Int), v14 = .int .i64 x14_2 ∧ Aside0 (transhumancelaw1_TextUnquotes.l0 kq y294 x14_2 = some r) ∧ Aside0 (kq ≤ kj7) ∧ Aside0 (Kd.R Kd.string 9 w' w.heap.size (fun _ => True) v295 y294) ∧ Aside0 (Below w.heap.size w w'))
                      case atStart => exact ⟨(0), (by first | rfl | (simp; done) | (simp [*]; done)), H', ⟨Nat.le_refl _⟩, ⟨by (with_reducible repeat (first | apply Kd.R_alloc | apply Kd.R_drewN | apply Kd.R_drew)); exact HO296.out⟩, ⟨by repeat (first | (with_reducible first | exact HB.out | apply below_alloc | apply pw_below_drewN | apply below_drew1) | exact HB.out)⟩⟩
                      case round =>
                        clear H'
                        try clear c1
                        try clear p1
                        try clear q1
                        try clear hx1
                        try clear c2
                        try clear p2
                        try clear q2
                        try clear hx2
                        try clear c3
                        try clear hcv3
                        try clear p6
                        try clear c7
                        try clear c10
                        try clear c10b0
                        try clear c10b1
                        try clear c11
                        try clear c13
                        try clear c14
                        try clear c15
                        try clear c15b0
                        try clear c16
                        try clear c16b0
                        try clear p17
                        try clear q17
                        try clear hx17
                        try clear hf17
                        try clear c19
                        try clear c19b0
                        try clear c19b1
                        try clear c20
                        try clear c20b0
                        try clear c20b1
                        try clear c21
                        try clear c21b0
                        try clear c21b1
                        try clear c21b2
                        try clear c22
                        try clear c22b0
                        try clear c22b1
                        try clear c22b2
                        try clear p29
                        try clear q29
                        try clear hx29
                        try clear hcv30
                        try clear hx17_0
                        try clear hx291_0
                        try clear p17
                        try clear p2
                        try clear p291
                        try clear q17
                        try clear q291
                        obtain ⟨x14_2, rfl, HA, HK2, HO_13, HB⟩ := hrel
                        cases gk with
                        | zero => exact absurd HA.out (by simp [transhumancelaw1_TextUnquotes.l0])
                        | succ k2 =>
                          have H := HA.out
                          clear HA
                          simp only [transhumancelaw1_TextUnquotes.l0] at H
                          by_cases c34 : x14_2 < (y294.length : Int)
                          · rw [if_pos c34] at H
                            have c34b0 : decide (x14_2 < (y294.length : Int)) = true := decide_eq_true c34
                            clear c34
                            by_cases c35 : 0 ≤ x14_2
                            · rw [if_pos c35] at H
                              have c35b0 : decide (0 ≤ x14_2) = true := decide_eq_true c35
                              clear c35
                              replace H := Option.bind_eq_some_iff.mp H
                              obtain ⟨⟨t298, t299, t300⟩, A360, H⟩ := H
                              replace H : ((transhumanceref1_Unquote.f k2 (rdOf ByteArray.empty y294 x14_2)).bind fun bt302 => (if t298.toList = bt302.1.toList then (if t299 = bt302.2.1 then (if (t300 != bt302.2.2) = true then (some false) else (transhumancelaw1_TextUnquotes.l0 k2 y294 (wrap64 (x14_2 + 1)))) else (some false)) else (some false))) = some r := H
                              have A36 := Aside0.mk A360
                              clear A360
                              replace H := Option.bind_eq_some_iff.mp H
                              obtain ⟨⟨t302, t303, t304⟩, A370, H⟩ := H
                              replace H : (if t298.toList = t302.toList then (if t299 = t303 then (if (t300 != t304) = true then (some false) else (transhumancelaw1_TextUnquotes.l0 k2 y294 (wrap64 (x14_2 + 1)))) else (some false)) else (some false)) = some r := H
                              have A37 := Aside0.mk A370
                              clear A370
                              by_cases c38 : t298.toList = t302.toList
                              · rw [if_pos c38] at H
                                have c38b0 : (t298.toList == t302.toList) = true := beq_iff_eq.mpr c38
                                have c38b1 : (t298.toList != t302.toList) = false := bne_eq_false_iff_eq.mpr c38
                                clear c38
                                by_cases c39 : t299 = t303
                                · rw [if_pos c39] at H
                                  have c39b0 : (t299 == t303) = true := beq_iff_eq.mpr c39
                                  have c39b1 : (t299 != t303) = false := bne_eq_false_iff_eq.mpr c39
                                  clear c39
                                  by_cases c40 : (t300 != t304) = true
                                  · rw [if_pos c40] at H
                                    have c40b0 : (t300 != t304) = true := c40
                                    (try (have c40b1 : decide (t300 = t304) = false := by simpa using c40))
                                    (try (have c40b2 : (t300 == t304) = false := by simpa using c40))
                                    (try (have c40b3 : ¬ (t300 = t304) := by simpa using c40))
                                    clear c40
                                    obtain rfl := Option.some.inj H
                                    obtain ⟨Ao41, co41, eo41⟩ := Kd.R_slice HO_13.out
                                    subst eo41
                                    have p297 : 0 ≤ (x14_2 : Int) := of_decide_eq_true (by first | (with_reducible assumption) | assumption)
                                    have q297 : x14_2 < (y294.length : Int) := of_decide_eq_true (by first | (with_reducible assumption) | assumption)
                                    obtain ⟨ad297, e297, hx297_0⟩ := Kd.at_string (Kd.R_reads' HO_13.out).2.2 x14_2 p297 q297
                                    cases e297
                                    replace p297 := eq_true p297
                                    replace q297 := eq_true q297
                                    go_wp2_with (first | ((with_reducible refine gate_callee (f := 34) rfl ?_); refine goesL_ (some 72) rfl rfl Tryd.func34 (by kernel_rfl) rfl #[.string (rdOf ByteArray.empty y294 x14_2)] rfl (by (try simp only [List.map_toArray, List.map_cons, List.map_nil]); first | done | rfl | (simp only [List.length_drop, List.length_take]; rfl)) ?_; (with_reducible refine (text_Unquote.calls k2 (rdOf ByteArray.empty y294 x14_2) t298 t299 t300 _ A36.out).mono ?_); rintro e w42 ⟨rfl, hb⟩; refine ⟨_, rfl, ?_⟩; have n0_ := Aside0.mk (Kd.R_below (by (with_reducible repeat (first | apply Kd.R_alloc | apply Kd.R_drewN | apply Kd.R_drew)); exact HO_13.out) hb); have n1_ := Aside0.mk (below_step (by repeat (first | (with_reducible first | exact HB.out | apply below_alloc | apply pw_below_drewN | apply below_drew1) | exact HB.out)) hb); clear HO_13; clear HB; have HO_13 := n0_; have HB := n1_; clear n0_ n1_; (try clear hb); (try clear hb2); (try clear hk); (try clear hi); have p301 : 0 ≤ (x14_2 : Int) := of_decide_eq_true (by first | (with_reducible assumption) | assumption); have q301 : x14_2 < (y294.length : Int) := of_decide_eq_true (by first | (with_reducible assumption) | assumption); obtain ⟨ad301, e301, hx301_0⟩ := Kd.at_string (Kd.R_reads' HO_13.out).2.2 x14_2 p301 q301; obtain rfl : ad297 = ad301 := (by injection e301); replace p301 := eq_true p301; replace q301 := eq_true q301) | ((with_reducible refine gate_callee (f := 38) rfl ?_); refine goesL_ (some 81) rfl rfl Tryd.func38 (by kernel_rfl) rfl #[.string (rdOf ByteArray.empty y294 x14_2)] rfl (by (try simp only [List.map_toArray, List.map_cons, List.map_nil]); first | done | rfl | (simp only [List.length_drop, List.length_take]; rfl)) ?_; (with_reducible refine (transhumanceref1_Unquote.calls k2 (rdOf ByteArray.empty y294 x14_2) t302 t303 t304 _ A37.out).mono ?_); rintro e w' ⟨rfl, ⟨nd, rfl⟩⟩; refine ⟨_, rfl, ?_⟩))
                                    go_ret
                                    exact ⟨by first | rfl | (simp [errW_none, errW_some] <;> rfl) | (simp [*, errW_none, errW_some] <;> rfl), by repeat (first | (with_reducible first | exact HB.out | apply below_alloc | apply pw_below_drewN | apply below_drew1) | exact HB.out)⟩
                                  · rw [if_neg c40] at H
                                    have c40b0 : (t300 != t304) = false := by simpa using c40
                                    (try (have c40b1 : decide (t300 = t304) = true := by simpa using c40))
                                    (try (have c40b2 : (t300 == t304) = true := by simpa using c40))
                                    clear c40
                                    have H' := Aside0.mk H
                                    clear H
                                    obtain ⟨Ao43, co43, eo43⟩ := Kd.R_slice HO_13.out
                                    subst eo43
                                    have p297 : 0 ≤ (x14_2 : Int) := of_decide_eq_true (by first | (with_reducible assumption) | assumption)
                                    have q297 : x14_2 < (y294.length : Int) := of_decide_eq_true (by first | (with_reducible assumption) | assumption)
                                    obtain ⟨ad297, e297, hx297_0⟩ := Kd.at_string (Kd.R_reads' HO_13.out).2.2 x14_2 p297 q297
                                    cases e297
                                    replace p297 := eq_true p297
                                    replace q297 := eq_true q297
                                    go_wp2_with (first | ((with_reducible refine gate_callee (f := 34) rfl ?_); refine goesL_ (some 72) rfl rfl Tryd.func34 (by kernel_rfl) rfl #[.string (rdOf ByteArray.empty y294 x14_2)] rfl (by (try simp only [List.map_toArray, List.map_cons, List.map_nil]); first | done | rfl | (simp only [List.length_drop, List.length_take]; rfl)) ?_; (with_reducible refine (text_Unquote.calls k2 (rdOf ByteArray.empty y294 x14_2) t298 t299 t300 _ A36.out).mono ?_); rintro e w44 ⟨rfl, hb⟩; refine ⟨_, rfl, ?_⟩; have n0_ := Aside0.mk (Kd.R_below (by (with_reducible repeat (first | apply Kd.R_alloc | apply Kd.R_drewN | apply Kd.R_drew)); exact HO_13.out) hb); have n1_ := Aside0.mk (below_step (by repeat (first | (with_reducible first | exact HB.out | apply below_alloc | apply pw_below_drewN | apply below_drew1) | exact HB.out)) hb); clear HO_13; clear HB; have HO_13 := n0_; have HB := n1_; clear n0_ n1_; (try clear hb); (try clear hb2); (try clear hk); (try clear hi); have p301 : 0 ≤ (x14_2 : Int) := of_decide_eq_true (by first | (with_reducible assumption) | assumption); have q301 : x14_2 < (y294.length : Int) := of_decide_eq_true (by first | (with_reducible assumption) | assumption); obtain ⟨ad301, e301, hx301_0⟩ := Kd.at_string (Kd.R_reads' HO_13.out).2.2 x14_2 p301 q301; obtain rfl : ad297 = ad301 := (by injection e301); replace p301 := eq_true p301; replace q301 := eq_true q301) | ((with_reducible refine gate_callee (f := 38) rfl ?_); refine goesL_ (some 81) rfl rfl Tryd.func38 (by kernel_rfl) rfl #[.string (rdOf ByteArray.empty y294 x14_2)] rfl (by (try simp only [List.map_toArray, List.map_cons, List.map_nil]); first | done | rfl | (simp only [List.length_drop, List.length_take]; rfl)) ?_; (with_reducible refine (transhumanceref1_Unquote.calls k2 (rdOf ByteArray.empty y294 x14_2) t302 t303 t304 _ A37.out).mono ?_); rintro e w' ⟨rfl, ⟨nd, rfl⟩⟩; refine ⟨_, rfl, ?_⟩))
                                    go_roundg k2
                                    case measure => have := HJ7.out; have := HK2.out; omega
                                    case rel => exact ⟨(wrap64 (x14_2 + 1)), (by first | rfl | (simp; done) | (simp [*]; done)), H', ⟨by have := HJ7.out; have := HK2.out; omega⟩, ⟨by (with_reducible repeat (first | apply Kd.R_alloc | apply Kd.R_drewN | apply Kd.R_drew)); exact HO_13.out⟩, ⟨by repeat (first | (with_reducible first | exact HB.out | apply below_alloc | apply pw_below_drewN | apply below_drew1) | exact HB.out)⟩⟩
                                · rw [if_neg c39] at H
                                  have c39b0 : (t299 == t303) = false := beq_eq_false_iff_ne.mpr c39
                                  have c39b1 : (t299 != t303) = true := bne_iff_ne.mpr c39
                                  obtain rfl := Option.some.inj H
                                  obtain ⟨Ao45, co45, eo45⟩ := Kd.R_slice HO_13.out
                                  subst eo45
                                  have p297 : 0 ≤ (x14_2 : Int) := of_decide_eq_true (by first | (with_reducible assumption) | assumption)
                                  have q297 : x14_2 < (y294.length : Int) := of_decide_eq_true (by first | (with_reducible assumption) | assumption)
                                  obtain ⟨ad297, e297, hx297_0⟩ := Kd.at_string (Kd.R_reads' HO_13.out).2.2 x14_2 p297 q297
                                  cases e297
                                  replace p297 := eq_true p297
                                  replace q297 := eq_true q297
                                  go_wp2_with (first | ((with_reducible refine gate_callee (f := 34) rfl ?_); refine goesL_ (some 72) rfl rfl Tryd.func34 (by kernel_rfl) rfl #[.string (rdOf ByteArray.empty y294 x14_2)] rfl (by (try simp only [List.map_toArray, List.map_cons, List.map_nil]); first | done | rfl | (simp only [List.length_drop, List.length_take]; rfl)) ?_; (with_reducible refine (text_Unquote.calls k2 (rdOf ByteArray.empty y294 x14_2) t298 t299 t300 _ A36.out).mono ?_); rintro e w46 ⟨rfl, hb⟩; refine ⟨_, rfl, ?_⟩; have n0_ := Aside0.mk (Kd.R_below (by (with_reducible repeat (first | apply Kd.R_alloc | apply Kd.R_drewN | apply Kd.R_drew)); exact HO_13.out) hb); have n1_ := Aside0.mk (below_step (by repeat (first | (with_reducible first | exact HB.out | apply below_alloc | apply pw_below_drewN | apply below_drew1) | exact HB.out)) hb); clear HO_13; clear HB; have HO_13 := n0_; have HB := n1_; clear n0_ n1_; (try clear hb); (try clear hb2); (try clear hk); (try clear hi); have p301 : 0 ≤ (x14_2 : Int) := of_decide_eq_true (by first | (with_reducible assumption) | assumption); have q301 : x14_2 < (y294.length : Int) := of_decide_eq_true (by first | (with_reducible assumption) | assumption); obtain ⟨ad301, e301, hx301_0⟩ := Kd.at_string (Kd.R_reads' HO_13.out).2.2 x14_2 p301 q301; obtain rfl : ad297 = ad301 := (by injection e301); replace p301 := eq_true p301; replace q301 := eq_true q301) | ((with_reducible refine gate_callee (f := 38) rfl ?_); refine goesL_ (some 81) rfl rfl Tryd.func38 (by kernel_rfl) rfl #[.string (rdOf ByteArray.empty y294 x14_2)] rfl (by (try simp only [List.map_toArray, List.map_cons, List.map_nil]); first | done | rfl | (simp only [List.length_drop, List.length_take]; rfl)) ?_; (with_reducible refine (transhumanceref1_Unquote.calls k2 (rdOf ByteArray.empty y294 x14_2) t302 t303 t304 _ A37.out).mono ?_); rintro e w' ⟨rfl, ⟨nd, rfl⟩⟩; refine ⟨_, rfl, ?_⟩))
                                  go_ret
                                  exact ⟨by first | rfl | (simp [errW_none, errW_some] <;> rfl) | (simp [*, errW_none, errW_some] <;> rfl), by repeat (first | (with_reducible first | exact HB.out | apply below_alloc | apply pw_below_drewN | apply below_drew1) | exact HB.out)⟩
                              · rw [if_neg c38] at H
                                have c38b0 : (t298.toList == t302.toList) = false := beq_eq_false_iff_ne.mpr c38
                                have c38b1 : (t298.toList != t302.toList) = true := bne_iff_ne.mpr c38
                                obtain rfl := Option.some.inj H
                                obtain ⟨Ao47, co47, eo47⟩ := Kd.R_slice HO_13.out
                                subst eo47
                                have p297 : 0 ≤ (x14_2 : Int) := of_decide_eq_true (by first | (with_reducible assumption) | assumption)
                                have q297 : x14_2 < (y294.length : Int) := of_decide_eq_true (by first | (with_reducible assumption) | assumption)
                                obtain ⟨ad297, e297, hx297_0⟩ := Kd.at_string (Kd.R_reads' HO_13.out).2.2 x14_2 p297 q297
                                cases e297
                                replace p297 := eq_true p297
                                replace q297 := eq_true q297
                                go_wp2_with (first | ((with_reducible refine gate_callee (f := 34) rfl ?_); refine goesL_ (some 72) rfl rfl Tryd.func34 (by kernel_rfl) rfl #[.string (rdOf ByteArray.empty y294 x14_2)] rfl (by (try simp only [List.map_toArray, List.map_cons, List.map_nil]); first | done | rfl | (simp only [List.length_drop, List.length_take]; rfl)) ?_; (with_reducible refine (text_Unquote.calls k2 (rdOf ByteArray.empty y294 x14_2) t298 t299 t300 _ A36.out).mono ?_); rintro e w48 ⟨rfl, hb⟩; refine ⟨_, rfl, ?_⟩; have n0_ := Aside0.mk (Kd.R_below (by (with_reducible repeat (first | apply Kd.R_alloc | apply Kd.R_drewN | apply Kd.R_drew)); exact HO_13.out) hb); have n1_ := Aside0.mk (below_step (by repeat (first | (with_reducible first | exact HB.out | apply below_alloc | apply pw_below_drewN | apply below_drew1) | exact HB.out)) hb); clear HO_13; clear HB; have HO_13 := n0_; have HB := n1_; clear n0_ n1_; (try clear hb); (try clear hb2); (try clear hk); (try clear hi); have p301 : 0 ≤ (x14_2 : Int) := of_decide_eq_true (by first | (with_reducible assumption) | assumption); have q301 : x14_2 < (y294.length : Int) := of_decide_eq_true (by first | (with_reducible assumption) | assumption); obtain ⟨ad301, e301, hx301_0⟩ := Kd.at_string (Kd.R_reads' HO_13.out).2.2 x14_2 p301 q301; obtain rfl : ad297 = ad301 := (by injection e301); replace p301 := eq_true p301; replace q301 := eq_true q301) | ((with_reducible refine gate_callee (f := 38) rfl ?_); refine goesL_ (some 81) rfl rfl Tryd.func38 (by kernel_rfl) rfl #[.string (rdOf ByteArray.empty y294 x14_2)] rfl (by (try simp only [List.map_toArray, List.map_cons, List.map_nil]); first | done | rfl | (simp only [List.length_drop, List.length_take]; rfl)) ?_; (with_reducible refine (transhumanceref1_Unquote.calls k2 (rdOf ByteArray.empty y294 x14_2) t302 t303 t304 _ A37.out).mono ?_); rintro e w' ⟨rfl, ⟨nd, rfl⟩⟩; refine ⟨_, rfl, ?_⟩))
                                go_ret
                                exact ⟨by first | rfl | (simp [errW_none, errW_some] <;> rfl) | (simp [*, errW_none, errW_some] <;> rfl), by repeat (first | (with_reducible first | exact HB.out | apply below_alloc | apply pw_below_drewN | apply below_drew1) | exact HB.out)⟩
                            · rw [if_neg c35] at H
                              exact absurd H (by simp)
                          · rw [if_neg c34] at H
                            have c34b0 : decide (x14_2 < (y294.length : Int)) = false := decide_eq_false c34
                            clear c34
                            obtain rfl := Option.some.inj H
                            obtain ⟨Ao49, co49, eo49⟩ := Kd.R_slice HO_13.out
                            subst eo49
                            go_wp2
                            go_ret
                            exact ⟨by first | rfl | (simp [errW_none, errW_some] <;> rfl) | (simp [*, errW_none, errW_some] <;> rfl), by repeat (first | (with_reducible first | exact HB.out | apply below_alloc | apply pw_below_drewN | apply below_drew1) | exact HB.out)⟩
                    · rw [if_neg c22] at H
                      exact absurd H (by simp)
                  · rw [if_neg c21] at H
                    exact absurd H (by simp)
                · rw [if_neg c20] at H
                  exact absurd H (by simp)
              · rw [if_neg c19] at H
                exact absurd H (by simp)
            · rw [if_neg c16] at H
              exact absurd H (by simp)
          · rw [if_neg c15] at H
            exact absurd H (by simp)
  · replace c7 := Bool.eq_false_iff.mpr c7
    subst c7
    have H1 : (some false) = some r := by rw [if_neg (show ¬ (false = true) by decide)] at H; exact H
    clear H
    have H := H1
    clear H1
    obtain rfl := Option.some.inj H
    go_enter Tryd.func7, Tryd.ntmps7
    go_wp2_with (first | ((with_reducible refine gate_callee (f := 13) rfl ?_); refine goesL_ (some 21) rfl rfl Tryd.func13 (by kernel_rfl) rfl #[] rfl (by (try simp only [List.map_toArray, List.map_cons, List.map_nil]); first | done | rfl | (simp only [List.length_drop, List.length_take]; rfl)) ?_; (with_reducible refine (transhumancelaw1_known.calls k  false _ A6.out).mono ?_); rintro e w50 ⟨rfl, hb⟩; refine ⟨_, rfl, ?_⟩; have n0_ := Aside0.mk (below_step (by repeat (first | (with_reducible first | exact HB.out | apply below_alloc | apply pw_below_drewN | apply below_drew1) | exact HB.out)) hb); clear HB; have HB := n0_; clear n0_; (try clear hb); (try clear hb2); (try clear hk); (try clear hi)))
    go_ret
    exact ⟨by first | rfl | (simp [errW_none, errW_some] <;> rfl) | (simp [*, errW_none, errW_some] <;> rfl), by repeat (first | (with_reducible first | exact HB.out | apply below_alloc | apply pw_below_drewN | apply below_drew1) | exact HB.out)⟩

/-- THE ONE PURE STATEMENT of transhumancelaw1_TextUnquotes: yours. -/
def transhumancelaw1_TextUnquotes.Pure : Prop := ∀ (l0 : List Int) (a1 : Int) (a2 : Int) (a3 : Int) (a4 : ByteArray), l0.length ≤ maxLen → l0.length * 1 ≤ 140737488351232 → (∀ x ∈ l0, (Lit.int .u8 x).wf = true) → (Lit.int .i64 a1).wf = true → (Lit.int .u8 a2).wf = true → (Lit.int .i64 a3).wf = true → a4.size ≤ 140737488351232 → ∃ k, transhumancelaw1_TextUnquotes.f k l0 a1 a2 a3 a4 = some true
theorem transhumancelaw1_TextUnquotes.walk (P : transhumancelaw1_TextUnquotes.Pure) (a0 : Option Addr) (len0 cap0 : Nat) (z0 : List Int) (a1 : Int) (a2 : Int) (a3 : Int) (a4 : ByteArray) (w : World) (w0 : (a0 = none ∧ len0 = 0 ∧ cap0 = 0 ∧ z0 = []) ∨ ∃ x, a0 = some x ∧ len0 ≤ cap0 ∧ cap0 ≤ maxLen ∧ z0.length = cap0 ∧ (∀ i, i < z0.length → w.cell? (x.add i) = some (.int .u8 (z0.getD i 0))) ∧ ∀ n ∈ z0, (Lit.int .u8 n).wf = true) (y0 : len0 * 1 ≤ 140737488351232) (w1 : (Lit.int .i64 a1).wf = true) (w2 : (Lit.int .u8 a2).wf = true) (w3 : (Lit.int .i64 a3).wf = true) (w4 : a4.size ≤ 140737488351232) :
    Calls Tryd.prog 7 #[.slice a0 len0 cap0, .int .i64 a1, .int .u8 a2, .int .i64 a3, .string a4] w fun e w' => e = .returned (.bool true) ∧ Below w.heap.size w w' := by
  obtain ⟨l0, rfl, hr0, hm0, hw0, hc0⟩ := ReadsInt.ofRowC w0
  obtain ⟨k, h⟩ := P l0 a1 a2 a3 a4 hm0 y0 hw0 w1 w2 w3 w4
  refine (transhumancelaw1_TextUnquotes.calls k _ _ l0 a1 a2 a3 a4 true w (Kd.C_of_reads (d := (0 : Int)) (h1 := fun _ => rfl) hr0) hc0 h).mono ?_
  rintro e w' ⟨rfl, hd⟩
  exact ⟨rfl, hd⟩

end Go.Proofs.YtkejnnnedgmhiaaDoor.X
