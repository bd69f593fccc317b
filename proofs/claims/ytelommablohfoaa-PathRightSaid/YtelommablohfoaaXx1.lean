-- Laid by this session's own program (wip/xprint.py). Not trusted: Lean checks it.
import Derived.Test.YtelommablohfoaaXx0
namespace Go.Proofs.Ytelommablohfoaa.X
open Go.RowKit Go.Proofs.YtelommablohfoaaW.PrintWords Go.Proofs.YtelommablohfoaaW.PrintLast Go.Proofs.YtelommablohfoaaW.PrintMore
attribute [local go_sem] max2_int min2_int max_two min_two max_three min_three max_four min_four   -- for this text's walks alone
set_option linter.unusedVariables false
set_option linter.unusedSimpArgs false

-- NOT PRINTED: function 49 (bytealg_IndexByteString)

/-! ### stringslite_IndexByte: function 45 -/
def stringslite_IndexByte.f (a0 : ByteArray) (a1 : Int) : Option (Int) := some (Lib.indexByte a0.data.toList a1.toNat.toUInt8)
theorem stringslite_IndexByte.calls (a0 : ByteArray) (a1 : Int) (r : Int) (w : World) (h : stringslite_IndexByte.f a0 a1 = some r) :
    Calls Try.prog 45 #[.string a0, .int .u8 a1] w fun e w' => e = .returned (.int .i64 r) ∧ Drawn0 w w' := by
  have h2 := Option.some.inj h
  refine (Sh.stringslite_IndexByte a0 a1 w).mono ?_
  rintro e w' ⟨rfl, rfl⟩
  exact ⟨by rw [← h2], Drawn0.refl _⟩

-- NOT PRINTED: function 46 (bytealg_IndexString)

-- NOT PRINTED: function 47 (bytealg_Cutover)

-- NOT PRINTED: function 50 (bytealg_hashStr_string)

-- NOT PRINTED: function 48 (bytealg_IndexRabinKarp_string)

/-! ### stringslite_Index: function 42 -/
def stringslite_Index.f (a0 : ByteArray) (a1 : ByteArray) : Option (Int) := if a1.size = 1 then some (Lib.indexByte a0.data.toList (a1.data.toList.getD 0 0)) else none
theorem stringslite_Index.calls (a0 : ByteArray) (a1 : ByteArray) (r : Int) (w : World) (h : stringslite_Index.f a0 a1 = some r) :
    Calls Try.prog 42 #[.string a0, .string a1] w fun e w' => e = .returned (.int .i64 r) ∧ Drawn0 w w' := by
  unfold stringslite_Index.f at h
  by_cases h1 : a1.size = 1
  · rw [if_pos h1] at h
    obtain ⟨c, rfl⟩ : ∃ c : UInt8, a1 = ⟨#[c]⟩ := by
      obtain ⟨d⟩ := a1
      obtain ⟨l⟩ := d
      match l, h1 with
      | [c], _ => exact ⟨c, rfl⟩
    have h2 := Option.some.inj h
    refine (Sh.stringslite_Index_one a0 c w).mono ?_
    rintro e w' ⟨rfl, rfl⟩
    exact ⟨by rw [← h2]; rfl, Drawn0.refl _⟩
  · rw [if_neg h1] at h
    cases h

/-! ### stringslite_Cut: function 36 -/
def stringslite_Cut.f (a0 : ByteArray) (a1 : ByteArray) : Option (ByteArray × ByteArray × Bool) := (stringslite_Index.f a0 a1).bind fun t101 => (if t101 ≥ 0 then (if 0 ≤ t101 then (if t101 ≤ (a0.size : Int) then (if 0 ≤ (wrap64 (t101 + (a1.size : Int))) then (if (wrap64 (t101 + (a1.size : Int))) ≤ (a0.size : Int) then (some (a0.extract 0 (t101 : Int).toNat, a0.extract ((wrap64 (t101 + (a1.size : Int))) : Int).toNat a0.size, true)) else (none)) else (none)) else (none)) else (none)) else (some (a0, (⟨#[]⟩ : ByteArray), false)))
set_option maxHeartbeats 8000000 in
set_option maxRecDepth 100000 in
theorem stringslite_Cut.calls (a0 : ByteArray) (a1 : ByteArray) (r1 : ByteArray) (r2 : ByteArray) (r3 : Bool) (w : World) (h : stringslite_Cut.f a0 a1 = some (r1, r2, r3)) :
    Calls Try.prog 36 #[.string a0, .string a1] w fun e w' => e = .returned (.tuple #[.string r1, .string r2, .bool r3]) ∧ Drawn0 w w' := by
  have H : ((stringslite_Index.f a0 a1).bind fun t101 => (if t101 ≥ 0 then (if 0 ≤ t101 then (if t101 ≤ (a0.size : Int) then (if 0 ≤ (wrap64 (t101 + (a1.size : Int))) then (if (wrap64 (t101 + (a1.size : Int))) ≤ (a0.size : Int) then (some (a0.extract 0 (t101 : Int).toNat, a0.extract ((wrap64 (t101 + (a1.size : Int))) : Int).toNat a0.size, true)) else (none)) else (none)) else (none)) else (none)) else (some (a0, (⟨#[]⟩ : ByteArray), false)))) = some (r1, r2, r3) := h
  clear h
  replace H := Option.bind_eq_some_iff.mp H
  obtain ⟨t101, A30, H⟩ := H
  replace H : (if t101 ≥ 0 then (if 0 ≤ t101 then (if t101 ≤ (a0.size : Int) then (if 0 ≤ (wrap64 (t101 + (a1.size : Int))) then (if (wrap64 (t101 + (a1.size : Int))) ≤ (a0.size : Int) then (some (a0.extract 0 (t101 : Int).toNat, a0.extract ((wrap64 (t101 + (a1.size : Int))) : Int).toNat a0.size, true)) else (none)) else (none)) else (none)) else (none)) else (some (a0, (⟨#[]⟩ : ByteArray), false))) = some (r1, r2, r3) := H
  have A3 := Aside0.mk A30
  clear A30
  by_cases c4 : t101 ≥ 0
  · rw [if_pos c4] at H
    have c4b0 : decide (0 ≤ t101) = true := decide_eq_true c4
    clear c4
    by_cases c5 : 0 ≤ t101
    · rw [if_pos c5] at H
      have c5b0 := eq_true c5
      have c5b1 : decide (0 ≤ t101) = true := decide_eq_true c5
      clear c5
      by_cases c6 : t101 ≤ (a0.size : Int)
      · rw [if_pos c6] at H
        have c6b0 := eq_true c6
        have c6b1 : decide (t101 ≤ (a0.size : Int)) = true := decide_eq_true c6
        clear c6
        obtain ⟨ji7, hji7⟩ : ∃ j_ : Int, (wrap64 (t101 + (a1.size : Int))) = j_ := ⟨_, rfl⟩
        replace H : (if 0 ≤ (ji7) then (if (ji7) ≤ (a0.size : Int) then (some (a0.extract 0 (t101 : Int).toNat, a0.extract ((ji7) : Int).toNat a0.size, true)) else (none)) else (none)) = some (r1, r2, r3) := by first | (rw [hji7] at H; exact H) | (simp only [hji7] at H ⊢; exact H)
        (try rw [hji7] at A3)
        have hji7w : (IntKind.i64.wrap (t101 + (a1.size : Int))) = ji7 := (i64_w _).trans hji7
        by_cases c8 : 0 ≤ (ji7)
        · rw [if_pos c8] at H
          have c8b0 := eq_true c8
          have c8b1 : decide (0 ≤ (ji7)) = true := decide_eq_true c8
          clear c8
          by_cases c9 : (ji7) ≤ (a0.size : Int)
          · rw [if_pos c9] at H
            have c9b0 := eq_true c9
            have c9b1 : decide ((ji7) ≤ (a0.size : Int)) = true := decide_eq_true c9
            clear c9
            simp only [Option.some.injEq, Prod.mk.injEq] at H
            obtain ⟨rfl, rfl, rfl⟩ := H
            go_enter Try.func36, Try.ntmps36
            go_wp2_with (first | (go_at_call 42; (with_reducible refine (stringslite_Index.calls a0 a1 t101 _ A3.out).mono ?_); rintro e w' ⟨rfl, ⟨nd, rfl⟩⟩; (try first | exact ⟨rfl, _, World.drewN_drewN _ _ _⟩ | exact ⟨rfl, _, Eq.trans (World.drewN_drewN _ _ _) (congrArg (World.drewN _) (Nat.add_assoc _ _ _))⟩)))
            repeat (go_quiet (first | (go_at_call 42; (with_reducible refine (stringslite_Index.calls a0 a1 t101 _ A3.out).mono ?_); rintro e w' ⟨rfl, ⟨nd, rfl⟩⟩; (try first | exact ⟨rfl, _, World.drewN_drewN _ _ _⟩ | exact ⟨rfl, _, Eq.trans (World.drewN_drewN _ _ _) (congrArg (World.drewN _) (Nat.add_assoc _ _ _))⟩))); try go_wp2_with (first | (go_at_call 42; (with_reducible refine (stringslite_Index.calls a0 a1 t101 _ A3.out).mono ?_); rintro e w' ⟨rfl, ⟨nd, rfl⟩⟩; (try first | exact ⟨rfl, _, World.drewN_drewN _ _ _⟩ | exact ⟨rfl, _, Eq.trans (World.drewN_drewN _ _ _) (congrArg (World.drewN _) (Nat.add_assoc _ _ _))⟩))))
            go_ret3
            exact ⟨by first | rfl | (simp; done) | (simp only [← hji7] <;> (first | rfl | simp)) | (simp [*]; done), by repeat (first | exact Drawn0.refl _ | apply Drawn0.step)⟩
          · rw [if_neg c9] at H
            exact absurd H (by simp)
        · rw [if_neg c8] at H
          exact absurd H (by simp)
      · rw [if_neg c6] at H
        exact absurd H (by simp)
    · rw [if_neg c5] at H
      exact absurd H (by simp)
  · rw [if_neg c4] at H
    have c4b0 : decide (0 ≤ t101) = false := decide_eq_false c4
    clear c4
    simp only [Option.some.injEq, Prod.mk.injEq] at H
    obtain ⟨rfl, rfl, rfl⟩ := H
    go_enter Try.func36, Try.ntmps36
    go_wp2_with (first | (go_at_call 42; (with_reducible refine (stringslite_Index.calls a0 a1 t101 _ A3.out).mono ?_); rintro e w' ⟨rfl, ⟨nd, rfl⟩⟩; (try first | exact ⟨rfl, _, World.drewN_drewN _ _ _⟩ | exact ⟨rfl, _, Eq.trans (World.drewN_drewN _ _ _) (congrArg (World.drewN _) (Nat.add_assoc _ _ _))⟩)))
    repeat (go_quiet (first | (go_at_call 42; (with_reducible refine (stringslite_Index.calls a0 a1 t101 _ A3.out).mono ?_); rintro e w' ⟨rfl, ⟨nd, rfl⟩⟩; (try first | exact ⟨rfl, _, World.drewN_drewN _ _ _⟩ | exact ⟨rfl, _, Eq.trans (World.drewN_drewN _ _ _) (congrArg (World.drewN _) (Nat.add_assoc _ _ _))⟩))); try go_wp2_with (first | (go_at_call 42; (with_reducible refine (stringslite_Index.calls a0 a1 t101 _ A3.out).mono ?_); rintro e w' ⟨rfl, ⟨nd, rfl⟩⟩; (try first | exact ⟨rfl, _, World.drewN_drewN _ _ _⟩ | exact ⟨rfl, _, Eq.trans (World.drewN_drewN _ _ _) (congrArg (World.drewN _) (Nat.add_assoc _ _ _))⟩))))
    go_ret3
    exact ⟨by first | rfl | (simp; done) | (simp [*]; done), by repeat (first | exact Drawn0.refl _ | apply Drawn0.step)⟩

/-! ### strings_Cut: function 27 -/
def strings_Cut.f (a0 : ByteArray) (a1 : ByteArray) : Option (ByteArray × ByteArray × Bool) := (stringslite_Cut.f a0 a1).bind fun bt102 => (some (bt102.1, bt102.2.1, bt102.2.2))
set_option maxHeartbeats 8000000 in
set_option maxRecDepth 100000 in
theorem strings_Cut.calls (a0 : ByteArray) (a1 : ByteArray) (r1 : ByteArray) (r2 : ByteArray) (r3 : Bool) (w : World) (h : strings_Cut.f a0 a1 = some (r1, r2, r3)) :
    Calls Try.prog 27 #[.string a0, .string a1] w fun e w' => e = .returned (.tuple #[.string r1, .string r2, .bool r3]) ∧ Drawn0 w w' := by
  have H : ((stringslite_Cut.f a0 a1).bind fun bt102 => (some (bt102.1, bt102.2.1, bt102.2.2))) = some (r1, r2, r3) := h
  clear h
  replace H := Option.bind_eq_some_iff.mp H
  obtain ⟨⟨t102, t103, t104⟩, A30, H⟩ := H
  replace H : (some (t102, t103, t104)) = some (r1, r2, r3) := H
  have A3 := Aside0.mk A30
  clear A30
  simp only [Option.some.injEq, Prod.mk.injEq] at H
  obtain ⟨rfl, rfl, rfl⟩ := H
  go_enter Try.func27, Try.ntmps27
  go_wp2_with (first | ((with_reducible refine gate_callee (f := 36) rfl ?_); refine goesL_ (some 9) rfl rfl Try.func36 (by kernel_rfl) rfl #[.string a0, .string a1] rfl (by (try simp only [List.map_toArray, List.map_cons, List.map_nil]); first | done | rfl | (simp only [List.length_drop, List.length_take]; rfl)) ?_; (with_reducible refine (stringslite_Cut.calls a0 a1 t102 t103 t104 _ A3.out).mono ?_); rintro e w' ⟨rfl, ⟨nd, rfl⟩⟩; refine ⟨_, rfl, ?_⟩))
  go_ret3
  exact ⟨by first | rfl | (simp; done) | (simp [*]; done), by repeat (first | exact Drawn0.refl _ | apply Drawn0.step)⟩

/-! ### path_signs: function 28 -/
mutual
def path_signs.l0 : Nat → ByteArray → Int → Int → Option (Bool)
  | 0, _, _, _ => none
  | k + 1, x0, x6, x7 => if x7 < x6 then (if 0 ≤ x7 then (if x7 < (x0.size : Int) then (if (bt x0 x7) ≥ 97 then (if (bt x0 x7) ≤ 122 then (path_signs.j1 k x0 x6 x7 (!true)) else (if (bt x0 x7) ≥ 48 then (if (bt x0 x7) ≤ 57 then (path_signs.j1 k x0 x6 x7 (!true)) else (if (bt x0 x7) = 46 then (path_signs.j1 k x0 x6 x7 (!true)) else (if (bt x0 x7) = 45 then (path_signs.j1 k x0 x6 x7 (!true)) else (path_signs.j1 k x0 x6 x7 (!((bt x0 x7) == 95)))))) else (if (bt x0 x7) = 46 then (path_signs.j1 k x0 x6 x7 (!true)) else (if (bt x0 x7) = 45 then (path_signs.j1 k x0 x6 x7 (!true)) else (path_signs.j1 k x0 x6 x7 (!((bt x0 x7) == 95))))))) else (if (bt x0 x7) ≥ 48 then (if (bt x0 x7) ≤ 57 then (path_signs.j1 k x0 x6 x7 (!true)) else (if (bt x0 x7) = 46 then (path_signs.j1 k x0 x6 x7 (!true)) else (if (bt x0 x7) = 45 then (path_signs.j1 k x0 x6 x7 (!true)) else (path_signs.j1 k x0 x6 x7 (!((bt x0 x7) == 95)))))) else (if (bt x0 x7) = 46 then (path_signs.j1 k x0 x6 x7 (!true)) else (if (bt x0 x7) = 45 then (path_signs.j1 k x0 x6 x7 (!true)) else (path_signs.j1 k x0 x6 x7 (!((bt x0 x7) == 95))))))) else (none)) else (none)) else (some true)
def path_signs.j1 : Nat → ByteArray → Int → Int → Bool → Option (Bool)
  | 0, _, _, _, _ => none
  | k + 1, x0, x6, x7, x39 => if x39 = true then (some false) else (path_signs.l0 k x0 x6 (wrap64 (x7 + 1)))
end
def path_signs.f (k : Nat) (a0 : ByteArray) : Option (Bool) := path_signs.l0 k a0 (a0.size : Int) 0
theorem path_signs.mono_l : ∀ k, (∀ y0 y1 y2, LeO (path_signs.l0 k y0 y1 y2) (path_signs.l0 (k + 1) y0 y1 y2)) ∧ (∀ y0 y1 y2 y3, LeO (path_signs.j1 k y0 y1 y2 y3) (path_signs.j1 (k + 1) y0 y1 y2 y3))
  | 0 => ⟨fun _ _ _ r h => by simp [path_signs.l0] at h, fun _ _ _ _ r h => by simp [path_signs.j1] at h⟩
  | k + 1 => by
    obtain ⟨ih0, ih1⟩ := path_signs.mono_l k
    refine ⟨?_, ?_⟩
    · intro y0 y1 y2
      unfold path_signs.l0
      repeat' first
      | (with_reducible exact ih0 _ _ _)
      | (with_reducible exact ih1 _ _ _ _)
      | (with_reducible exact LeO.refl _)
      | (with_reducible exact LeO.none _)
      | (with_reducible refine LeO.ite ?_ ?_)
      | (with_reducible refine LeO.bind ?_ (fun _ => ?_))
      | exact ih0 _ _ _
      | exact ih1 _ _ _ _
      | exact LeO.none _
      | refine LeO.ite ?_ ?_
      | refine LeO.bind ?_ (fun _ => ?_)
    · intro y0 y1 y2 y3
      unfold path_signs.j1
      repeat' first
      | (with_reducible exact ih0 _ _ _)
      | (with_reducible exact ih1 _ _ _ _)
      | (with_reducible exact LeO.refl _)
      | (with_reducible exact LeO.none _)
      | (with_reducible refine LeO.ite ?_ ?_)
      | (with_reducible refine LeO.bind ?_ (fun _ => ?_))
      | exact ih0 _ _ _
      | exact ih1 _ _ _ _
      | exact LeO.none _
      | refine LeO.ite ?_ ?_
      | refine LeO.bind ?_ (fun _ => ?_)
theorem path_signs.mono : ∀ a0 k, LeO (path_signs.f k a0) (path_signs.f (k + 1) a0) := by
  intro a0 k
  obtain ⟨ih0, ih1⟩ := path_signs.mono_l k
  unfold path_signs.f
  repeat' first
      | (with_reducible exact ih0 _ _ _)
      | (with_reducible exact ih1 _ _ _ _)
      | (with_reducible exact LeO.refl _)
      | (with_reducible exact LeO.none _)
      | (with_reducible refine LeO.ite ?_ ?_)
      | (with_reducible refine LeO.bind ?_ (fun _ => ?_))
      | exact ih0 _ _ _
      | exact ih1 _ _ _ _
      | exact LeO.none _
      | refine LeO.ite ?_ ?_
      | refine LeO.bind ?_ (fun _ => ?_)
set_option maxHeartbeats 8000000 in
set_option maxRecDepth 100000 in
theorem path_signs.calls (k : Nat) (a0 : ByteArray) (r : Bool) (w : World) (h : path_signs.f k a0 = some r) :
    Calls Try.prog 28 #[.string a0] w fun e w' => e = .returned (.bool r) ∧ Drawn0 w w' := by
  have H : (path_signs.l0 k a0 (a0.size : Int) 0) = some r := h
  clear h
  have H' := Aside0.mk H
  clear H
  go_enter Try.func28, Try.ntmps28
  go_wp2
  go_loopg [7] k (fun kq v7 w' => ∃ (x7_1 : Int), v7 = .int .i64 x7_1 ∧ Aside0 (path_signs.l0 kq a0 (a0.size : Int) x7_1 = some r) ∧ Aside0 (kq ≤ k) ∧ Drawn0 w w')
  case atStart => exact ⟨(0), (by first | rfl | (simp; done) | (simp [*]; done)), H', ⟨Nat.le_refl _⟩, by repeat (first | exact Drawn0.refl _ | apply Drawn0.step)⟩
  case round =>
    clear H'
    obtain ⟨x7_1, rfl, HA, HK1, ⟨m1, rfl⟩⟩ := hrel
    cases gk with
    | zero => exact absurd HA.out (by simp [path_signs.l0])
    | succ k1 =>
      have H := HA.out
      clear HA
      simp only [path_signs.l0] at H
      by_cases c2 : x7_1 < (a0.size : Int)
      · rw [if_pos c2] at H
        have c2b0 : decide (x7_1 < (a0.size : Int)) = true := decide_eq_true c2
        clear c2
        by_cases c3 : 0 ≤ x7_1
        · rw [if_pos c3] at H
          have c3b0 : decide (0 ≤ x7_1) = true := decide_eq_true c3
          clear c3
          by_cases c4 : x7_1 < (a0.size : Int)
          · rw [if_pos c4] at H
            have c4b0 : decide (x7_1 < (a0.size : Int)) = true := decide_eq_true c4
            clear c4
            have HC6 := Aside0.mk H
            clear H
            have p5 : 0 ≤ (x7_1 : Int) := of_decide_eq_true (by first | (with_reducible assumption) | assumption)
            have q5 : x7_1 < (a0.size : Int) := of_decide_eq_true (by first | (with_reducible assumption) | assumption)
            have hx5 := bt_at a0 x7_1
            replace p5 := eq_true p5
            replace q5 := eq_true q5
            go_upto_region 5 with (fail)
            go_cut [39] (fun v39 wc => ∃ (kq : Nat) (x39_5 : Bool), v39 = .bool x39_5 ∧ Aside0 (path_signs.j1 kq a0 (a0.size : Int) x7_1 x39_5 = some r) ∧ Aside0 (kq ≤ k1) ∧ Drawn0 w wc)
            case first =>
              have H := HC6.out
              clear HC6
              by_cases c7 : (bt a0 x7_1) ≥ 97
              · rw [if_pos c7] at H
                have c7b0 : decide (97 ≤ (bt a0 x7_1)) = true := decide_eq_true c7
                clear c7
                (first | rw [c7b0] | (simp only [i64_w, i32_w]; rw [c7b0]) | skip)
                by_cases c8 : (bt a0 x7_1) ≤ 122
                · rw [if_pos c8] at H
                  have c8b0 : decide ((bt a0 x7_1) ≤ 122) = true := decide_eq_true c8
                  clear c8
                  have H' := Aside0.mk H
                  clear H
                  go_wp2
                  go_meet
                  case rel => exact ⟨_, (!true), (by first | rfl | (simp; done) | (simp [*]; done)), H', ⟨by have := HK1.out; first | omega | exact Nat.le_refl _⟩, by repeat (first | exact Drawn0.refl _ | apply Drawn0.step)⟩
                · rw [if_neg c8] at H
                  have c8b0 : decide ((bt a0 x7_1) ≤ 122) = false := decide_eq_false c8
                  clear c8
                  by_cases c9 : (bt a0 x7_1) ≥ 48
                  · rw [if_pos c9] at H
                    have c9b0 : decide (48 ≤ (bt a0 x7_1)) = true := decide_eq_true c9
                    clear c9
                    by_cases c10 : (bt a0 x7_1) ≤ 57
                    · rw [if_pos c10] at H
                      have c10b0 : decide ((bt a0 x7_1) ≤ 57) = true := decide_eq_true c10
                      clear c10
                      have H' := Aside0.mk H
                      clear H
                      go_wp2
                      go_meet
                      case rel => exact ⟨_, (!true), (by first | rfl | (simp; done) | (simp [*]; done)), H', ⟨by have := HK1.out; first | omega | exact Nat.le_refl _⟩, by repeat (first | exact Drawn0.refl _ | apply Drawn0.step)⟩
                    · rw [if_neg c10] at H
                      have c10b0 : decide ((bt a0 x7_1) ≤ 57) = false := decide_eq_false c10
                      clear c10
                      by_cases c11 : (bt a0 x7_1) = 46
                      · rw [if_pos c11] at H
                        have c11b0 : ((bt a0 x7_1) == 46) = true := beq_iff_eq.mpr c11
                        have c11b1 : ((bt a0 x7_1) != 46) = false := bne_eq_false_iff_eq.mpr c11
                        clear c11
                        have H' := Aside0.mk H
                        clear H
                        go_wp2
                        go_meet
                        case rel => exact ⟨_, (!true), (by first | rfl | (simp; done) | (simp [*]; done)), H', ⟨by have := HK1.out; first | omega | exact Nat.le_refl _⟩, by repeat (first | exact Drawn0.refl _ | apply Drawn0.step)⟩
                      · rw [if_neg c11] at H
                        have c11b0 : ((bt a0 x7_1) == 46) = false := beq_eq_false_iff_ne.mpr c11
                        have c11b1 : ((bt a0 x7_1) != 46) = true := bne_iff_ne.mpr c11
                        by_cases c12 : (bt a0 x7_1) = 45
                        · rw [if_pos c12] at H
                          have c12b0 : ((bt a0 x7_1) == 45) = true := beq_iff_eq.mpr c12
                          have c12b1 : ((bt a0 x7_1) != 45) = false := bne_eq_false_iff_eq.mpr c12
                          clear c12
                          have H' := Aside0.mk H
                          clear H
                          go_wp2
                          go_meet
                          case rel => exact ⟨_, (!true), (by first | rfl | (simp; done) | (simp [*]; done)), H', ⟨by have := HK1.out; first | omega | exact Nat.le_refl _⟩, by repeat (first | exact Drawn0.refl _ | apply Drawn0.step)⟩
                        · rw [if_neg c12] at H
                          have c12b0 : ((bt a0 x7_1) == 45) = false := beq_eq_false_iff_ne.mpr c12
                          have c12b1 : ((bt a0 x7_1) != 45) = true := bne_iff_ne.mpr c12
                          have H' := Aside0.mk H
                          clear H
                          go_wp2
                          go_meet
                          case rel => exact ⟨_, (!((bt a0 x7_1) == 95)), (by first | rfl | (simp; done) | (simp [*]; done)), H', ⟨by have := HK1.out; first | omega | exact Nat.le_refl _⟩, by repeat (first | exact Drawn0.refl _ | apply Drawn0.step)⟩
                  · rw [if_neg c9] at H
                    have c9b0 : decide (48 ≤ (bt a0 x7_1)) = false := decide_eq_false c9
                    clear c9
                    by_cases c13 : (bt a0 x7_1) = 46
                    · rw [if_pos c13] at H
                      have c13b0 : ((bt a0 x7_1) == 46) = true := beq_iff_eq.mpr c13
                      have c13b1 : ((bt a0 x7_1) != 46) = false := bne_eq_false_iff_eq.mpr c13
                      clear c13
                      have H' := Aside0.mk H
                      clear H
                      go_wp2
                      go_meet
                      case rel => exact ⟨_, (!true), (by first | rfl | (simp; done) | (simp [*]; done)), H', ⟨by have := HK1.out; first | omega | exact Nat.le_refl _⟩, by repeat (first | exact Drawn0.refl _ | apply Drawn0.step)⟩
                    · rw [if_neg c13] at H
                      have c13b0 : ((bt a0 x7_1) == 46) = false := beq_eq_false_iff_ne.mpr c13
                      have c13b1 : ((bt a0 x7_1) != 46) = true := bne_iff_ne.mpr c13
                      by_cases c14 : (bt a0 x7_1) = 45
                      · rw [if_pos c14] at H
                        have c14b0 : ((bt a0 x7_1) == 45) = true := beq_iff_eq.mpr c14
                        have c14b1 : ((bt a0 x7_1) != 45) = false := bne_eq_false_iff_eq.mpr c14
                        clear c14
                        have H' := Aside0.mk H
                        clear H
                        go_wp2
                        go_meet
                        case rel => exact ⟨_, (!true), (by first | rfl | (simp; done) | (simp [*]; done)), H', ⟨by have := HK1.out; first | omega | exact Nat.le_refl _⟩, by repeat (first | exact Drawn0.refl _ | apply Drawn0.step)⟩
                      · rw [if_neg c14] at H
                        have c14b0 : ((bt a0 x7_1) == 45) = false := beq_eq_false_iff_ne.mpr c14
                        have c14b1 : ((bt a0 x7_1) != 45) = true := bne_iff_ne.mpr c14
                        have H' := Aside0.mk H
                        clear H
                        go_wp2
                        go_meet
                        case rel => exact ⟨_, (!((bt a0 x7_1) == 95)), (by first | rfl | (simp; done) | (simp [*]; done)), H', ⟨by have := HK1.out; first | omega | exact Nat.le_refl _⟩, by repeat (first | exact Drawn0.refl _ | apply Drawn0.step)⟩
              · rw [if_neg c7] at H
                have c7b0 : decide (97 ≤ (bt a0 x7_1)) = false := decide_eq_false c7
                clear c7
                (first | rw [c7b0] | (simp only [i64_w, i32_w]; rw [c7b0]) | skip)
                by_cases c15 : (bt a0 x7_1) ≥ 48
                · rw [if_pos c15] at H
                  have c15b0 : decide (48 ≤ (bt a0 x7_1)) = true := decide_eq_true c15
                  clear c15
                  by_cases c16 : (bt a0 x7_1) ≤ 57
                  · rw [if_pos c16] at H
                    have c16b0 : decide ((bt a0 x7_1) ≤ 57) = true := decide_eq_true c16
                    clear c16
                    have H' := Aside0.mk H
                    clear H
                    go_wp2
                    go_meet
                    case rel => exact ⟨_, (!true), (by first | rfl | (simp; done) | (simp [*]; done)), H', ⟨by have := HK1.out; first | omega | exact Nat.le_refl _⟩, by repeat (first | exact Drawn0.refl _ | apply Drawn0.step)⟩
                  · rw [if_neg c16] at H
                    have c16b0 : decide ((bt a0 x7_1) ≤ 57) = false := decide_eq_false c16
                    clear c16
                    by_cases c17 : (bt a0 x7_1) = 46
                    · rw [if_pos c17] at H
                      have c17b0 : ((bt a0 x7_1) == 46) = true := beq_iff_eq.mpr c17
                      have c17b1 : ((bt a0 x7_1) != 46) = false := bne_eq_false_iff_eq.mpr c17
                      clear c17
                      have H' := Aside0.mk H
                      clear H
                      go_wp2
                      go_meet
                      case rel => exact ⟨_, (!true), (by first | rfl | (simp; done) | (simp [*]; done)), H', ⟨by have := HK1.out; first | omega | exact Nat.le_refl _⟩, by repeat (first | exact Drawn0.refl _ | apply Drawn0.step)⟩
                    · rw [if_neg c17] at H
                      have c17b0 : ((bt a0 x7_1) == 46) = false := beq_eq_false_iff_ne.mpr c17
                      have c17b1 : ((bt a0 x7_1) != 46) = true := bne_iff_ne.mpr c17
                      by_cases c18 : (bt a0 x7_1) = 45
                      · rw [if_pos c18] at H
                        have c18b0 : ((bt a0 x7_1) == 45) = true := beq_iff_eq.mpr c18
                        have c18b1 : ((bt a0 x7_1) != 45) = false := bne_eq_false_iff_eq.mpr c18
                        clear c18
                        have H' := Aside0.mk H
                        clear H
                        go_wp2
                        go_meet
                        case rel => exact ⟨_, (!true), (by first | rfl | (simp; done) | (simp [*]; done)), H', ⟨by have := HK1.out; first | omega | exact Nat.le_refl _⟩, by repeat (first | exact Drawn0.refl _ | apply Drawn0.step)⟩
                      · rw [if_neg c18] at H
                        have c18b0 : ((bt a0 x7_1) == 45) = false := beq_eq_false_iff_ne.mpr c18
                        have c18b1 : ((bt a0 x7_1) != 45) = true := bne_iff_ne.mpr c18
                        have H' := Aside0.mk H
                        clear H
                        go_wp2
                        go_meet
                        case rel => exact ⟨_, (!((bt a0 x7_1) == 95)), (by first | rfl | (simp; done) | (simp [*]; done)), H', ⟨by have := HK1.out; first | omega | exact Nat.le_refl _⟩, by repeat (first | exact Drawn0.refl _ | apply Drawn0.step)⟩
                · rw [if_neg c15] at H
                  have c15b0 : decide (48 ≤ (bt a0 x7_1)) = false := decide_eq_false c15
                  clear c15
                  by_cases c19 : (bt a0 x7_1) = 46
                  · rw [if_pos c19] at H
                    have c19b0 : ((bt a0 x7_1) == 46) = true := beq_iff_eq.mpr c19
                    have c19b1 : ((bt a0 x7_1) != 46) = false := bne_eq_false_iff_eq.mpr c19
                    clear c19
                    have H' := Aside0.mk H
                    clear H
                    go_wp2
                    go_meet
                    case rel => exact ⟨_, (!true), (by first | rfl | (simp; done) | (simp [*]; done)), H', ⟨by have := HK1.out; first | omega | exact Nat.le_refl _⟩, by repeat (first | exact Drawn0.refl _ | apply Drawn0.step)⟩
                  · rw [if_neg c19] at H
                    have c19b0 : ((bt a0 x7_1) == 46) = false := beq_eq_false_iff_ne.mpr c19
                    have c19b1 : ((bt a0 x7_1) != 46) = true := bne_iff_ne.mpr c19
                    by_cases c20 : (bt a0 x7_1) = 45
                    · rw [if_pos c20] at H
                      have c20b0 : ((bt a0 x7_1) == 45) = true := beq_iff_eq.mpr c20
                      have c20b1 : ((bt a0 x7_1) != 45) = false := bne_eq_false_iff_eq.mpr c20
                      clear c20
                      have H' := Aside0.mk H
                      clear H
                      go_wp2
                      go_meet
                      case rel => exact ⟨_, (!true), (by first | rfl | (simp; done) | (simp [*]; done)), H', ⟨by have := HK1.out; first | omega | exact Nat.le_refl _⟩, by repeat (first | exact Drawn0.refl _ | apply Drawn0.step)⟩
                    · rw [if_neg c20] at H
                      have c20b0 : ((bt a0 x7_1) == 45) = false := beq_eq_false_iff_ne.mpr c20
                      have c20b1 : ((bt a0 x7_1) != 45) = true := bne_iff_ne.mpr c20
                      have H' := Aside0.mk H
                      clear H
                      go_wp2
                      go_meet
                      case rel => exact ⟨_, (!((bt a0 x7_1) == 95)), (by first | rfl | (simp; done) | (simp [*]; done)), H', ⟨by have := HK1.out; first | omega | exact Nat.le_refl _⟩, by repeat (first | exact Drawn0.refl _ | apply Drawn0.step)⟩
            case rest =>
              clear HC6
              try clear c1
              try clear c2
              try clear c2b0
              try clear p2
              try clear c3
              try clear c3b0
              try clear c4
              try clear c4b0
              try clear p5
              try clear q5
              try clear hx5
              try clear c7
              try clear c7b0
              try clear c8
              try clear c8b0
              try clear c9
              try clear c9b0
              try clear c10
              try clear c10b0
              try clear c11
              try clear c11b0
              try clear c11b1
              try clear c12
              try clear c12b0
              try clear c12b1
              try clear c13
              try clear c13b0
              try clear c13b1
              try clear c14
              try clear c14b0
              try clear c14b1
              try clear c15
              try clear c15b0
              try clear c16
              try clear c16b0
              try clear c17
              try clear c17b0
              try clear c17b1
              try clear c18
              try clear c18b0
              try clear c18b1
              try clear c19
              try clear c19b0
              try clear c19b1
              try clear c20
              try clear c20b0
              try clear c20b1
              try clear p5
              try clear q5
              obtain ⟨kq, x39_5, rfl, HA, HJ5, ⟨mc5, rfl⟩⟩ := hcut
              cases kq with
              | zero => exact absurd HA.out (by simp [path_signs.j1])
              | succ kj5 =>
                have H := HA.out
                clear HA
                simp only [path_signs.j1] at H
                by_cases c21 : x39_5 = true
                · subst c21
                  have H1 : (some false) = some r := by rw [if_pos rfl] at H; exact H
                  clear H
                  have H := H1
                  clear H1
                  obtain rfl := Option.some.inj H
                  go_wp2
                  go_ret
                  exact ⟨by first | rfl | (simp; done) | (simp [*]; done), by repeat (first | exact Drawn0.refl _ | apply Drawn0.step)⟩
                · replace c21 := Bool.eq_false_iff.mpr c21
                  subst c21
                  have H1 : (path_signs.l0 kj5 a0 (a0.size : Int) (wrap64 (x7_1 + 1))) = some r := by rw [if_neg (show ¬ (false = true) by decide)] at H; exact H
                  clear H
                  have H := H1
                  clear H1
                  have H' := Aside0.mk H
                  clear H
                  go_wp2
                  go_roundg kj5
                  case measure => have := HK1.out; have := HJ5.out; omega
                  case rel => exact ⟨(wrap64 (x7_1 + 1)), (by first | rfl | (simp; done) | (simp [*]; done)), H', ⟨by have := HK1.out; have := HJ5.out; omega⟩, by repeat (first | exact Drawn0.refl _ | apply Drawn0.step)⟩
          · rw [if_neg c4] at H
            exact absurd H (by simp)
        · rw [if_neg c3] at H
          exact absurd H (by simp)
      · rw [if_neg c2] at H
        have c2b0 : decide (x7_1 < (a0.size : Int)) = false := decide_eq_false c2
        clear c2
        obtain rfl := Option.some.inj H
        go_wp2
        go_ret
        exact ⟨by first | rfl | (simp; done) | (simp [*]; done), by repeat (first | exact Drawn0.refl _ | apply Drawn0.step)⟩

/-! ### path_Right: function 15 -/
def path_Right.l0 : Nat → ByteArray → Option (Bool)
  | 0, _ => none
  | k + 1, x3 => (strings_Cut.f x3 (⟨#[47]⟩ : ByteArray)).bind fun t => (if t.1.toList = ([] : List UInt8) then (some false) else (if t.1.toList = ([46] : List UInt8) then (some false) else (if t.1.toList = ([46, 46] : List UInt8) then (some false) else ((path_signs.f k t.1).bind fun b => (if b = true then (if t.2.2 = true then (path_Right.l0 k t.2.1) else (some true)) else (some false))))))
def path_Right.f (k : Nat) (a0 : ByteArray) : Option (Bool) := if (a0.size : Int) < 1 then (some false) else (if (a0.size : Int) > 40 then (some false) else (path_Right.l0 k a0))
theorem path_Right.mono_l : ∀ k y0, LeO (path_Right.l0 k y0) (path_Right.l0 (k + 1) y0)
  | 0 => fun _ r h => by simp [path_Right.l0] at h
  | k + 1 => by
    have ih0 := path_Right.mono_l k
    intro y0
    unfold path_Right.l0
    repeat' first
      | (with_reducible exact ih0 _)
      | (with_reducible exact path_signs.mono _ _)
      | (with_reducible exact LeO.refl _)
      | (with_reducible exact LeO.none _)
      | (with_reducible refine LeO.ite ?_ ?_)
      | (with_reducible refine LeO.bind ?_ (fun _ => ?_))
      | exact LeO.refl _
theorem path_Right.mono : ∀ a0 k, LeO (path_Right.f k a0) (path_Right.f (k + 1) a0) := by
  intro a0 k
  have ih0 := path_Right.mono_l k
  unfold path_Right.f
  exact LeO.ite (LeO.refl _) (LeO.ite (LeO.refl _) (ih0 _))
theorem path_Right.shorter (x3 u v : ByteArray) (hs : x3.size ≤ 40) (h : strings_Cut.f x3 (⟨#[47]⟩ : ByteArray) = some (u, v, true)) : v.size < x3.size := by
  unfold strings_Cut.f stringslite_Cut.f at h
  obtain ⟨⟨p, q, m⟩, h1, h2⟩ := Option.bind_eq_some_iff.mp h
  obtain ⟨t, h3, h4⟩ := Option.bind_eq_some_iff.mp h1
  simp only [Option.some.injEq, Prod.mk.injEq] at h2
  obtain ⟨rfl, rfl, rfl⟩ := h2
  have e1 : ((⟨#[47]⟩ : ByteArray).size : Int) = 1 := rfl
  rw [e1] at h4
  repeat' (split at h4)
  all_goals first
    | (simp at h4; done)
    | (simp only [Option.some.injEq, Prod.mk.injEq] at h4
       obtain ⟨_, rfl, _⟩ := h4
       rw [ByteArray.size_extract, Nat.min_self]
       unfold wrap64 at *
       omega)
theorem path_Right.round (gk : Nat) (x3 : ByteArray) (r : Bool) (hs : x3.size ≤ 40) (h : path_Right.l0 gk x3 = some r) : ∃ g u v m, strings_Cut.f x3 (⟨#[47]⟩ : ByteArray) = some (u, v, m) ∧
    ((u.toList = ([] : List UInt8) ∧ r = false) ∨ (¬ u.toList = ([] : List UInt8) ∧ u.toList = ([46] : List UInt8) ∧ r = false) ∨ (¬ u.toList = ([] : List UInt8) ∧ ¬ u.toList = ([46] : List UInt8) ∧ u.toList = ([46, 46] : List UInt8) ∧ r = false) ∨
     (¬ u.toList = ([] : List UInt8) ∧ ¬ u.toList = ([46] : List UInt8) ∧ ¬ u.toList = ([46, 46] : List UInt8) ∧ path_signs.f g u = some false ∧ r = false) ∨
     (¬ u.toList = ([] : List UInt8) ∧ ¬ u.toList = ([46] : List UInt8) ∧ ¬ u.toList = ([46, 46] : List UInt8) ∧ path_signs.f g u = some true ∧ m = true ∧ path_Right.l0 g v = some r ∧ v.size < x3.size) ∨
     (¬ u.toList = ([] : List UInt8) ∧ ¬ u.toList = ([46] : List UInt8) ∧ ¬ u.toList = ([46, 46] : List UInt8) ∧ path_signs.f g u = some true ∧ m = false ∧ r = true)) := by
  cases gk with
  | zero => simp [path_Right.l0] at h
  | succ g =>
    simp only [path_Right.l0] at h
    obtain ⟨⟨u, v, m⟩, h1, h⟩ := Option.bind_eq_some_iff.mp h
    refine ⟨g, u, v, m, h1, ?_⟩
    simp only at h
    by_cases c1 : u.toList = ([] : List UInt8)
    · rw [if_pos c1] at h
      exact .inl ⟨c1, (Option.some.inj h).symm⟩
    rw [if_neg c1] at h
    by_cases c2 : u.toList = ([46] : List UInt8)
    · rw [if_pos c2] at h
      exact .inr (.inl ⟨c1, c2, (Option.some.inj h).symm⟩)
    rw [if_neg c2] at h
    by_cases c3 : u.toList = ([46, 46] : List UInt8)
    · rw [if_pos c3] at h
      exact .inr (.inr (.inl ⟨c1, c2, c3, (Option.some.inj h).symm⟩))
    rw [if_neg c3] at h
    obtain ⟨b, h2, h⟩ := Option.bind_eq_some_iff.mp h
    cases b with
    | false =>
      rw [if_neg (by decide)] at h
      exact .inr (.inr (.inr (.inl ⟨c1, c2, c3, h2, (Option.some.inj h).symm⟩)))
    | true =>
      rw [if_pos rfl] at h
      cases m with
      | true =>
        rw [if_pos rfl] at h
        exact .inr (.inr (.inr (.inr (.inl ⟨c1, c2, c3, h2, rfl, h, path_Right.shorter x3 u v hs h1⟩))))
      | false =>
        rw [if_neg (by decide)] at h
        exact .inr (.inr (.inr (.inr (.inr ⟨c1, c2, c3, h2, rfl, (Option.some.inj h).symm⟩))))
def path_Right.sz : Value → Nat | .string s => s.size | _ => 0
set_option maxHeartbeats 8000000 in
set_option maxRecDepth 100000 in
theorem path_Right.calls (k : Nat) (a0 : ByteArray) (r : Bool) (w : World) (h : path_Right.f k a0 = some r) :
    Calls Try.prog 15 #[.string a0] w fun e w' => e = .returned (.bool r) ∧ Drawn0 w w' := by
  unfold path_Right.f at h
  by_cases c1 : (a0.size : Int) < 1
  · rw [if_pos c1] at h
    obtain rfl := Option.some.inj h
    have c1b := decide_eq_true c1
    have c1c : decide (a0.size < 1) = true := decide_eq_true (by omega)
    clear h c1
    go_enter Try.func15, Try.ntmps15
    go_wp2
    go_step3
    go_wp2
    first | go_ret | (rw [Exit.noGoto_ret]; go_ret)
    exact ⟨rfl, by repeat (first | exact Drawn0.refl _ | apply Drawn0.step)⟩
  · rw [if_neg c1] at h
    by_cases c2 : (a0.size : Int) > 40
    · rw [if_pos c2] at h
      obtain rfl := Option.some.inj h
      have c1b := decide_eq_false c1
      have c1c : decide (a0.size < 1) = false := decide_eq_false (by omega)
      have c2b : decide (40 < (a0.size : Int)) = true := decide_eq_true c2
      have c2c : decide (40 < a0.size) = true := decide_eq_true (by omega)
      clear h c1 c2
      go_enter Try.func15, Try.ntmps15
      go_wp2
      go_step3
      go_wp2
      first | go_ret | (rw [Exit.noGoto_ret]; go_ret)
      exact ⟨rfl, by repeat (first | exact Drawn0.refl _ | apply Drawn0.step)⟩
    · rw [if_neg c2] at h
      have c1b := decide_eq_false c1
      have c1c : decide (a0.size < 1) = false := decide_eq_false (by omega)
      have c2b : decide (40 < (a0.size : Int)) = false := decide_eq_false c2
      have c2c : decide (40 < a0.size) = false := decide_eq_false (by omega)
      have HA := Aside0.mk h
      have HS : Aside0 (a0.size ≤ 40) := ⟨by omega⟩
      clear h c1 c2
      go_enter Try.func15, Try.ntmps15
      go_wp2
      refine wp_scope_jumps 0 (fun a' w' => ∃ (x3 : ByteArray) (gk : Nat) (u4 u5 u6 u7 u8 u9 u10 u11 u12 u13 u14 u15 u16 u17 u18 u19 u20 u21 u22 u23 u24 u25 u26 u27 u28 u29 u30 u31 u32 u33 u34 u35 u36 : Value), a' = { tmps := #[.string a0, undef, .bool false, .string x3, u4, u5, u6, u7, u8, u9, u10, u11, u12, u13, u14, u15, u16, u17, u18, u19, u20, u21, u22, u23, u24, u25, u26, u27, u28, u29, u30, u31, u32, u33, u34, u35, u36], defers := [] } ∧ Aside0 (path_Right.l0 gk x3 = some r) ∧ Aside0 (x3.size ≤ 40) ∧ Drawn0 w w') (fun a' _ => path_Right.sz (a'.tmps.getD 3 undef)) rfl ?_ ?_
      · go_wp2
        go_step3
        obtain ⟨gk, hgk⟩ : ∃ gk : Nat, gk = k := ⟨k, rfl⟩
        subst hgk
        rcases path_Right.round gk a0 r HS.out HA.out with ⟨g, u, v, m, AC0, ⟨c1, rfl⟩ | ⟨c1, c2, rfl⟩ | ⟨c1, c2, c3, rfl⟩ | ⟨c1, c2, c3, AS0, rfl⟩ | ⟨c1, c2, c3, AS0, rfl, HL, hlt⟩ | ⟨c1, c2, c3, AS0, rfl, rfl⟩⟩
        · have AC := Aside0.mk AC0
          clear AC0 HA
          have c1a : (u.toList == ([] : List UInt8)) = true := beq_iff_eq.mpr c1
          have c1b : (u.toList != ([] : List UInt8)) = false := bne_eq_false_iff_eq.mpr c1
          clear c1
          go_wp2_with (first | (go_at_call 27; (with_reducible refine (strings_Cut.calls a0 (⟨#[47]⟩ : ByteArray) u v m _ AC.out).mono ?_); rintro e w' ⟨rfl, ⟨nd, rfl⟩⟩))
          simp only [Exit.jump]
          go_ret
          exact ⟨rfl, by repeat (first | exact Drawn0.refl _ | apply Drawn0.step)⟩
        · have AC := Aside0.mk AC0
          clear AC0 HA
          have c1a : (u.toList == ([] : List UInt8)) = false := beq_eq_false_iff_ne.mpr c1
          have c1b : (u.toList != ([] : List UInt8)) = true := bne_iff_ne.mpr c1
          clear c1
          have c2a : (u.toList == ([46] : List UInt8)) = true := beq_iff_eq.mpr c2
          have c2b : (u.toList != ([46] : List UInt8)) = false := bne_eq_false_iff_eq.mpr c2
          clear c2
          go_wp2_with (first | (go_at_call 27; (with_reducible refine (strings_Cut.calls a0 (⟨#[47]⟩ : ByteArray) u v m _ AC.out).mono ?_); rintro e w' ⟨rfl, ⟨nd, rfl⟩⟩))
          simp only [Exit.jump]
          go_ret
          exact ⟨rfl, by repeat (first | exact Drawn0.refl _ | apply Drawn0.step)⟩
        · have AC := Aside0.mk AC0
          clear AC0 HA
          have c1a : (u.toList == ([] : List UInt8)) = false := beq_eq_false_iff_ne.mpr c1
          have c1b : (u.toList != ([] : List UInt8)) = true := bne_iff_ne.mpr c1
          clear c1
          have c2a : (u.toList == ([46] : List UInt8)) = false := beq_eq_false_iff_ne.mpr c2
          have c2b : (u.toList != ([46] : List UInt8)) = true := bne_iff_ne.mpr c2
          clear c2
          have c3a : (u.toList == ([46, 46] : List UInt8)) = true := beq_iff_eq.mpr c3
          have c3b : (u.toList != ([46, 46] : List UInt8)) = false := bne_eq_false_iff_eq.mpr c3
          clear c3
          go_wp2_with (first | (go_at_call 27; (with_reducible refine (strings_Cut.calls a0 (⟨#[47]⟩ : ByteArray) u v m _ AC.out).mono ?_); rintro e w' ⟨rfl, ⟨nd, rfl⟩⟩))
          simp only [Exit.jump]
          go_ret
          exact ⟨rfl, by repeat (first | exact Drawn0.refl _ | apply Drawn0.step)⟩
        · have AC := Aside0.mk AC0
          clear AC0 HA
          have AS := Aside0.mk AS0
          clear AS0
          have c1a : (u.toList == ([] : List UInt8)) = false := beq_eq_false_iff_ne.mpr c1
          have c1b : (u.toList != ([] : List UInt8)) = true := bne_iff_ne.mpr c1
          clear c1
          have c2a : (u.toList == ([46] : List UInt8)) = false := beq_eq_false_iff_ne.mpr c2
          have c2b : (u.toList != ([46] : List UInt8)) = true := bne_iff_ne.mpr c2
          clear c2
          have c3a : (u.toList == ([46, 46] : List UInt8)) = false := beq_eq_false_iff_ne.mpr c3
          have c3b : (u.toList != ([46, 46] : List UInt8)) = true := bne_iff_ne.mpr c3
          clear c3
          go_wp2_with (first | (go_at_call 27; (with_reducible refine (strings_Cut.calls a0 (⟨#[47]⟩ : ByteArray) u v m _ AC.out).mono ?_); rintro e w' ⟨rfl, ⟨nd, rfl⟩⟩) | (go_at_call 28; (with_reducible refine (path_signs.calls g u false _ AS.out).mono ?_); rintro e w' ⟨rfl, ⟨nd, rfl⟩⟩))
          simp only [Exit.jump]
          go_ret
          exact ⟨rfl, by repeat (first | exact Drawn0.refl _ | apply Drawn0.step)⟩
        · have AC := Aside0.mk AC0
          clear AC0 HA
          have AS := Aside0.mk AS0
          clear AS0
          have HLa := Aside0.mk HL
          have hla := Aside0.mk hlt
          clear HL hlt
          have c1a : (u.toList == ([] : List UInt8)) = false := beq_eq_false_iff_ne.mpr c1
          have c1b : (u.toList != ([] : List UInt8)) = true := bne_iff_ne.mpr c1
          clear c1
          have c2a : (u.toList == ([46] : List UInt8)) = false := beq_eq_false_iff_ne.mpr c2
          have c2b : (u.toList != ([46] : List UInt8)) = true := bne_iff_ne.mpr c2
          clear c2
          have c3a : (u.toList == ([46, 46] : List UInt8)) = false := beq_eq_false_iff_ne.mpr c3
          have c3b : (u.toList != ([46, 46] : List UInt8)) = true := bne_iff_ne.mpr c3
          clear c3
          go_wp2_with (first | (go_at_call 27; (with_reducible refine (strings_Cut.calls a0 (⟨#[47]⟩ : ByteArray) u v true _ AC.out).mono ?_); rintro e w' ⟨rfl, ⟨nd, rfl⟩⟩) | (go_at_call 28; (with_reducible refine (path_signs.calls g u true _ AS.out).mono ?_); rintro e w' ⟨rfl, ⟨nd, rfl⟩⟩))
          have HL := HLa.out
          have hlt := hla.out
          go_step3
          exact ⟨rfl, v, g, _, _, _, _, _, _, _, _, _, _, _, _, _, _, _, _, _, _, _, _, _, _, _, _, _, _, _, _, _, _, _, _, _, rfl, ⟨HL⟩, ⟨by have := HS.out; omega⟩, by repeat (first | exact Drawn0.refl _ | apply Drawn0.step)⟩
        · have AC := Aside0.mk AC0
          clear AC0 HA
          have AS := Aside0.mk AS0
          clear AS0
          have c1a : (u.toList == ([] : List UInt8)) = false := beq_eq_false_iff_ne.mpr c1
          have c1b : (u.toList != ([] : List UInt8)) = true := bne_iff_ne.mpr c1
          clear c1
          have c2a : (u.toList == ([46] : List UInt8)) = false := beq_eq_false_iff_ne.mpr c2
          have c2b : (u.toList != ([46] : List UInt8)) = true := bne_iff_ne.mpr c2
          clear c2
          have c3a : (u.toList == ([46, 46] : List UInt8)) = false := beq_eq_false_iff_ne.mpr c3
          have c3b : (u.toList != ([46, 46] : List UInt8)) = true := bne_iff_ne.mpr c3
          clear c3
          go_wp2_with (first | (go_at_call 27; (with_reducible refine (strings_Cut.calls a0 (⟨#[47]⟩ : ByteArray) u v false _ AC.out).mono ?_); rintro e w' ⟨rfl, ⟨nd, rfl⟩⟩) | (go_at_call 28; (with_reducible refine (path_signs.calls g u true _ AS.out).mono ?_); rintro e w' ⟨rfl, ⟨nd, rfl⟩⟩))
          simp only [Exit.jump]
          go_ret
          exact ⟨rfl, by repeat (first | exact Drawn0.refl _ | apply Drawn0.step)⟩
      · rintro a' w' ⟨x3, gk, u4, u5, u6, u7, u8, u9, u10, u11, u12, u13, u14, u15, u16, u17, u18, u19, u20, u21, u22, u23, u24, u25, u26, u27, u28, u29, u30, u31, u32, u33, u34, u35, u36, rfl, HA, HS, ⟨m1, rfl⟩⟩
        rcases path_Right.round gk x3 r HS.out HA.out with ⟨g, u, v, m, AC0, ⟨c1, rfl⟩ | ⟨c1, c2, rfl⟩ | ⟨c1, c2, c3, rfl⟩ | ⟨c1, c2, c3, AS0, rfl⟩ | ⟨c1, c2, c3, AS0, rfl, HL, hlt⟩ | ⟨c1, c2, c3, AS0, rfl, rfl⟩⟩
        · have AC := Aside0.mk AC0
          clear AC0 HA
          have c1a : (u.toList == ([] : List UInt8)) = true := beq_iff_eq.mpr c1
          have c1b : (u.toList != ([] : List UInt8)) = false := bne_eq_false_iff_eq.mpr c1
          clear c1
          go_wp2_with (first | (go_at_call 27; (with_reducible refine (strings_Cut.calls x3 (⟨#[47]⟩ : ByteArray) u v m _ AC.out).mono ?_); rintro e w' ⟨rfl, ⟨nd, rfl⟩⟩))
          simp only [Exit.jump]
          go_ret
          exact ⟨rfl, by repeat (first | exact Drawn0.refl _ | apply Drawn0.step)⟩
        · have AC := Aside0.mk AC0
          clear AC0 HA
          have c1a : (u.toList == ([] : List UInt8)) = false := beq_eq_false_iff_ne.mpr c1
          have c1b : (u.toList != ([] : List UInt8)) = true := bne_iff_ne.mpr c1
          clear c1
          have c2a : (u.toList == ([46] : List UInt8)) = true := beq_iff_eq.mpr c2
          have c2b : (u.toList != ([46] : List UInt8)) = false := bne_eq_false_iff_eq.mpr c2
          clear c2
          go_wp2_with (first | (go_at_call 27; (with_reducible refine (strings_Cut.calls x3 (⟨#[47]⟩ : ByteArray) u v m _ AC.out).mono ?_); rintro e w' ⟨rfl, ⟨nd, rfl⟩⟩))
          simp only [Exit.jump]
          go_ret
          exact ⟨rfl, by repeat (first | exact Drawn0.refl _ | apply Drawn0.step)⟩
        · have AC := Aside0.mk AC0
          clear AC0 HA
          have c1a : (u.toList == ([] : List UInt8)) = false := beq_eq_false_iff_ne.mpr c1
          have c1b : (u.toList != ([] : List UInt8)) = true := bne_iff_ne.mpr c1
          clear c1
          have c2a : (u.toList == ([46] : List UInt8)) = false := beq_eq_false_iff_ne.mpr c2
          have c2b : (u.toList != ([46] : List UInt8)) = true := bne_iff_ne.mpr c2
          clear c2
          have c3a : (u.toList == ([46, 46] : List UInt8)) = true := beq_iff_eq.mpr c3
          have c3b : (u.toList != ([46, 46] : List UInt8)) = false := bne_eq_false_iff_eq.mpr c3
          clear c3
          go_wp2_with (first | (go_at_call 27; (with_reducible refine (strings_Cut.calls x3 (⟨#[47]⟩ : ByteArray) u v m _ AC.out).mono ?_); rintro e w' ⟨rfl, ⟨nd, rfl⟩⟩))
          simp only [Exit.jump]
          go_ret
          exact ⟨rfl, by repeat (first | exact Drawn0.refl _ | apply Drawn0.step)⟩
        · have AC := Aside0.mk AC0
          clear AC0 HA
          have AS := Aside0.mk AS0
          clear AS0
          have c1a : (u.toList == ([] : List UInt8)) = false := beq_eq_false_iff_ne.mpr c1
          have c1b : (u.toList != ([] : List UInt8)) = true := bne_iff_ne.mpr c1
          clear c1
          have c2a : (u.toList == ([46] : List UInt8)) = false := beq_eq_false_iff_ne.mpr c2
          have c2b : (u.toList != ([46] : List UInt8)) = true := bne_iff_ne.mpr c2
          clear c2
          have c3a : (u.toList == ([46, 46] : List UInt8)) = false := beq_eq_false_iff_ne.mpr c3
          have c3b : (u.toList != ([46, 46] : List UInt8)) = true := bne_iff_ne.mpr c3
          clear c3
          go_wp2_with (first | (go_at_call 27; (with_reducible refine (strings_Cut.calls x3 (⟨#[47]⟩ : ByteArray) u v m _ AC.out).mono ?_); rintro e w' ⟨rfl, ⟨nd, rfl⟩⟩) | (go_at_call 28; (with_reducible refine (path_signs.calls g u false _ AS.out).mono ?_); rintro e w' ⟨rfl, ⟨nd, rfl⟩⟩))
          simp only [Exit.jump]
          go_ret
          exact ⟨rfl, by repeat (first | exact Drawn0.refl _ | apply Drawn0.step)⟩
        · have AC := Aside0.mk AC0
          clear AC0 HA
          have AS := Aside0.mk AS0
          clear AS0
          have HLa := Aside0.mk HL
          have hla := Aside0.mk hlt
          clear HL hlt
          have c1a : (u.toList == ([] : List UInt8)) = false := beq_eq_false_iff_ne.mpr c1
          have c1b : (u.toList != ([] : List UInt8)) = true := bne_iff_ne.mpr c1
          clear c1
          have c2a : (u.toList == ([46] : List UInt8)) = false := beq_eq_false_iff_ne.mpr c2
          have c2b : (u.toList != ([46] : List UInt8)) = true := bne_iff_ne.mpr c2
          clear c2
          have c3a : (u.toList == ([46, 46] : List UInt8)) = false := beq_eq_false_iff_ne.mpr c3
          have c3b : (u.toList != ([46, 46] : List UInt8)) = true := bne_iff_ne.mpr c3
          clear c3
          go_wp2_with (first | (go_at_call 27; (with_reducible refine (strings_Cut.calls x3 (⟨#[47]⟩ : ByteArray) u v true _ AC.out).mono ?_); rintro e w' ⟨rfl, ⟨nd, rfl⟩⟩) | (go_at_call 28; (with_reducible refine (path_signs.calls g u true _ AS.out).mono ?_); rintro e w' ⟨rfl, ⟨nd, rfl⟩⟩))
          have HL := HLa.out
          have hlt := hla.out
          go_step3
          exact ⟨rfl, ⟨v, g, _, _, _, _, _, _, _, _, _, _, _, _, _, _, _, _, _, _, _, _, _, _, _, _, _, _, _, _, _, _, _, _, _, rfl, ⟨HL⟩, ⟨by have := HS.out; omega⟩, by repeat (first | exact Drawn0.refl _ | apply Drawn0.step)⟩, hlt⟩
        · have AC := Aside0.mk AC0
          clear AC0 HA
          have AS := Aside0.mk AS0
          clear AS0
          have c1a : (u.toList == ([] : List UInt8)) = false := beq_eq_false_iff_ne.mpr c1
          have c1b : (u.toList != ([] : List UInt8)) = true := bne_iff_ne.mpr c1
          clear c1
          have c2a : (u.toList == ([46] : List UInt8)) = false := beq_eq_false_iff_ne.mpr c2
          have c2b : (u.toList != ([46] : List UInt8)) = true := bne_iff_ne.mpr c2
          clear c2
          have c3a : (u.toList == ([46, 46] : List UInt8)) = false := beq_eq_false_iff_ne.mpr c3
          have c3b : (u.toList != ([46, 46] : List UInt8)) = true := bne_iff_ne.mpr c3
          clear c3
          go_wp2_with (first | (go_at_call 27; (with_reducible refine (strings_Cut.calls x3 (⟨#[47]⟩ : ByteArray) u v false _ AC.out).mono ?_); rintro e w' ⟨rfl, ⟨nd, rfl⟩⟩) | (go_at_call 28; (with_reducible refine (path_signs.calls g u true _ AS.out).mono ?_); rintro e w' ⟨rfl, ⟨nd, rfl⟩⟩))
          simp only [Exit.jump]
          go_ret
          exact ⟨rfl, by repeat (first | exact Drawn0.refl _ | apply Drawn0.step)⟩

end Go.Proofs.Ytelommablohfoaa.X
