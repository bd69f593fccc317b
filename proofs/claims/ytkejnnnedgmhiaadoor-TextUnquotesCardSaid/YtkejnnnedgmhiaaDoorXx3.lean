-- Laid by this session's own program (wip/xprint.py). Not trusted: Lean checks it.
import Derived.Test.YtkejnnnedgmhiaaDoorXx0
import Derived.Test.YtkejnnnedgmhiaaDoorXx2
namespace Go.Proofs.YtkejnnnedgmhiaaDoor.X
open Go.RowKit Go.Proofs.YtkejnnnedgmhiaaDoorW.PrintWords Go.Proofs.YtkejnnnedgmhiaaDoorW.PrintLast Go.Proofs.YtkejnnnedgmhiaaDoorW.PrintMore
attribute [local go_sem] max2_int min2_int max_two min_two max_three min_three max_four min_four   -- for this text's walks alone
set_option linter.unusedVariables false
set_option linter.unusedSimpArgs false

/-! ### text_Number: function 30 -/
mutual
def text_Number.j0 : Nat → ByteArray → Bool → Option (Int × Bool)
  | 0, _, _ => none
  | k + 1, x0, x23 => if x23 = true then (some (0, false)) else (text_Number.l0 k x0 0 (x0.size : Int) 0)
def text_Number.l0 : Nat → ByteArray → Int → Int → Int → Option (Int × Bool)
  | 0, _, _, _, _ => none
  | k + 1, x0, x4, x25, x26 => if x26 < x25 then (if 0 ≤ x26 then (if x26 < (x0.size : Int) then (if (bt x0 x26) < 48 then (some (0, false)) else (if (bt x0 x26) > 57 then (some (0, false)) else (text_Number.l0 k x0 (wrap64 ((wrap64 (10 * x4)) + (((bt x0 x26) - 48) % 256))) x25 (wrap64 (x26 + 1))))) else (none)) else (none)) else (some (x4, true))
end
def text_Number.f (k : Nat) (a0 : ByteArray) : Option (Int × Bool) := if (a0.size : Int) < 1 then (text_Number.j0 k a0 true) else (if (a0.size : Int) > 9 then (text_Number.j0 k a0 true) else (if (a0.size : Int) > 1 then (if 0 < (a0.size : Int) then (text_Number.j0 k a0 ((bt a0 0) == 48)) else (none)) else (text_Number.j0 k a0 false)))
theorem text_Number.mono_l : ∀ k, (∀ y0 y1, LeO (text_Number.j0 k y0 y1) (text_Number.j0 (k + 1) y0 y1)) ∧ (∀ y0 y1 y2 y3, LeO (text_Number.l0 k y0 y1 y2 y3) (text_Number.l0 (k + 1) y0 y1 y2 y3))
  | 0 => ⟨fun _ _ r h => by simp [text_Number.j0] at h, fun _ _ _ _ r h => by simp [text_Number.l0] at h⟩
  | k + 1 => by
    obtain ⟨ih0, ih1⟩ := text_Number.mono_l k
    refine ⟨?_, ?_⟩
    · intro y0 y1
      unfold text_Number.j0
      repeat' first
      | (with_reducible exact ih0 _ _)
      | (with_reducible exact ih1 _ _ _ _)
      | (with_reducible exact LeO.refl _)
      | (with_reducible exact LeO.none _)
      | (with_reducible refine LeO.ite ?_ ?_)
      | (with_reducible refine LeO.bind ?_ (fun _ => ?_))
      | exact ih0 _ _
      | exact ih1 _ _ _ _
      | exact LeO.none _
      | refine LeO.ite ?_ ?_
      | refine LeO.bind ?_ (fun _ => ?_)
    · intro y0 y1 y2 y3
      unfold text_Number.l0
      repeat' first
      | (with_reducible exact ih0 _ _)
      | (with_reducible exact ih1 _ _ _ _)
      | (with_reducible exact LeO.refl _)
      | (with_reducible exact LeO.none _)
      | (with_reducible refine LeO.ite ?_ ?_)
      | (with_reducible refine LeO.bind ?_ (fun _ => ?_))
      | exact ih0 _ _
      | exact ih1 _ _ _ _
      | exact LeO.none _
      | refine LeO.ite ?_ ?_
      | refine LeO.bind ?_ (fun _ => ?_)
theorem text_Number.mono : ∀ a0 k, LeO (text_Number.f k a0) (text_Number.f (k + 1) a0) := by
  intro a0 k
  obtain ⟨ih0, ih1⟩ := text_Number.mono_l k
  unfold text_Number.f
  repeat' first
      | (with_reducible exact ih0 _ _)
      | (with_reducible exact ih1 _ _ _ _)
      | (with_reducible exact LeO.refl _)
      | (with_reducible exact LeO.none _)
      | (with_reducible refine LeO.ite ?_ ?_)
      | (with_reducible refine LeO.bind ?_ (fun _ => ?_))
      | exact ih0 _ _
      | exact ih1 _ _ _ _
      | exact LeO.none _
      | refine LeO.ite ?_ ?_
      | refine LeO.bind ?_ (fun _ => ?_)
set_option maxHeartbeats 8000000 in
set_option maxRecDepth 100000 in
theorem text_Number.calls (k : Nat) (a0 : ByteArray) (r1 : Int) (r2 : Bool) (w : World) (h : text_Number.f k a0 = some (r1, r2)) :
    Calls Tryd.prog 30 #[.string a0] w fun e w' => e = .returned (.tuple #[.int .i64 r1, .bool r2]) ∧ Drawn0 w w' := by
  have H : (if (a0.size : Int) < 1 then (text_Number.j0 k a0 true) else (if (a0.size : Int) > 9 then (text_Number.j0 k a0 true) else (if (a0.size : Int) > 1 then (if 0 < (a0.size : Int) then (text_Number.j0 k a0 ((bt a0 0) == 48)) else (none)) else (text_Number.j0 k a0 false)))) = some (r1, r2) := h
  clear h
  have HC2 := Aside0.mk H
  clear H
  go_enter Tryd.func30, Tryd.ntmps30
  go_upto_region 1 with (fail)
  go_cut [23] (fun v23 wc => ∃ (kq : Nat) (x23_1 : Bool), v23 = .bool x23_1 ∧ Aside0 (text_Number.j0 kq a0 x23_1 = some (r1, r2)) ∧ Aside0 (kq ≤ k) ∧ Drawn0 w wc)
  case first =>
    have H := HC2.out
    clear HC2
    by_cases c3 : (a0.size : Int) < 1
    · rw [if_pos c3] at H
      have c3b0 : decide ((a0.size : Int) < 1) = true := decide_eq_true c3
      have c3b1 : decide (a0.size < 1) = true := decide_eq_true (by omega)
      clear c3
      (first | rw [c3b0] | (simp only [i64_w, i32_w]; rw [c3b0]) | skip)
      have H' := Aside0.mk H
      clear H
      go_wp2
      go_meet
      case rel => exact ⟨_, (true), (by first | rfl | (simp; done) | (simp [*]; done)), H', ⟨by first | omega | exact Nat.le_refl _⟩, by repeat (first | exact Drawn0.refl _ | apply Drawn0.step)⟩
    · rw [if_neg c3] at H
      have c3b0 : decide ((a0.size : Int) < 1) = false := decide_eq_false c3
      have c3b1 : decide (a0.size < 1) = false := decide_eq_false (by omega)
      clear c3
      (first | rw [c3b0] | (simp only [i64_w, i32_w]; rw [c3b0]) | skip)
      by_cases c4 : (a0.size : Int) > 9
      · rw [if_pos c4] at H
        have c4b0 : decide (9 < (a0.size : Int)) = true := decide_eq_true c4
        have c4b1 : decide (9 < a0.size) = true := decide_eq_true (by omega)
        clear c4
        have H' := Aside0.mk H
        clear H
        go_wp2
        go_meet
        case rel => exact ⟨_, (true), (by first | rfl | (simp; done) | (simp [*]; done)), H', ⟨by first | omega | exact Nat.le_refl _⟩, by repeat (first | exact Drawn0.refl _ | apply Drawn0.step)⟩
      · rw [if_neg c4] at H
        have c4b0 : decide (9 < (a0.size : Int)) = false := decide_eq_false c4
        have c4b1 : decide (9 < a0.size) = false := decide_eq_false (by omega)
        clear c4
        by_cases c5 : (a0.size : Int) > 1
        · rw [if_pos c5] at H
          have c5b0 : decide (1 < (a0.size : Int)) = true := decide_eq_true c5
          have c5b1 : decide (1 < a0.size) = true := decide_eq_true (by omega)
          clear c5
          by_cases c6 : 0 < (a0.size : Int)
          · rw [if_pos c6] at H
            have c6b0 : decide (0 < (a0.size : Int)) = true := decide_eq_true c6
            have c6b1 : decide (0 < a0.size) = true := decide_eq_true (by omega)
            clear c6
            have H' := Aside0.mk H
            clear H
            have p7 : 0 ≤ (0 : Int) := (by omega)
            have q7 : 0 < a0.size := (by have : (0 : Int) < (a0.size : Int) := of_decide_eq_true (by first | (with_reducible assumption) | assumption); omega)
            have hx7 : ∀ h : 0 < a0.size, ((a0[0]'h).toNat : Int) = bt a0 0 := bt_at a0 0
            clear p7
            have qi7 : (0 < (a0.size : Int)) = True := eq_true (of_decide_eq_true (by first | (with_reducible assumption) | assumption))
            replace q7 := eq_true q7
            go_wp2
            go_meet
            case rel => exact ⟨_, (((bt a0 0) == 48)), (by first | rfl | (simp; done) | (simp [*]; done)), H', ⟨by first | omega | exact Nat.le_refl _⟩, by repeat (first | exact Drawn0.refl _ | apply Drawn0.step)⟩
          · rw [if_neg c6] at H
            exact absurd H (by simp)
        · rw [if_neg c5] at H
          have c5b0 : decide (1 < (a0.size : Int)) = false := decide_eq_false c5
          have c5b1 : decide (1 < a0.size) = false := decide_eq_false (by omega)
          clear c5
          have H' := Aside0.mk H
          clear H
          go_wp2
          go_meet
          case rel => exact ⟨_, (false), (by first | rfl | (simp; done) | (simp [*]; done)), H', ⟨by first | omega | exact Nat.le_refl _⟩, by repeat (first | exact Drawn0.refl _ | apply Drawn0.step)⟩
  case rest =>
    clear HC2
    try clear p2
    try clear c3
    try clear c3b0
    try clear c3b1
    try clear c4
    try clear c4b0
    try clear c4b1
    try clear c5
    try clear c5b0
    try clear c5b1
    try clear c6
    try clear c6b0
    try clear c6b1
    try clear p7
    try clear q7
    try clear hx7
    try clear qi7
    try clear p7
    try clear q7
    obtain ⟨kq, x23_1, rfl, HA, HJ1, ⟨mc1, rfl⟩⟩ := hcut
    cases kq with
    | zero => exact absurd HA.out (by simp [text_Number.j0])
    | succ kj1 =>
      have H := HA.out
      clear HA
      simp only [text_Number.j0] at H
      by_cases c8 : x23_1 = true
      · subst c8
        have H1 : (some (0, false)) = some (r1, r2) := by rw [if_pos rfl] at H; exact H
        clear H
        have H := H1
        clear H1
        simp only [Option.some.injEq, Prod.mk.injEq] at H
        obtain ⟨rfl, rfl⟩ := H
        go_wp2
        go_ret2
        exact ⟨by first | rfl | (simp; done) | (simp [*]; done), by repeat (first | exact Drawn0.refl _ | apply Drawn0.step)⟩
      · replace c8 := Bool.eq_false_iff.mpr c8
        subst c8
        have H1 : (text_Number.l0 kj1 a0 0 (a0.size : Int) 0) = some (r1, r2) := by rw [if_neg (show ¬ (false = true) by decide)] at H; exact H
        clear H
        have H := H1
        clear H1
        have H' := Aside0.mk H
        clear H
        go_wp2
        go_loopg [4, 26] kj1 (fun kq v4 v26 w' => ∃ (x4_2 : Int) (x26_2 : Int), v4 = .int .i64 x4_2 ∧ v26 = .int .i64 x26_2 ∧ Aside0 (text_Number.l0 kq a0 x4_2 (a0.size : Int) x26_2 = some (r1, r2)) ∧ Aside0 (kq ≤ kj1) ∧ Drawn0 w w')
        case atStart => exact ⟨(0), (0), (by first | rfl | (simp; done) | (simp [*]; done)), (by first | rfl | (simp; done) | (simp [*]; done)), H', ⟨Nat.le_refl _⟩, by repeat (first | exact Drawn0.refl _ | apply Drawn0.step)⟩
        case round =>
          clear H'
          try clear c1
          try clear p2
          try clear c3
          try clear c3b0
          try clear c3b1
          try clear c4
          try clear c4b0
          try clear c4b1
          try clear c5
          try clear c5b0
          try clear c5b1
          try clear c6
          try clear c6b0
          try clear c6b1
          try clear p7
          try clear q7
          try clear hx7
          try clear qi7
          try clear c8
          try clear p2
          try clear p7
          try clear q7
          obtain ⟨x4_2, x26_2, rfl, rfl, HA, HK2, ⟨m2, rfl⟩⟩ := hrel
          cases gk with
          | zero => exact absurd HA.out (by simp [text_Number.l0])
          | succ k2 =>
            have H := HA.out
            clear HA
            simp only [text_Number.l0] at H
            by_cases c9 : x26_2 < (a0.size : Int)
            · rw [if_pos c9] at H
              have c9b0 : decide (x26_2 < (a0.size : Int)) = true := decide_eq_true c9
              clear c9
              by_cases c10 : 0 ≤ x26_2
              · rw [if_pos c10] at H
                have c10b0 : decide (0 ≤ x26_2) = true := decide_eq_true c10
                clear c10
                by_cases c11 : x26_2 < (a0.size : Int)
                · rw [if_pos c11] at H
                  have c11b0 : decide (x26_2 < (a0.size : Int)) = true := decide_eq_true c11
                  clear c11
                  by_cases c13 : (bt a0 x26_2) < 48
                  · rw [if_pos c13] at H
                    have c13b0 : decide ((bt a0 x26_2) < 48) = true := decide_eq_true c13
                    clear c13
                    simp only [Option.some.injEq, Prod.mk.injEq] at H
                    obtain ⟨rfl, rfl⟩ := H
                    have p12 : 0 ≤ (x26_2 : Int) := of_decide_eq_true (by first | (with_reducible assumption) | assumption)
                    have q12 : x26_2 < (a0.size : Int) := of_decide_eq_true (by first | (with_reducible assumption) | assumption)
                    have hx12 := bt_at a0 x26_2
                    replace p12 := eq_true p12
                    replace q12 := eq_true q12
                    go_wp2
                    go_ret2
                    exact ⟨by first | rfl | (simp; done) | (simp [*]; done), by repeat (first | exact Drawn0.refl _ | apply Drawn0.step)⟩
                  · rw [if_neg c13] at H
                    have c13b0 : decide ((bt a0 x26_2) < 48) = false := decide_eq_false c13
                    clear c13
                    by_cases c15 : (bt a0 x26_2) > 57
                    · rw [if_pos c15] at H
                      have c15b0 : decide (57 < (bt a0 x26_2)) = true := decide_eq_true c15
                      clear c15
                      simp only [Option.some.injEq, Prod.mk.injEq] at H
                      obtain ⟨rfl, rfl⟩ := H
                      have p12 : 0 ≤ (x26_2 : Int) := of_decide_eq_true (by first | (with_reducible assumption) | assumption)
                      have q12 : x26_2 < (a0.size : Int) := of_decide_eq_true (by first | (with_reducible assumption) | assumption)
                      have hx12 := bt_at a0 x26_2
                      replace p12 := eq_true p12
                      replace q12 := eq_true q12
                      have p14 : 0 ≤ (x26_2 : Int) := of_decide_eq_true (by first | (with_reducible assumption) | assumption)
                      have q14 : x26_2 < (a0.size : Int) := of_decide_eq_true (by first | (with_reducible assumption) | assumption)
                      have hx14 := bt_at a0 x26_2
                      replace p14 := eq_true p14
                      replace q14 := eq_true q14
                      go_wp2
                      go_ret2
                      exact ⟨by first | rfl | (simp; done) | (simp [*]; done), by repeat (first | exact Drawn0.refl _ | apply Drawn0.step)⟩
                    · rw [if_neg c15] at H
                      have c15b0 : decide (57 < (bt a0 x26_2)) = false := decide_eq_false c15
                      clear c15
                      have H' := Aside0.mk H
                      clear H
                      have p12 : 0 ≤ (x26_2 : Int) := of_decide_eq_true (by first | (with_reducible assumption) | assumption)
                      have q12 : x26_2 < (a0.size : Int) := of_decide_eq_true (by first | (with_reducible assumption) | assumption)
                      have hx12 := bt_at a0 x26_2
                      replace p12 := eq_true p12
                      replace q12 := eq_true q12
                      have p14 : 0 ≤ (x26_2 : Int) := of_decide_eq_true (by first | (with_reducible assumption) | assumption)
                      have q14 : x26_2 < (a0.size : Int) := of_decide_eq_true (by first | (with_reducible assumption) | assumption)
                      have hx14 := bt_at a0 x26_2
                      replace p14 := eq_true p14
                      replace q14 := eq_true q14
                      have p16 : 0 ≤ (x26_2 : Int) := of_decide_eq_true (by first | (with_reducible assumption) | assumption)
                      have q16 : x26_2 < (a0.size : Int) := of_decide_eq_true (by first | (with_reducible assumption) | assumption)
                      have hx16 := bt_at a0 x26_2
                      replace p16 := eq_true p16
                      replace q16 := eq_true q16
                      go_wp2
                      go_roundg k2
                      case measure => have := HJ1.out; have := HK2.out; omega
                      case rel => exact ⟨(wrap64 ((wrap64 (10 * x4_2)) + (((bt a0 x26_2) - 48) % 256))), (wrap64 (x26_2 + 1)), (by first | rfl | (simp; done) | (simp [*]; done)), (by first | rfl | (simp; done) | (simp [*]; done)), H', ⟨by have := HJ1.out; have := HK2.out; omega⟩, by repeat (first | exact Drawn0.refl _ | apply Drawn0.step)⟩
                · rw [if_neg c11] at H
                  exact absurd H (by simp)
              · rw [if_neg c10] at H
                exact absurd H (by simp)
            · rw [if_neg c9] at H
              have c9b0 : decide (x26_2 < (a0.size : Int)) = false := decide_eq_false c9
              clear c9
              simp only [Option.some.injEq, Prod.mk.injEq] at H
              obtain ⟨rfl, rfl⟩ := H
              go_wp2
              go_ret2
              exact ⟨by first | rfl | (simp; done) | (simp [*]; done), by repeat (first | exact Drawn0.refl _ | apply Drawn0.step)⟩

/-! ### text_Quote: function 33 -/
def text_Quote.l0 : Nat → ByteArray → List Int → Int → Int → Option (ByteArray)
  | 0, _, _, _, _ => none
  | k + 1, x0, x3, x8, x9 => if x9 < x8 then (if 0 ≤ 4 then (if 4 ≤ 5 then (if 0 ≤ x9 then (if x9 < (x0.size : Int) then ((strings_IndexByte.f ((⟨#[34, 92, 10, 9, 47]⟩ : ByteArray).extract 0 4) (bt x0 x9)).bind fun t112 => (if t112 ≥ 0 then (if 0 ≤ t112 then (if t112 < 5 then ((some (([92, bt (⟨#[34, 92, 110, 116, 47]⟩ : ByteArray) t112] : List Int) : List Int)).bind fun y113 => (if x3.length + y113.length < 140737488355328 then (text_Quote.l0 k x0 (x3 ++ y113) x8 (wrap64 (x9 + 1))) else (none))) else (none)) else (none)) else (if x3.length < 140737488355328 then (text_Quote.l0 k x0 (x3 ++ [bt x0 x9]) x8 (wrap64 (x9 + 1))) else (none)))) else (none)) else (none)) else (none)) else (none)) else (if x3.length < 140737488355328 then (some (strOfNums (x3 ++ [34]))) else (none))
def text_Quote.f (k : Nat) (a0 : ByteArray) : Option (ByteArray) := text_Quote.l0 k a0 (([34] : List Int)) (a0.size : Int) 0
theorem text_Quote.mono_l : ∀ k, (∀ y0 y1 y2 y3, LeO (text_Quote.l0 k y0 y1 y2 y3) (text_Quote.l0 (k + 1) y0 y1 y2 y3))
  | 0 => fun _ _ _ _ r h => by simp [text_Quote.l0] at h
  | k + 1 => by
    have ih0 := text_Quote.mono_l k
    · intro y0 y1 y2 y3
      unfold text_Quote.l0
      repeat' first
      | (with_reducible exact ih0 _ _ _ _)
      | (with_reducible exact LeO.refl _)
      | (with_reducible exact LeO.none _)
      | (with_reducible refine LeO.ite ?_ ?_)
      | (with_reducible refine LeO.bind ?_ (fun _ => ?_))
      | exact ih0 _ _ _ _
      | exact LeO.none _
      | refine LeO.ite ?_ ?_
      | refine LeO.bind ?_ (fun _ => ?_)
theorem text_Quote.mono : ∀ a0 k, LeO (text_Quote.f k a0) (text_Quote.f (k + 1) a0) := by
  intro a0 k
  have ih0 := text_Quote.mono_l k
  unfold text_Quote.f
  repeat' first
      | (with_reducible exact ih0 _ _ _ _)
      | (with_reducible exact LeO.refl _)
      | (with_reducible exact LeO.none _)
      | (with_reducible refine LeO.ite ?_ ?_)
      | (with_reducible refine LeO.bind ?_ (fun _ => ?_))
      | exact ih0 _ _ _ _
      | exact LeO.none _
      | refine LeO.ite ?_ ?_
      | refine LeO.bind ?_ (fun _ => ?_)
set_option maxHeartbeats 8000000 in
set_option maxRecDepth 100000 in
theorem text_Quote.calls (k : Nat) (a0 : ByteArray) (r : ByteArray) (w : World) (h : text_Quote.f k a0 = some r) :
    Calls Tryd.prog 33 #[.string a0] w fun e w' => e = .returned (.string r) ∧ Below w.heap.size w w' := by
  have HB := Aside0.mk (Below.refl w.heap.size w)
  have H : (text_Quote.l0 k a0 (([34] : List Int)) (a0.size : Int) 0) = some r := h
  clear h
  obtain ⟨y109, hy109⟩ : ∃ y_ : List Int, y_ = (([34] : List Int)) := ⟨_, rfl⟩
  replace H : (text_Quote.l0 k a0 y109 (a0.size : Int) 0) = some r := by first | (rw [hy109]; with_reducible exact H) | (have H2_ := (Option.bind_some _ _).symm.trans H; rw [hy109]; with_reducible exact H2_) | (have H2_ := (Option.bind_some _ _).symm.trans H; with_reducible exact H2_) | with_reducible exact H | (rw [hy109]; exact H) | exact H
  have Ny109 := Aside0.mk hy109
  clear hy109
  have H' := Aside0.mk H
  clear H
  go_enter Tryd.func33, Tryd.ntmps33
  go_wp2_with (first | ((with_reducible refine gate_dst (N := 6) rfl ?_); refine Kd.R_lit (Kd.int .u8) _ 5 ?hg (N := 6) ?hd (xs := ([34] : List Int)) (inner := [.int .u8 34]) (ok := fun _ => True) (okp := fun _ => True) ?hr ?hp (fun _ hk => hk) trivial (Below.refl _ _) (Nat.le_refl _) (by simp) ?_; (case hd => rfl); (case hg => rfl); (case hr => first | (go_simp; done) | (go_simp; rfl)); (case hp => exact (Reps.one (show Kd.M (Kd.int .u8) _ _ _ 34 [.int .u8 34] from rfl) (Reps.none _ _))); intro v110 w2 ho3 hb hg_ hnew_; clear hg_ hnew_; (first | rw [← Ny109.out] at ho3 | (simp only [Int.reduceToNat] at ho3; rw [← Ny109.out] at ho3)); have n0_ := Aside0.mk (Kd.R_lower ho3 (below_size (by repeat (first | (with_reducible first | exact HB.out | apply below_alloc | apply pw_below_drewN | apply below_drew1) | exact HB.out)))); have n1_ := Aside0.mk (below_step (by repeat (first | (with_reducible first | exact HB.out | apply below_alloc | apply pw_below_drewN | apply below_drew1) | exact HB.out)) hb); clear HB; have HO111 := n0_; have HB := n1_; clear n0_ n1_; clear hb ho3))
  repeat (go_quiet (first | ((with_reducible refine gate_dst (N := 6) rfl ?_); refine Kd.R_lit (Kd.int .u8) _ 5 ?hg (N := 6) ?hd (xs := ([34] : List Int)) (inner := [.int .u8 34]) (ok := fun _ => True) (okp := fun _ => True) ?hr ?hp (fun _ hk => hk) trivial (Below.refl _ _) (Nat.le_refl _) (by simp) ?_; (case hd => rfl); (case hg => rfl); (case hr => first | (go_simp; done) | (go_simp; rfl)); (case hp => exact (Reps.one (show Kd.M (Kd.int .u8) _ _ _ 34 [.int .u8 34] from rfl) (Reps.none _ _))); intro v110 w2 ho3 hb hg_ hnew_; clear hg_ hnew_; (first | rw [← Ny109.out] at ho3 | (simp only [Int.reduceToNat] at ho3; rw [← Ny109.out] at ho3)); have n0_ := Aside0.mk (Kd.R_lower ho3 (below_size (by repeat (first | (with_reducible first | exact HB.out | apply below_alloc | apply pw_below_drewN | apply below_drew1) | exact HB.out)))); have n1_ := Aside0.mk (below_step (by repeat (first | (with_reducible first | exact HB.out | apply below_alloc | apply pw_below_drewN | apply below_drew1) | exact HB.out)) hb); clear HB; have HO111 := n0_; have HB := n1_; clear n0_ n1_; clear hb ho3)); try go_wp2_with (first | ((with_reducible refine gate_dst (N := 6) rfl ?_); refine Kd.R_lit (Kd.int .u8) _ 5 ?hg (N := 6) ?hd (xs := ([34] : List Int)) (inner := [.int .u8 34]) (ok := fun _ => True) (okp := fun _ => True) ?hr ?hp (fun _ hk => hk) trivial (Below.refl _ _) (Nat.le_refl _) (by simp) ?_; (case hd => rfl); (case hg => rfl); (case hr => first | (go_simp; done) | (go_simp; rfl)); (case hp => exact (Reps.one (show Kd.M (Kd.int .u8) _ _ _ 34 [.int .u8 34] from rfl) (Reps.none _ _))); intro v110 w2 ho3 hb hg_ hnew_; clear hg_ hnew_; (first | rw [← Ny109.out] at ho3 | (simp only [Int.reduceToNat] at ho3; rw [← Ny109.out] at ho3)); have n0_ := Aside0.mk (Kd.R_lower ho3 (below_size (by repeat (first | (with_reducible first | exact HB.out | apply below_alloc | apply pw_below_drewN | apply below_drew1) | exact HB.out)))); have n1_ := Aside0.mk (below_step (by repeat (first | (with_reducible first | exact HB.out | apply below_alloc | apply pw_below_drewN | apply below_drew1) | exact HB.out)) hb); clear HB; have HO111 := n0_; have HB := n1_; clear n0_ n1_; clear hb ho3)))
  go_loopg [3, 9] k (fun kq v3 v9 w' => ∃ (x3_1 : List Int) (x9_1 : Int), v9 = .int .i64 x9_1 ∧ Aside0 (text_Quote.l0 kq a0 x3_1 (a0.size : Int) x9_1 = some r) ∧ Aside0 (kq ≤ k) ∧ Aside0 (Kd.R (Kd.int .u8) 5 w' w.heap.size (fun _ => True) v3 x3_1) ∧ Aside0 (Below w.heap.size w w'))
  case atStart => exact ⟨(y109), (0), (by first | rfl | (simp; done) | (simp [*]; done)), H', ⟨Nat.le_refl _⟩, ⟨by (with_reducible repeat (first | apply Kd.R_alloc | apply Kd.R_drewN | apply Kd.R_drew)); exact HO111.out⟩, ⟨by repeat (first | (with_reducible first | exact HB.out | apply below_alloc | apply pw_below_drewN | apply below_drew1) | exact HB.out)⟩⟩
  case round =>
    clear H'
    try clear p2
    try clear c3
    obtain ⟨x3_1, x9_1, rfl, HA, HK1, HO_3, HB⟩ := hrel
    cases gk with
    | zero => exact absurd HA.out (by simp [text_Quote.l0])
    | succ k1 =>
      have H := HA.out
      clear HA
      simp only [text_Quote.l0] at H
      by_cases c4 : x9_1 < (a0.size : Int)
      · rw [if_pos c4] at H
        have c4b0 : decide (x9_1 < (a0.size : Int)) = true := decide_eq_true c4
        clear c4
        by_cases c5 : 0 ≤ 4
        · rw [if_pos c5] at H
          have c5b0 := eq_true c5
          have c5b1 : decide (0 ≤ 4) = true := decide_eq_true c5
          clear c5
          by_cases c6 : 4 ≤ 5
          · rw [if_pos c6] at H
            have c6b0 := eq_true c6
            have c6b1 : decide (4 ≤ 5) = true := decide_eq_true c6
            clear c6
            by_cases c7 : 0 ≤ x9_1
            · rw [if_pos c7] at H
              have c7b0 : decide (0 ≤ x9_1) = true := decide_eq_true c7
              clear c7
              by_cases c8 : x9_1 < (a0.size : Int)
              · rw [if_pos c8] at H
                have c8b0 : decide (x9_1 < (a0.size : Int)) = true := decide_eq_true c8
                clear c8
                replace H := Option.bind_eq_some_iff.mp H
                obtain ⟨t112, A100, H⟩ := H
                replace H : (if t112 ≥ 0 then (if 0 ≤ t112 then (if t112 < 5 then ((some (([92, bt (⟨#[34, 92, 110, 116, 47]⟩ : ByteArray) t112] : List Int) : List Int)).bind fun y113 => (if x3_1.length + y113.length < 140737488355328 then (text_Quote.l0 k1 a0 (x3_1 ++ y113) (a0.size : Int) (wrap64 (x9_1 + 1))) else (none))) else (none)) else (none)) else (if x3_1.length < 140737488355328 then (text_Quote.l0 k1 a0 (x3_1 ++ [bt a0 x9_1]) (a0.size : Int) (wrap64 (x9_1 + 1))) else (none))) = some r := H
                have A10 := Aside0.mk A100
                clear A100
                by_cases c11 : t112 ≥ 0
                · rw [if_pos c11] at H
                  have c11b0 : decide (0 ≤ t112) = true := decide_eq_true c11
                  clear c11
                  by_cases c12 : 0 ≤ t112
                  · rw [if_pos c12] at H
                    have c12b0 : decide (0 ≤ t112) = true := decide_eq_true c12
                    clear c12
                    by_cases c13 : t112 < 5
                    · rw [if_pos c13] at H
                      have c13b0 : decide (t112 < 5) = true := decide_eq_true c13
                      clear c13
                      obtain ⟨y113, hy113⟩ : ∃ y_ : List Int, y_ = (([92, bt (⟨#[34, 92, 110, 116, 47]⟩ : ByteArray) t112] : List Int)) := ⟨_, rfl⟩
                      replace H : (if x3_1.length + y113.length < 140737488355328 then (text_Quote.l0 k1 a0 (x3_1 ++ y113) (a0.size : Int) (wrap64 (x9_1 + 1))) else (none)) = some r := by first | (rw [hy113]; with_reducible exact H) | (have H2_ := (Option.bind_some _ _).symm.trans H; rw [hy113]; with_reducible exact H2_) | (have H2_ := (Option.bind_some _ _).symm.trans H; with_reducible exact H2_) | with_reducible exact H | (rw [hy113]; exact H) | exact H
                      have Ny113 := Aside0.mk hy113
                      clear hy113
                      by_cases c15 : x3_1.length + y113.length < 140737488355328
                      · rw [if_pos c15] at H
                        have LMc15 := Aside0.mk c15
                        clear c15
                        obtain ⟨y116, hy116⟩ : ∃ y_ : List Int, y_ = (x3_1 ++ y113) := ⟨_, rfl⟩
                        replace H : (text_Quote.l0 k1 a0 y116 (a0.size : Int) (wrap64 (x9_1 + 1))) = some r := by first | (rw [hy116]; with_reducible exact H) | (have H2_ := (Option.bind_some _ _).symm.trans H; rw [hy116]; with_reducible exact H2_) | (have H2_ := (Option.bind_some _ _).symm.trans H; with_reducible exact H2_) | with_reducible exact H | (rw [hy116]; exact H) | exact H
                        have Ny116 := Aside0.mk hy116
                        clear hy116
                        have H' := Aside0.mk H
                        clear H
                        have p9 : 0 ≤ (x9_1 : Int) := of_decide_eq_true (by first | (with_reducible assumption) | assumption)
                        have q9 : x9_1 < (a0.size : Int) := of_decide_eq_true (by first | (with_reducible assumption) | assumption)
                        have hx9 := bt_at a0 x9_1
                        replace p9 := eq_true p9
                        replace q9 := eq_true q9
                        go_wp2_with (first | (go_at_call 46; (with_reducible refine (strings_IndexByte.calls ((⟨#[34, 92, 10, 9, 47]⟩ : ByteArray).extract 0 4) (bt a0 x9_1) t112 _ A10.out).mono ?_); rintro e w' ⟨rfl, ⟨nd, rfl⟩⟩; (try first | exact ⟨rfl, _, World.drewN_drewN _ _ _⟩ | exact ⟨rfl, _, Eq.trans (World.drewN_drewN _ _ _) (congrArg (World.drewN _) (Nat.add_assoc _ _ _))⟩); have p14 : 0 ≤ (t112 : Int) := of_decide_eq_true (by first | (with_reducible assumption) | assumption); have q14 : t112 < (5 : Int) := of_decide_eq_true (by first | (with_reducible assumption) | assumption); have hx14 := bt_at (⟨#[34, 92, 110, 116, 47]⟩ : ByteArray) t112; replace p14 := eq_true p14; replace q14 := eq_true q14) | ((with_reducible refine gate_dst (N := 22) rfl ?_); refine Kd.R_lit (Kd.int .u8) _ 5 ?hg (N := 22) ?hd (xs := ([92, bt (⟨#[34, 92, 110, 116, 47]⟩ : ByteArray) t112] : List Int)) (inner := [.int .u8 92, .int .u8 (bt (⟨#[34, 92, 110, 116, 47]⟩ : ByteArray) t112)]) (ok := fun _ => True) (okp := fun _ => True) ?hr ?hp (fun _ hk => hk) trivial (Below.refl _ _) (Nat.le_refl _) (by simp) ?_; (case hd => rfl); (case hg => rfl); (case hr => first | (go_simp; done) | (go_simp; rfl)); (case hp => exact (Reps.one (show Kd.M (Kd.int .u8) _ _ _ 92 [.int .u8 92] from rfl) (Reps.one (show Kd.M (Kd.int .u8) _ _ _ (bt (⟨#[34, 92, 110, 116, 47]⟩ : ByteArray) t112) [.int .u8 (bt (⟨#[34, 92, 110, 116, 47]⟩ : ByteArray) t112)] from rfl) (Reps.none _ _)))); intro v114 w16 ho17 hb hg_ hnew_; clear hg_ hnew_; (first | rw [← Ny113.out] at ho17 | (simp only [Int.reduceToNat] at ho17; rw [← Ny113.out] at ho17)); have n0_ := Aside0.mk (Kd.R_elder' (by (with_reducible repeat (first | apply Kd.R_alloc | apply Kd.R_drewN | apply Kd.R_drew)); exact HO_3.out) (Kd.R_base ho17) hb); have n1_ := Aside0.mk (Kd.R_lower (Kd.R_new' ho17 (Kd.R_lt (by (with_reducible repeat (first | apply Kd.R_alloc | apply Kd.R_drewN | apply Kd.R_drew)); exact HO_3.out))) (below_size (by repeat (first | (with_reducible first | exact HB.out | apply below_alloc | apply pw_below_drewN | apply below_drew1) | exact HB.out)))); have n2_ := Aside0.mk (below_step (by repeat (first | (with_reducible first | exact HB.out | apply below_alloc | apply pw_below_drewN | apply below_drew1) | exact HB.out)) hb); clear HO_3; clear HB; have HO_3 := n0_; have HO115 := n1_; have HB := n2_; clear n0_ n1_ n2_; clear hb ho17; obtain ⟨Ao19, co19, eo19⟩ := Kd.R_slice HO115.out; subst eo19) | ((with_reducible refine gate_builtin (b := .append) (xs := #[.tmp 19, .tmp 22]) rfl ?_); at_builtin; refine Kd.R_append_rows (Kd.int .u8) (w0 := w) w.heap.size rfl (.tmp 19) (.tmp 22) 22 5 (.int .u8 0) 1 rfl Tryd.underlying22 info5 rfl (by decide) (by omega) u3 x3_1 y113 _ _ _ (fun k_ => some k_ ≠ (.slice Ao19 y113.length co19 : Value).ownBlock) (fun _ => False) rfl rfl ?aO ?aR (fun _ _ h => h) (fun _ h => h.elim) ?aF ?aB ?aS ?aL ?_; (case aR => repeat (first | exact (Kd.R_reads' HO115.out).2.2 | (with_reducible refine Kd.C_alloc ?_ _) | (with_reducible refine Kd.C_drewN ?_ _) | (with_reducible refine Kd.C_drew ?_))); (case aB => exact (by repeat (first | (with_reducible first | exact HB.out | apply below_alloc | apply pw_below_drewN | apply below_drew1) | exact HB.out))); (case aF => exact (fun k_ hk => Kd.fresh' (Kd.R_lt (by (with_reducible repeat (first | apply Kd.R_alloc | apply Kd.R_drewN | apply Kd.R_drew)); exact HO115.out)) k_ hk)); (case aO => exact (by (with_reducible repeat (first | apply Kd.R_alloc | apply Kd.R_drewN | apply Kd.R_drew)); exact Kd.R_mono HO_3.out (fun _ hk => hk.2))); (case aS => exact (below_size (by repeat (first | (with_reducible first | exact HB.out | apply below_alloc | apply pw_below_drewN | apply below_drew1) | exact HB.out)))); (case aL => have := LMc15.out; omega); intro v117 w18 ho hb hg hat; rw [← Ny116.out] at ho; have n0_ := Aside0.mk (Kd.R_after (ok := (fun _ => True)) (by (with_reducible repeat (first | apply Kd.R_alloc | apply Kd.R_drewN | apply Kd.R_drew)); exact HO115.out) hg hat); have n1_ := Aside0.mk (hb); have n2_ := Aside0.mk (ho); clear HO115; clear HB; clear HO_3; have HO115 := n0_; have HB := n1_; have HO118 := n2_; clear n0_ n1_ n2_; clear ho hb hg hat))
                        repeat (go_quiet (first | (go_at_call 46; (with_reducible refine (strings_IndexByte.calls ((⟨#[34, 92, 10, 9, 47]⟩ : ByteArray).extract 0 4) (bt a0 x9_1) t112 _ A10.out).mono ?_); rintro e w' ⟨rfl, ⟨nd, rfl⟩⟩; (try first | exact ⟨rfl, _, World.drewN_drewN _ _ _⟩ | exact ⟨rfl, _, Eq.trans (World.drewN_drewN _ _ _) (congrArg (World.drewN _) (Nat.add_assoc _ _ _))⟩); have p14 : 0 ≤ (t112 : Int) := of_decide_eq_true (by first | (with_reducible assumption) | assumption); have q14 : t112 < (5 : Int) := of_decide_eq_true (by first | (with_reducible assumption) | assumption); have hx14 := bt_at (⟨#[34, 92, 110, 116, 47]⟩ : ByteArray) t112; replace p14 := eq_true p14; replace q14 := eq_true q14) | ((with_reducible refine gate_dst (N := 22) rfl ?_); refine Kd.R_lit (Kd.int .u8) _ 5 ?hg (N := 22) ?hd (xs := ([92, bt (⟨#[34, 92, 110, 116, 47]⟩ : ByteArray) t112] : List Int)) (inner := [.int .u8 92, .int .u8 (bt (⟨#[34, 92, 110, 116, 47]⟩ : ByteArray) t112)]) (ok := fun _ => True) (okp := fun _ => True) ?hr ?hp (fun _ hk => hk) trivial (Below.refl _ _) (Nat.le_refl _) (by simp) ?_; (case hd => rfl); (case hg => rfl); (case hr => first | (go_simp; done) | (go_simp; rfl)); (case hp => exact (Reps.one (show Kd.M (Kd.int .u8) _ _ _ 92 [.int .u8 92] from rfl) (Reps.one (show Kd.M (Kd.int .u8) _ _ _ (bt (⟨#[34, 92, 110, 116, 47]⟩ : ByteArray) t112) [.int .u8 (bt (⟨#[34, 92, 110, 116, 47]⟩ : ByteArray) t112)] from rfl) (Reps.none _ _)))); intro v114 w16 ho17 hb hg_ hnew_; clear hg_ hnew_; (first | rw [← Ny113.out] at ho17 | (simp only [Int.reduceToNat] at ho17; rw [← Ny113.out] at ho17)); have n0_ := Aside0.mk (Kd.R_elder' (by (with_reducible repeat (first | apply Kd.R_alloc | apply Kd.R_drewN | apply Kd.R_drew)); exact HO_3.out) (Kd.R_base ho17) hb); have n1_ := Aside0.mk (Kd.R_lower (Kd.R_new' ho17 (Kd.R_lt (by (with_reducible repeat (first | apply Kd.R_alloc | apply Kd.R_drewN | apply Kd.R_drew)); exact HO_3.out))) (below_size (by repeat (first | (with_reducible first | exact HB.out | apply below_alloc | apply pw_below_drewN | apply below_drew1) | exact HB.out)))); have n2_ := Aside0.mk (below_step (by repeat (first | (with_reducible first | exact HB.out | apply below_alloc | apply pw_below_drewN | apply below_drew1) | exact HB.out)) hb); clear HO_3; clear HB; have HO_3 := n0_; have HO115 := n1_; have HB := n2_; clear n0_ n1_ n2_; clear hb ho17; obtain ⟨Ao19, co19, eo19⟩ := Kd.R_slice HO115.out; subst eo19) | ((with_reducible refine gate_builtin (b := .append) (xs := #[.tmp 19, .tmp 22]) rfl ?_); at_builtin; refine Kd.R_append_rows (Kd.int .u8) (w0 := w) w.heap.size rfl (.tmp 19) (.tmp 22) 22 5 (.int .u8 0) 1 rfl Tryd.underlying22 info5 rfl (by decide) (by omega) u3 x3_1 y113 _ _ _ (fun k_ => some k_ ≠ (.slice Ao19 y113.length co19 : Value).ownBlock) (fun _ => False) rfl rfl ?aO ?aR (fun _ _ h => h) (fun _ h => h.elim) ?aF ?aB ?aS ?aL ?_; (case aR => repeat (first | exact (Kd.R_reads' HO115.out).2.2 | (with_reducible refine Kd.C_alloc ?_ _) | (with_reducible refine Kd.C_drewN ?_ _) | (with_reducible refine Kd.C_drew ?_))); (case aB => exact (by repeat (first | (with_reducible first | exact HB.out | apply below_alloc | apply pw_below_drewN | apply below_drew1) | exact HB.out))); (case aF => exact (fun k_ hk => Kd.fresh' (Kd.R_lt (by (with_reducible repeat (first | apply Kd.R_alloc | apply Kd.R_drewN | apply Kd.R_drew)); exact HO115.out)) k_ hk)); (case aO => exact (by (with_reducible repeat (first | apply Kd.R_alloc | apply Kd.R_drewN | apply Kd.R_drew)); exact Kd.R_mono HO_3.out (fun _ hk => hk.2))); (case aS => exact (below_size (by repeat (first | (with_reducible first | exact HB.out | apply below_alloc | apply pw_below_drewN | apply below_drew1) | exact HB.out)))); (case aL => have := LMc15.out; omega); intro v117 w18 ho hb hg hat; rw [← Ny116.out] at ho; have n0_ := Aside0.mk (Kd.R_after (ok := (fun _ => True)) (by (with_reducible repeat (first | apply Kd.R_alloc | apply Kd.R_drewN | apply Kd.R_drew)); exact HO115.out) hg hat); have n1_ := Aside0.mk (hb); have n2_ := Aside0.mk (ho); clear HO115; clear HB; clear HO_3; have HO115 := n0_; have HB := n1_; have HO118 := n2_; clear n0_ n1_ n2_; clear ho hb hg hat)); try go_wp2_with (first | (go_at_call 46; (with_reducible refine (strings_IndexByte.calls ((⟨#[34, 92, 10, 9, 47]⟩ : ByteArray).extract 0 4) (bt a0 x9_1) t112 _ A10.out).mono ?_); rintro e w' ⟨rfl, ⟨nd, rfl⟩⟩; (try first | exact ⟨rfl, _, World.drewN_drewN _ _ _⟩ | exact ⟨rfl, _, Eq.trans (World.drewN_drewN _ _ _) (congrArg (World.drewN _) (Nat.add_assoc _ _ _))⟩); have p14 : 0 ≤ (t112 : Int) := of_decide_eq_true (by first | (with_reducible assumption) | assumption); have q14 : t112 < (5 : Int) := of_decide_eq_true (by first | (with_reducible assumption) | assumption); have hx14 := bt_at (⟨#[34, 92, 110, 116, 47]⟩ : ByteArray) t112; replace p14 := eq_true p14; replace q14 := eq_true q14) | ((with_reducible refine gate_dst (N := 22) rfl ?_); refine Kd.R_lit (Kd.int .u8) _ 5 ?hg (N := 22) ?hd (xs := ([92, bt (⟨#[34, 92, 110, 116, 47]⟩ : ByteArray) t112] : List Int)) (inner := [.int .u8 92, .int .u8 (bt (⟨#[34, 92, 110, 116, 47]⟩ : ByteArray) t112)]) (ok := fun _ => True) (okp := fun _ => True) ?hr ?hp (fun _ hk => hk) trivial (Below.refl _ _) (Nat.le_refl _) (by simp) ?_; (case hd => rfl); (case hg => rfl); (case hr => first | (go_simp; done) | (go_simp; rfl)); (case hp => exact (Reps.one (show Kd.M (Kd.int .u8) _ _ _ 92 [.int .u8 92] from rfl) (Reps.one (show Kd.M (Kd.int .u8) _ _ _ (bt (⟨#[34, 92, 110, 116, 47]⟩ : ByteArray) t112) [.int .u8 (bt (⟨#[34, 92, 110, 116, 47]⟩ : ByteArray) t112)] from rfl) (Reps.none _ _)))); intro v114 w16 ho17 hb hg_ hnew_; clear hg_ hnew_; (first | rw [← Ny113.out] at ho17 | (simp only [Int.reduceToNat] at ho17; rw [← Ny113.out] at ho17)); have n0_ := Aside0.mk (Kd.R_elder' (by (with_reducible repeat (first | apply Kd.R_alloc | apply Kd.R_drewN | apply Kd.R_drew)); exact HO_3.out) (Kd.R_base ho17) hb); have n1_ := Aside0.mk (Kd.R_lower (Kd.R_new' ho17 (Kd.R_lt (by (with_reducible repeat (first | apply Kd.R_alloc | apply Kd.R_drewN | apply Kd.R_drew)); exact HO_3.out))) (below_size (by repeat (first | (with_reducible first | exact HB.out | apply below_alloc | apply pw_below_drewN | apply below_drew1) | exact HB.out)))); have n2_ := Aside0.mk (below_step (by repeat (first | (with_reducible first | exact HB.out | apply below_alloc | apply pw_below_drewN | apply below_drew1) | exact HB.out)) hb); clear HO_3; clear HB; have HO_3 := n0_; have HO115 := n1_; have HB := n2_; clear n0_ n1_ n2_; clear hb ho17; obtain ⟨Ao19, co19, eo19⟩ := Kd.R_slice HO115.out; subst eo19) | ((with_reducible refine gate_builtin (b := .append) (xs := #[.tmp 19, .tmp 22]) rfl ?_); at_builtin; refine Kd.R_append_rows (Kd.int .u8) (w0 := w) w.heap.size rfl (.tmp 19) (.tmp 22) 22 5 (.int .u8 0) 1 rfl Tryd.underlying22 info5 rfl (by decide) (by omega) u3 x3_1 y113 _ _ _ (fun k_ => some k_ ≠ (.slice Ao19 y113.length co19 : Value).ownBlock) (fun _ => False) rfl rfl ?aO ?aR (fun _ _ h => h) (fun _ h => h.elim) ?aF ?aB ?aS ?aL ?_; (case aR => repeat (first | exact (Kd.R_reads' HO115.out).2.2 | (with_reducible refine Kd.C_alloc ?_ _) | (with_reducible refine Kd.C_drewN ?_ _) | (with_reducible refine Kd.C_drew ?_))); (case aB => exact (by repeat (first | (with_reducible first | exact HB.out | apply below_alloc | apply pw_below_drewN | apply below_drew1) | exact HB.out))); (case aF => exact (fun k_ hk => Kd.fresh' (Kd.R_lt (by (with_reducible repeat (first | apply Kd.R_alloc | apply Kd.R_drewN | apply Kd.R_drew)); exact HO115.out)) k_ hk)); (case aO => exact (by (with_reducible repeat (first | apply Kd.R_alloc | apply Kd.R_drewN | apply Kd.R_drew)); exact Kd.R_mono HO_3.out (fun _ hk => hk.2))); (case aS => exact (below_size (by repeat (first | (with_reducible first | exact HB.out | apply below_alloc | apply pw_below_drewN | apply below_drew1) | exact HB.out)))); (case aL => have := LMc15.out; omega); intro v117 w18 ho hb hg hat; rw [← Ny116.out] at ho; have n0_ := Aside0.mk (Kd.R_after (ok := (fun _ => True)) (by (with_reducible repeat (first | apply Kd.R_alloc | apply Kd.R_drewN | apply Kd.R_drew)); exact HO115.out) hg hat); have n1_ := Aside0.mk (hb); have n2_ := Aside0.mk (ho); clear HO115; clear HB; clear HO_3; have HO115 := n0_; have HB := n1_; have HO118 := n2_; clear n0_ n1_ n2_; clear ho hb hg hat)))
                        go_roundg k1
                        case measure => have := HK1.out; omega
                        case rel => exact ⟨(y116), (wrap64 (x9_1 + 1)), (by first | rfl | (simp; done) | (simp [*]; done)), H', ⟨by have := HK1.out; omega⟩, ⟨by (with_reducible repeat (first | apply Kd.R_alloc | apply Kd.R_drewN | apply Kd.R_drew)); exact Kd.R_mono HO118.out (fun _ hk => trivial)⟩, ⟨by repeat (first | (with_reducible first | exact HB.out | apply below_alloc | apply pw_below_drewN | apply below_drew1) | exact HB.out)⟩⟩
                      · rw [if_neg c15] at H
                        exact absurd H (by simp)
                    · rw [if_neg c13] at H
                      exact absurd H (by simp)
                  · rw [if_neg c12] at H
                    exact absurd H (by simp)
                · rw [if_neg c11] at H
                  have c11b0 : decide (0 ≤ t112) = false := decide_eq_false c11
                  clear c11
                  by_cases c21 : x3_1.length < 140737488355328
                  · rw [if_pos c21] at H
                    have LMc21 := Aside0.mk c21
                    clear c21
                    obtain ⟨y119, hy119⟩ : ∃ y_ : List Int, y_ = (x3_1 ++ [bt a0 x9_1]) := ⟨_, rfl⟩
                    replace H : (text_Quote.l0 k1 a0 y119 (a0.size : Int) (wrap64 (x9_1 + 1))) = some r := by first | (rw [hy119]; with_reducible exact H) | (have H2_ := (Option.bind_some _ _).symm.trans H; rw [hy119]; with_reducible exact H2_) | (have H2_ := (Option.bind_some _ _).symm.trans H; with_reducible exact H2_) | with_reducible exact H | (rw [hy119]; exact H) | exact H
                    have Ny119 := Aside0.mk hy119
                    clear hy119
                    have H' := Aside0.mk H
                    clear H
                    have p9 : 0 ≤ (x9_1 : Int) := of_decide_eq_true (by first | (with_reducible assumption) | assumption)
                    have q9 : x9_1 < (a0.size : Int) := of_decide_eq_true (by first | (with_reducible assumption) | assumption)
                    have hx9 := bt_at a0 x9_1
                    replace p9 := eq_true p9
                    replace q9 := eq_true q9
                    go_wp2_with (first | (go_at_call 46; (with_reducible refine (strings_IndexByte.calls ((⟨#[34, 92, 10, 9, 47]⟩ : ByteArray).extract 0 4) (bt a0 x9_1) t112 _ A10.out).mono ?_); rintro e w' ⟨rfl, ⟨nd, rfl⟩⟩; (try first | exact ⟨rfl, _, World.drewN_drewN _ _ _⟩ | exact ⟨rfl, _, Eq.trans (World.drewN_drewN _ _ _) (congrArg (World.drewN _) (Nat.add_assoc _ _ _))⟩); have p20 : 0 ≤ (x9_1 : Int) := of_decide_eq_true (by first | (with_reducible assumption) | assumption); have q20 : x9_1 < (a0.size : Int) := of_decide_eq_true (by first | (with_reducible assumption) | assumption); have hx20 := bt_at a0 x9_1; replace p20 := eq_true p20; replace q20 := eq_true q20) | ((with_reducible refine gate_builtin (b := .append) (xs := #[.tmp 24, .tmp 28]) rfl ?_); at_builtin; refine Kd.R_append (Kd.int .u8) (w0 := w) w.heap.size rfl (.tmp 24) (.tmp 28) 22 5 (.int .u8 0) 1 rfl Tryd.underlying22 info5 rfl (by decide) (by omega) u3 x3_1 (bt a0 x9_1) [.int .u8 (bt a0 x9_1)] (fun _ => True) (fun _ => False) rfl rfl ?aP (fun _ hk => hk.elim) ?aF ?aO ?aB ?aS ?aL ?_; (case aP => exact rfl); (case aB => exact (by repeat (first | (with_reducible first | exact HB.out | apply below_alloc | apply pw_below_drewN | apply below_drew1) | exact HB.out))); (case aF => exact (fun _ _ => trivial)); (case aO => exact (by (with_reducible repeat (first | apply Kd.R_alloc | apply Kd.R_drewN | apply Kd.R_drew)); exact HO_3.out)); (case aS => exact (below_size (by repeat (first | (with_reducible first | exact HB.out | apply below_alloc | apply pw_below_drewN | apply below_drew1) | exact HB.out)))); (case aL => have := LMc21.out; omega); intro v120 w22 ho hb hg hat; rw [← Ny119.out] at ho; have n0_ := Aside0.mk (hb); have n1_ := Aside0.mk (ho); clear HB; clear HO_3; have HB := n0_; have HO121 := n1_; clear n0_ n1_; clear ho hb hg hat))
                    repeat (go_quiet (first | (go_at_call 46; (with_reducible refine (strings_IndexByte.calls ((⟨#[34, 92, 10, 9, 47]⟩ : ByteArray).extract 0 4) (bt a0 x9_1) t112 _ A10.out).mono ?_); rintro e w' ⟨rfl, ⟨nd, rfl⟩⟩; (try first | exact ⟨rfl, _, World.drewN_drewN _ _ _⟩ | exact ⟨rfl, _, Eq.trans (World.drewN_drewN _ _ _) (congrArg (World.drewN _) (Nat.add_assoc _ _ _))⟩); have p20 : 0 ≤ (x9_1 : Int) := of_decide_eq_true (by first | (with_reducible assumption) | assumption); have q20 : x9_1 < (a0.size : Int) := of_decide_eq_true (by first | (with_reducible assumption) | assumption); have hx20 := bt_at a0 x9_1; replace p20 := eq_true p20; replace q20 := eq_true q20) | ((with_reducible refine gate_builtin (b := .append) (xs := #[.tmp 24, .tmp 28]) rfl ?_); at_builtin; refine Kd.R_append (Kd.int .u8) (w0 := w) w.heap.size rfl (.tmp 24) (.tmp 28) 22 5 (.int .u8 0) 1 rfl Tryd.underlying22 info5 rfl (by decide) (by omega) u3 x3_1 (bt a0 x9_1) [.int .u8 (bt a0 x9_1)] (fun _ => True) (fun _ => False) rfl rfl ?aP (fun _ hk => hk.elim) ?aF ?aO ?aB ?aS ?aL ?_; (case aP => exact rfl); (case aB => exact (by repeat (first | (with_reducible first | exact HB.out | apply below_alloc | apply pw_below_drewN | apply below_drew1) | exact HB.out))); (case aF => exact (fun _ _ => trivial)); (case aO => exact (by (with_reducible repeat (first | apply Kd.R_alloc | apply Kd.R_drewN | apply Kd.R_drew)); exact HO_3.out)); (case aS => exact (below_size (by repeat (first | (with_reducible first | exact HB.out | apply below_alloc | apply pw_below_drewN | apply below_drew1) | exact HB.out)))); (case aL => have := LMc21.out; omega); intro v120 w22 ho hb hg hat; rw [← Ny119.out] at ho; have n0_ := Aside0.mk (hb); have n1_ := Aside0.mk (ho); clear HB; clear HO_3; have HB := n0_; have HO121 := n1_; clear n0_ n1_; clear ho hb hg hat)); try go_wp2_with (first | (go_at_call 46; (with_reducible refine (strings_IndexByte.calls ((⟨#[34, 92, 10, 9, 47]⟩ : ByteArray).extract 0 4) (bt a0 x9_1) t112 _ A10.out).mono ?_); rintro e w' ⟨rfl, ⟨nd, rfl⟩⟩; (try first | exact ⟨rfl, _, World.drewN_drewN _ _ _⟩ | exact ⟨rfl, _, Eq.trans (World.drewN_drewN _ _ _) (congrArg (World.drewN _) (Nat.add_assoc _ _ _))⟩); have p20 : 0 ≤ (x9_1 : Int) := of_decide_eq_true (by first | (with_reducible assumption) | assumption); have q20 : x9_1 < (a0.size : Int) := of_decide_eq_true (by first | (with_reducible assumption) | assumption); have hx20 := bt_at a0 x9_1; replace p20 := eq_true p20; replace q20 := eq_true q20) | ((with_reducible refine gate_builtin (b := .append) (xs := #[.tmp 24, .tmp 28]) rfl ?_); at_builtin; refine Kd.R_append (Kd.int .u8) (w0 := w) w.heap.size rfl (.tmp 24) (.tmp 28) 22 5 (.int .u8 0) 1 rfl Tryd.underlying22 info5 rfl (by decide) (by omega) u3 x3_1 (bt a0 x9_1) [.int .u8 (bt a0 x9_1)] (fun _ => True) (fun _ => False) rfl rfl ?aP (fun _ hk => hk.elim) ?aF ?aO ?aB ?aS ?aL ?_; (case aP => exact rfl); (case aB => exact (by repeat (first | (with_reducible first | exact HB.out | apply below_alloc | apply pw_below_drewN | apply below_drew1) | exact HB.out))); (case aF => exact (fun _ _ => trivial)); (case aO => exact (by (with_reducible repeat (first | apply Kd.R_alloc | apply Kd.R_drewN | apply Kd.R_drew)); exact HO_3.out)); (case aS => exact (below_size (by repeat (first | (with_reducible first | exact HB.out | apply below_alloc | apply pw_below_drewN | apply below_drew1) | exact HB.out)))); (case aL => have := LMc21.out; omega); intro v120 w22 ho hb hg hat; rw [← Ny119.out] at ho; have n0_ := Aside0.mk (hb); have n1_ := Aside0.mk (ho); clear HB; clear HO_3; have HB := n0_; have HO121 := n1_; clear n0_ n1_; clear ho hb hg hat)))
                    go_roundg k1
                    case measure => have := HK1.out; omega
                    case rel => exact ⟨(y119), (wrap64 (x9_1 + 1)), (by first | rfl | (simp; done) | (simp [*]; done)), H', ⟨by have := HK1.out; omega⟩, ⟨by (with_reducible repeat (first | apply Kd.R_alloc | apply Kd.R_drewN | apply Kd.R_drew)); exact HO121.out⟩, ⟨by repeat (first | (with_reducible first | exact HB.out | apply below_alloc | apply pw_below_drewN | apply below_drew1) | exact HB.out)⟩⟩
                  · rw [if_neg c21] at H
                    exact absurd H (by simp)
              · rw [if_neg c8] at H
                exact absurd H (by simp)
            · rw [if_neg c7] at H
              exact absurd H (by simp)
          · rw [if_neg c6] at H
            exact absurd H (by simp)
        · rw [if_neg c5] at H
          exact absurd H (by simp)
      · rw [if_neg c4] at H
        have c4b0 : decide (x9_1 < (a0.size : Int)) = false := decide_eq_false c4
        clear c4
        by_cases c23 : x3_1.length < 140737488355328
        · rw [if_pos c23] at H
          have LMc23 := Aside0.mk c23
          clear c23
          obtain ⟨y122, hy122⟩ : ∃ y_ : List Int, y_ = (x3_1 ++ [34]) := ⟨_, rfl⟩
          replace H : (some (strOfNums y122)) = some r := by first | (rw [hy122]; with_reducible exact H) | (have H2_ := (Option.bind_some _ _).symm.trans H; rw [hy122]; with_reducible exact H2_) | (have H2_ := (Option.bind_some _ _).symm.trans H; with_reducible exact H2_) | with_reducible exact H | (rw [hy122]; exact H) | exact H
          have Ny122 := Aside0.mk hy122
          clear hy122
          obtain rfl := Option.some.inj H
          go_wp2_with (first | ((with_reducible refine gate_builtin (b := .append) (xs := #[.tmp 31, .tmp 32]) rfl ?_); at_builtin; refine Kd.R_append (Kd.int .u8) (w0 := w) w.heap.size rfl (.tmp 31) (.tmp 32) 22 5 (.int .u8 0) 1 rfl Tryd.underlying22 info5 rfl (by decide) (by omega) u3 x3_1 34 [.int .u8 34] (fun _ => True) (fun _ => False) rfl rfl ?aP (fun _ hk => hk.elim) ?aF ?aO ?aB ?aS ?aL ?_; (case aP => exact rfl); (case aB => exact (by repeat (first | (with_reducible first | exact HB.out | apply below_alloc | apply pw_below_drewN | apply below_drew1) | exact HB.out))); (case aF => exact (fun _ _ => trivial)); (case aO => exact (by (with_reducible repeat (first | apply Kd.R_alloc | apply Kd.R_drewN | apply Kd.R_drew)); exact HO_3.out)); (case aS => exact (below_size (by repeat (first | (with_reducible first | exact HB.out | apply below_alloc | apply pw_below_drewN | apply below_drew1) | exact HB.out)))); (case aL => have := LMc23.out; omega); intro v123 w24 ho hb hg hat; rw [← Ny122.out] at ho; have n0_ := Aside0.mk (hb); have n1_ := Aside0.mk (ho); clear HB; clear HO_3; have HB := n0_; have HO124 := n1_; clear n0_ n1_; clear ho hb hg hat; have hcv25 := own_string (P := Tryd.prog) Tryd.underlying22 Tryd.underlying5 Tryd.underlying9 (Kd.own_of_R HO124.out)))
          repeat (go_quiet (first | ((with_reducible refine gate_builtin (b := .append) (xs := #[.tmp 31, .tmp 32]) rfl ?_); at_builtin; refine Kd.R_append (Kd.int .u8) (w0 := w) w.heap.size rfl (.tmp 31) (.tmp 32) 22 5 (.int .u8 0) 1 rfl Tryd.underlying22 info5 rfl (by decide) (by omega) u3 x3_1 34 [.int .u8 34] (fun _ => True) (fun _ => False) rfl rfl ?aP (fun _ hk => hk.elim) ?aF ?aO ?aB ?aS ?aL ?_; (case aP => exact rfl); (case aB => exact (by repeat (first | (with_reducible first | exact HB.out | apply below_alloc | apply pw_below_drewN | apply below_drew1) | exact HB.out))); (case aF => exact (fun _ _ => trivial)); (case aO => exact (by (with_reducible repeat (first | apply Kd.R_alloc | apply Kd.R_drewN | apply Kd.R_drew)); exact HO_3.out)); (case aS => exact (below_size (by repeat (first | (with_reducible first | exact HB.out | apply below_alloc | apply pw_below_drewN | apply below_drew1) | exact HB.out)))); (case aL => have := LMc23.out; omega); intro v123 w24 ho hb hg hat; rw [← Ny122.out] at ho; have n0_ := Aside0.mk (hb); have n1_ := Aside0.mk (ho); clear HB; clear HO_3; have HB := n0_; have HO124 := n1_; clear n0_ n1_; clear ho hb hg hat; have hcv25 := own_string (P := Tryd.prog) Tryd.underlying22 Tryd.underlying5 Tryd.underlying9 (Kd.own_of_R HO124.out))); try go_wp2_with (first | ((with_reducible refine gate_builtin (b := .append) (xs := #[.tmp 31, .tmp 32]) rfl ?_); at_builtin; refine Kd.R_append (Kd.int .u8) (w0 := w) w.heap.size rfl (.tmp 31) (.tmp 32) 22 5 (.int .u8 0) 1 rfl Tryd.underlying22 info5 rfl (by decide) (by omega) u3 x3_1 34 [.int .u8 34] (fun _ => True) (fun _ => False) rfl rfl ?aP (fun _ hk => hk.elim) ?aF ?aO ?aB ?aS ?aL ?_; (case aP => exact rfl); (case aB => exact (by repeat (first | (with_reducible first | exact HB.out | apply below_alloc | apply pw_below_drewN | apply below_drew1) | exact HB.out))); (case aF => exact (fun _ _ => trivial)); (case aO => exact (by (with_reducible repeat (first | apply Kd.R_alloc | apply Kd.R_drewN | apply Kd.R_drew)); exact HO_3.out)); (case aS => exact (below_size (by repeat (first | (with_reducible first | exact HB.out | apply below_alloc | apply pw_below_drewN | apply below_drew1) | exact HB.out)))); (case aL => have := LMc23.out; omega); intro v123 w24 ho hb hg hat; rw [← Ny122.out] at ho; have n0_ := Aside0.mk (hb); have n1_ := Aside0.mk (ho); clear HB; clear HO_3; have HB := n0_; have HO124 := n1_; clear n0_ n1_; clear ho hb hg hat; have hcv25 := own_string (P := Tryd.prog) Tryd.underlying22 Tryd.underlying5 Tryd.underlying9 (Kd.own_of_R HO124.out))))
          go_ret
          exact ⟨by first | rfl | (simp [errW_none, errW_some] <;> rfl) | (simp [*, errW_none, errW_some] <;> rfl), by repeat (first | (with_reducible first | exact HB.out | apply below_alloc | apply pw_below_drewN | apply below_drew1) | exact HB.out)⟩
        · rw [if_neg c23] at H
          exact absurd H (by simp)

-- NOT PRINTED: function 49 (bytes_Buffer_String)

-- NOT PRINTED: function 64 (bytes_Buffer_tryGrowByReslice)

-- NOT PRINTED: function 70 (bytes_Buffer_Len)

-- NOT PRINTED: function 71 (bytes_Buffer_Reset)

-- NOT PRINTED: function 87 (bytes_growSlice_1)

-- NOT PRINTED: function 72 (bytes_growSlice)

-- NOT PRINTED: function 65 (bytes_Buffer_grow)

-- NOT PRINTED: function 50 (bytes_Buffer_WriteByte)

/-! ### text_Unquote: function 34 -/
def text_Unquote.pb (s : ByteArray) (p : Int) : Int := if p < (s.size : Int) then bt s p else 0
def text_Unquote.l0 : Nat → ByteArray → Int → List UInt8 → Option (ByteArray × Int × Bool)
  | 0, _, _, _ => none
  | k + 1, s, p, acc => if p < (s.size : Int) then (if bt s p ≥ 32 then (if bt s p ≤ 126 then (if bt s p = 34 then (some (⟨acc.toArray⟩, p + 1, true)) else (if bt s p = 92 then ((strings_IndexByte.f (⟨#[34, 92, 110, 116, 47]⟩ : ByteArray) (text_Unquote.pb s (p + 1))).bind fun t => (if t < 0 then (some ((⟨#[]⟩ : ByteArray), 0, false)) else (if t < 5 then (text_Unquote.l0 k s (p + 2) (acc ++ [UInt8.ofNat (bt (⟨#[34, 92, 10, 9, 47]⟩ : ByteArray) t).toNat])) else (none)))) else (text_Unquote.l0 k s (p + 1) (acc ++ [UInt8.ofNat (bt s p).toNat])))) else (some ((⟨#[]⟩ : ByteArray), 0, false))) else (some ((⟨#[]⟩ : ByteArray), 0, false))) else (some ((⟨#[]⟩ : ByteArray), 0, false))
def text_Unquote.f (k : Nat) (a0 : ByteArray) : Option (ByteArray × Int × Bool) := if a0.size ≤ 140737488355000 then ((strings_HasPrefix.f a0 (⟨#[34]⟩ : ByteArray)).bind fun t => (if t = true then (text_Unquote.l0 k a0 1 []) else (some ((⟨#[]⟩ : ByteArray), 0, false)))) else (none)
theorem text_Unquote.mono_l : ∀ k y0 y1 y2, LeO (text_Unquote.l0 k y0 y1 y2) (text_Unquote.l0 (k + 1) y0 y1 y2)
  | 0 => fun _ _ _ r h => by simp [text_Unquote.l0] at h
  | k + 1 => by
    have ih0 := text_Unquote.mono_l k
    intro y0 y1 y2
    unfold text_Unquote.l0
    repeat' first
      | (with_reducible exact ih0 _ _ _)
      | (with_reducible exact LeO.refl _)
      | (with_reducible exact LeO.none _)
      | (with_reducible refine LeO.ite ?_ ?_)
      | (with_reducible refine LeO.bind ?_ (fun _ => ?_))
      | exact LeO.refl _
theorem text_Unquote.mono : ∀ a0 k, LeO (text_Unquote.f k a0) (text_Unquote.f (k + 1) a0) := by
  intro a0 k
  unfold text_Unquote.f
  exact LeO.ite (LeO.bind (LeO.refl _) (fun _ => LeO.ite (text_Unquote.mono_l _ _ _ _) (LeO.refl _))) (LeO.none _)
theorem text_Unquote.peek (s : ByteArray) (p : Int) (h : 0 ≤ p) : text_front_Peek.f s p = some (text_Unquote.pb s p, decide (p < (s.size : Int)), s, p) := by
  unfold text_front_Peek.f text_Unquote.pb
  by_cases h1 : p ≥ (s.size : Int)
  · rw [if_pos h1, if_neg (by omega), decide_eq_false (by omega)]
  · rw [if_neg h1, if_pos h, if_pos (by omega), if_pos (by omega), decide_eq_true (by omega)]
theorem text_Unquote.at_q (g : Nat) (s : ByteArray) (p : Int) (w : World) (hc1 : w.cell? ⟨g, 1, none⟩ = some (.int .i64 p)) :
    Calls Tryd.prog 26 #[.pointer (some ⟨g, 0, none⟩)] w fun e w' => e = .returned (.int .i64 p) ∧ Drawn0 w w' := by
  go_enter Tryd.func26, Tryd.ntmps26
  go_wp2
  go_ret
  exact ⟨rfl, by repeat (first | exact Drawn0.refl _ | apply Drawn0.step)⟩
theorem text_Unquote.buf_keep {T e B b g : Nat} {bs : List Value} {w w1 : World} (h : Lib.IsBuffer T e B b bs w) (hk : KeepBut w w1 g none) (hg : g < B) : Lib.IsBuffer T e B b bs w1 := by
  obtain ⟨h1, v, lr, hb, ho, hne⟩ := h
  refine ⟨h1, v, lr, hk.blk hb (by omega) (by simp), hk.own ho ?_ ?_, hne⟩
  · intro e1
    have := own_base ho g e1
    omega
  · cases h : v.ownBlock with
    | none => exact .inl rfl
    | some r => exact .inr (by simp)
theorem text_Unquote.buf_set {T e B b g j : Nat} {u : Value} {bs : List Value} {w : World} (h : Lib.IsBuffer T e B b bs w) (hg : g < B) : Lib.IsBuffer T e B b bs (w.setCell ⟨g, j, none⟩ u) := text_Unquote.buf_keep h ((KeepBut.refl w g none).set_ j u) hg
theorem text_Unquote.buf_drewN {T e B b m : Nat} {bs : List Value} {w : World} (h : Lib.IsBuffer T e B b bs w) : Lib.IsBuffer T e B b bs (w.drewN m) := h
theorem text_Unquote.st_below {w0 W W1 : World} {g b : Nat} {f0 : ByteArray} {f1 : Int} (h : IsS41 w0 W g f0 f1) (hg : g < b) (hb : Below b W W1) : IsS41 w0 W1 g f0 f1 := by
  obtain ⟨h1, h2⟩ := h
  exact ⟨(hb.block g hg).trans h1, h2⟩
theorem text_Unquote.one (l : List UInt8) : ∀ v ∈ Lib.byteCells l, v.oneCell' = true := by
  intro v hv
  unfold Lib.byteCells at hv
  obtain ⟨c, _, rfl⟩ := List.mem_map.mp hv
  rfl
theorem text_Unquote.cells_snoc {T e B b : Nat} {l : List UInt8} {c : Int} {w : World} (h : Lib.IsBuffer T e B b (Lib.byteCells l ++ [.int .u8 c]) w) (hc : 0 ≤ c ∧ c ≤ 255) : Lib.IsBuffer T e B b (Lib.byteCells (l ++ [UInt8.ofNat c.toNat])) w := by
  have e1 : Lib.byteCells (l ++ [UInt8.ofNat c.toNat]) = Lib.byteCells l ++ [.int .u8 c] := by
    have e2 : ((UInt8.ofNat c.toNat).toNat : Int) = c := by rw [UInt8.toNat_ofNat']; omega
    simp only [Lib.byteCells, List.map_append, List.map_cons, List.map_nil, e2]
  rw [e1]
  exact h
theorem text_Unquote.take (a0 : ByteArray) (t : Bool) (h : strings_HasPrefix.f a0 (⟨#[34]⟩ : ByteArray) = some t) : text_Cursor_Take.f a0 0 (⟨#[34]⟩ : ByteArray) = some (t, a0, if t = true then 1 else 0) := by
  unfold text_Cursor_Take.f
  have e1 : a0.extract ((0 : Int)).toNat a0.size = a0 := by
    have e2 : ((0 : Int)).toNat = 0 := rfl
    rw [e2]
    exact ByteArray.extract_zero_size
  rw [if_pos (by decide), if_pos (by omega), e1, h]
  have e3 : wrap64 (0 + ((⟨#[34]⟩ : ByteArray).size : Int)) = 1 := by kernel_rfl
  cases t with
  | true => rw [Option.bind_some, if_pos rfl, if_pos rfl, e3]
  | false => rfl
set_option maxHeartbeats 8000000 in
set_option maxRecDepth 100000 in
theorem text_Unquote.calls (k : Nat) (a0 : ByteArray) (r1 : ByteArray) (r2 : Int) (r3 : Bool) (w : World) (h : text_Unquote.f k a0 = some (r1, r2, r3)) :
    Calls Tryd.prog 34 #[.string a0] w fun e w' => e = .returned (.tuple #[.string r1, .int .i64 r2, .bool r3]) ∧ Below w.heap.size w w' := by
  unfold text_Unquote.f at h
  by_cases c0 : a0.size ≤ 140737488355000
  · rw [if_pos c0] at h
    obtain ⟨t, A30, h⟩ := Option.bind_eq_some_iff.mp h
    have AT0 := text_Unquote.take a0 t A30
    have C0 := Aside0.mk c0
    clear A30 c0
    have AN : Aside0 (text_New.f a0 = some (a0, 0)) := ⟨rfl⟩
    have HB := Aside0.mk (Below.refl w.heap.size w)
    cases t with
    | false =>
      have AT : Aside0 (text_Cursor_Take.f a0 0 (⟨#[34]⟩ : ByteArray) = some (false, a0, 0)) := ⟨AT0⟩
      clear AT0
      rw [if_neg (by decide)] at h
      simp only [Option.some.injEq, Prod.mk.injEq] at h
      obtain ⟨rfl, rfl, rfl⟩ := h
      go_enter Tryd.func34, Tryd.ntmps34
      go_wp2_with (first | (go_at_call 18; (with_reducible refine (text_New.calls a0 a0 0 w _ HB.out AN.out).mono ?_); rintro e w1 ⟨g, rfl, hi, hb, hb2⟩; have HI := Aside0.mk hi; clear HB; have HB := Aside0.mk hb; clear hi hb hb2) | (go_at_call 22; (with_reducible refine (text_Cursor_Take.calls g a0 0 (⟨#[34]⟩ : ByteArray) false a0 0 w _ ?side1 ?side2 AT.out).mono ?_); (case side1 => exact HI.out); (case side2 => exact HB.out); rintro e w2 ⟨rfl, hi, hb, hk⟩; clear HI HB; have HI := Aside0.mk hi; have HB := Aside0.mk hb; clear hi hb hk))
      go_ret3
      exact ⟨rfl, HB.out⟩
    | true =>
      have AT : Aside0 (text_Cursor_Take.f a0 0 (⟨#[34]⟩ : ByteArray) = some (true, a0, 1)) := ⟨AT0⟩
      clear AT0
      rw [if_pos rfl] at h
      have H' := Aside0.mk h
      have AP := Aside0.mk (text_Unquote.peek a0 1 (by decide))
      clear h
      go_enter Tryd.func34, Tryd.ntmps34
      go_wp2_with (first | (go_at_call 18; (with_reducible refine (text_New.calls a0 a0 0 w _ HB.out AN.out).mono ?_); rintro e w1 ⟨g, rfl, hi, hb, hb2⟩; have HI := Aside0.mk hi; clear HB; have HB := Aside0.mk hb; clear hi hb hb2) | (go_at_call 22; (with_reducible refine (text_Cursor_Take.calls g a0 0 (⟨#[34]⟩ : ByteArray) true a0 1 w _ ?side1 ?side2 AT.out).mono ?_); (case side1 => exact HI.out); (case side2 => exact HB.out); rintro e w2 ⟨rfl, hi, hb, hk⟩; clear HI HB; have HI := Aside0.mk hi; have HB := Aside0.mk hb; clear hi hb hk) | ((with_reducible refine gate_dst (N := 6) rfl ?_); refine box_event ?hg (N := 6) ?hd (cs := #[.slice none 0 0, .int .i64 0, .int .i8 0]) (t := 73) ?hr ?_; (case hd => rfl); (case hg => rfl); (case hr => first | (go_simp; done) | (go_simp; rfl)); intro b hg w3 hbox hb; have HG : Aside0 (g < b) := ⟨by rw [hg]; exact IsS41.lt HI.out⟩; have HBW : Aside0 (w.heap.size ≤ b) := ⟨by rw [hg]; exact HB.out.size⟩; have n0_ := Aside0.mk (IsS41.below HI.out hb); have n1_ := Aside0.mk (below_step HB.out hb); have HF : Aside0 (Lib.IsBuffer 73 5 b b (Lib.byteCells []) w3) := ⟨⟨Nat.le_refl _, .slice none 0 0, 0, hbox, World.ownsRow_nil _ _ _ _, by simp [Value.ownBlock]⟩⟩; clear HI HB; have HI := n0_; have HB := n1_; clear n0_ n1_ hbox hb hg; obtain ⟨HC, hge⟩ := HI.out; have hc0 := cellS41_0 HC; have hc1 := cellS41_1 HC; have hf0 := blk_frozen HC 0; have hf1 := blk_frozen HC 1; clear HC hge) | (go_at_call 20; (with_reducible refine (text_front_Peek.calls g a0 1 (text_Unquote.pb a0 1) (decide (1 < (a0.size : Int))) a0 1 w _ ?side1 ?side2 AP.out).mono ?_); (case side1 => repeat (first | (with_reducible first | exact HI.out | apply IsS41.alloc | apply IsS41.drewN | apply IsS41.drew | apply IsS41.set_0 | apply IsS41.set_1) | exact HI.out)); (case side2 => repeat (first | (with_reducible first | exact HB.out | apply below_alloc | apply pw_below_drewN | apply below_drew1 | refine below_set ?_ (IsS41.ge HI.out)) | exact HB.out)); rintro e wq ⟨rfl, hi, hb, hk⟩; have n0_ := Aside0.mk hi; have n1_ := Aside0.mk hb; have n2_ := Aside0.mk (show Lib.IsBuffer 73 5 b b (Lib.byteCells []) wq from text_Unquote.buf_keep (by repeat (first | (with_reducible first | exact HF.out | refine text_Unquote.buf_set ?_ HG.out | apply text_Unquote.buf_drewN) | exact HF.out)) hk HG.out); clear HI HB HF; have HI := n0_; have HB := n1_; have HF := n2_; clear n0_ n1_ n2_ hi hb hk; clear hc0 hc1 hf0 hf1; obtain ⟨HC, hge⟩ := HI.out; have hc0 := cellS41_0 HC; have hc1 := cellS41_1 HC; have hf0 := blk_frozen HC 0; have hf1 := blk_frozen HC 1; clear HC hge))
      go_loopg [7, 8] k (fun kq v7 v8 w' => ∃ (p : Int) (acc : List UInt8), v7 = .int .u8 (text_Unquote.pb a0 p) ∧ v8 = .bool (decide (p < (a0.size : Int))) ∧ Aside0 (text_Unquote.l0 kq a0 p acc = some (r1, r2, r3)) ∧ Aside0 (kq ≤ k) ∧ Aside0 (0 ≤ p ∧ p ≤ a0.size + 1 ∧ acc.length ≤ p) ∧ Aside0 (IsS41 w w' g a0 p) ∧ Aside0 (Lib.IsBuffer 73 5 b b (Lib.byteCells acc) w') ∧ Aside0 (Below w.heap.size w w'))
      case atStart => exact ⟨1, [], rfl, rfl, H', ⟨Nat.le_refl _⟩, ⟨by decide, by omega, by decide⟩, HI, HF, HB⟩
      case round =>
        clear H' AP HI HB HF
        obtain ⟨p, acc, rfl, rfl, HA, HK1, HP, HI, HF, HB⟩ := hrel
        cases gk with
        | zero => exact absurd HA.out (by simp [text_Unquote.l0])
        | succ k1 =>
          have H := HA.out
          clear HA
          simp only [text_Unquote.l0] at H
          obtain ⟨HPa, HPb, HPc⟩ := HP.out
          by_cases b1 : p < (a0.size : Int)
          · rw [if_pos b1] at H
            have hpb : text_Unquote.pb a0 p = bt a0 p := by unfold text_Unquote.pb; rw [if_pos b1]
            have c1b := decide_eq_true b1
            have hbt := bt_range a0 p
            by_cases b2 : bt a0 p ≥ 32
            · rw [if_pos b2] at H
              have c2b : decide (32 ≤ bt a0 p) = true := decide_eq_true b2
              by_cases b3 : bt a0 p ≤ 126
              · rw [if_pos b3] at H
                have c3b := decide_eq_true b3
                have hw1 : p + 1 = wrap64 (p + 1) := (Go.IntWalk.wrap64_in (p + 1) (by have := C0.out; omega)).symm
                have hw2 : p + 2 = wrap64 (wrap64 (p + 1) + 1) := by rw [← hw1, Go.IntWalk.wrap64_in (p + 1 + 1) (by have := C0.out; omega)]; omega
                obtain ⟨HC, hge⟩ := HI.out
                have hc0 := cellS41_0 HC
                have hc1 := cellS41_1 HC
                have hf0 := blk_frozen HC 0
                have hf1 := blk_frozen HC 1
                clear HC hge
                by_cases b4 : bt a0 p = 34
                · rw [if_pos b4, hw1] at H
                  simp only [Option.some.injEq, Prod.mk.injEq] at H
                  obtain ⟨rfl, rfl, rfl⟩ := H
                  have c4b := decide_eq_true b4
                  have HW1 := Aside0.mk hw1
                  clear b1 b2 b3 hw1 hw2 hbt HPa HPb HPc
                  go_wp2
                  go_quiet ((first | (go_at_call 49; refine (Sh.Buffer_String b b acc _ (by repeat (first | (with_reducible first | exact HF.out | refine text_Unquote.buf_set ?_ HG.out | apply text_Unquote.buf_drewN) | exact HF.out))).mono ?_; rintro e w' ⟨rfl, ⟨nd, rfl⟩⟩; (try first | exact ⟨rfl, _, World.drewN_drewN _ _ _⟩ | exact ⟨rfl, _, Eq.trans (World.drewN_drewN _ _ _) (congrArg (World.drewN _) (Nat.add_assoc _ _ _))⟩)) | (go_at_call 26; refine (text_Unquote.at_q g a0 (wrap64 (p + 1)) _ (by exact cellS41_1 (And.left (show IsS41 w _ g a0 (wrap64 (p + 1)) from by repeat (first | (with_reducible first | exact HI.out | apply IsS41.alloc | apply IsS41.drewN | apply IsS41.drew | apply IsS41.set_0 | apply IsS41.set_1) | exact HI.out))))).mono ?_; rintro e w' ⟨rfl, ⟨nd, rfl⟩⟩; (try first | exact ⟨rfl, _, World.drewN_drewN _ _ _⟩ | exact ⟨rfl, _, Eq.trans (World.drewN_drewN _ _ _) (congrArg (World.drewN _) (Nat.add_assoc _ _ _))⟩))))
                  go_wp2
                  go_ret3
                  exact ⟨rfl, by repeat (first | (with_reducible first | exact HB.out | apply below_alloc | apply pw_below_drewN | apply below_drew1 | refine below_set ?_ (IsS41.ge HI.out)) | exact HB.out)⟩
                · rw [if_neg b4] at H
                  have c4b := decide_eq_false b4
                  by_cases b5 : bt a0 p = 92
                  · rw [if_pos b5, hw1, hw2] at H
                    have c5b := decide_eq_true b5
                    obtain ⟨t, A70, H⟩ := Option.bind_eq_some_iff.mp H
                    have A7 := Aside0.mk A70
                    clear A70
                    have AP := Aside0.mk (text_Unquote.peek a0 (wrap64 (p + 1)) (by rw [← hw1]; omega))
                    have AP2 := Aside0.mk (text_Unquote.peek a0 (wrap64 (wrap64 (p + 1) + 1)) (by rw [← hw2]; omega))
                    by_cases b6 : t < 0
                    · rw [if_pos b6] at H
                      have c6b := decide_eq_true b6
                      simp only [Option.some.injEq, Prod.mk.injEq] at H
                      obtain ⟨rfl, rfl, rfl⟩ := H
                      clear hw1 hw2 b1 b2 b3 HPa HPb HPc hbt b6
                      go_wp2_with (first | (go_at_call 20; (with_reducible refine (text_front_Peek.calls g a0 (wrap64 (p + 1)) (text_Unquote.pb a0 (wrap64 (p + 1))) (decide ((wrap64 (p + 1)) < (a0.size : Int))) a0 (wrap64 (p + 1)) w _ ?side1 ?side2 AP.out).mono ?_); (case side1 => repeat (first | (with_reducible first | exact HI.out | apply IsS41.alloc | apply IsS41.drewN | apply IsS41.drew | apply IsS41.set_0 | apply IsS41.set_1) | exact HI.out)); (case side2 => repeat (first | (with_reducible first | exact HB.out | apply below_alloc | apply pw_below_drewN | apply below_drew1 | refine below_set ?_ (IsS41.ge HI.out)) | exact HB.out)); rintro e wq ⟨rfl, hi, hb, hk⟩; have n0_ := Aside0.mk hi; have n1_ := Aside0.mk hb; have n2_ := Aside0.mk (show Lib.IsBuffer 73 5 b b (Lib.byteCells acc) wq from text_Unquote.buf_keep (by repeat (first | (with_reducible first | exact HF.out | refine text_Unquote.buf_set ?_ HG.out | apply text_Unquote.buf_drewN) | exact HF.out)) hk HG.out); clear HI HB HF; have HI := n0_; have HB := n1_; have HF := n2_; clear n0_ n1_ n2_ hi hb hk; clear hc0 hc1 hf0 hf1; obtain ⟨HC, hge⟩ := HI.out; have hc0 := cellS41_0 HC; have hc1 := cellS41_1 HC; have hf0 := blk_frozen HC 0; have hf1 := blk_frozen HC 1; clear HC hge) | (go_at_call 46; (with_reducible refine (strings_IndexByte.calls (⟨#[34, 92, 110, 116, 47]⟩ : ByteArray) (text_Unquote.pb a0 (wrap64 (p + 1))) t _ A7.out).mono ?_); rintro e w' ⟨rfl, ⟨nd, rfl⟩⟩; (try first | exact ⟨rfl, _, World.drewN_drewN _ _ _⟩ | exact ⟨rfl, _, Eq.trans (World.drewN_drewN _ _ _) (congrArg (World.drewN _) (Nat.add_assoc _ _ _))⟩)))
                      go_ret3
                      exact ⟨rfl, by repeat (first | (with_reducible first | exact HB.out | apply below_alloc | apply pw_below_drewN | apply below_drew1 | refine below_set ?_ (IsS41.ge HI.out)) | exact HB.out)⟩
                    · rw [if_neg b6] at H
                      have c6b := decide_eq_false b6
                      by_cases b7 : t < 5
                      · rw [if_pos b7] at H
                        have H' := Aside0.mk H
                        have HP' : Aside0 (0 ≤ wrap64 (wrap64 (p + 1) + 1) ∧ wrap64 (wrap64 (p + 1) + 1) ≤ a0.size + 1 ∧ (acc ++ [UInt8.ofNat (bt (⟨#[34, 92, 10, 9, 47]⟩ : ByteArray) t).toNat]).length ≤ wrap64 (wrap64 (p + 1) + 1)) := ⟨by rw [← hw2, List.length_append, List.length_singleton]; omega⟩
                        have CW : Aside0 (0 ≤ bt (⟨#[34, 92, 10, 9, 47]⟩ : ByteArray) t ∧ bt (⟨#[34, 92, 10, 9, 47]⟩ : ByteArray) t ≤ 255) := ⟨bt_range _ _⟩
                        have LM : Aside0 (acc.length + 1 ≤ 140737488355328) := ⟨by have := C0.out; omega⟩
                        have c8a : (0 ≤ t) = True := eq_true (by omega)
                        have c8b : decide (0 ≤ t) = true := decide_eq_true (by omega)
                        have c9a : (t < 5) = True := eq_true b7
                        have c9b : decide (t < 5) = true := decide_eq_true b7
                        clear H hw1 hw2 b1 b2 b3 HPa HPb HPc hbt b6 b7
                        go_wp2_with (first | (go_at_call 20; (with_reducible refine (text_front_Peek.calls g a0 (wrap64 (p + 1)) (text_Unquote.pb a0 (wrap64 (p + 1))) (decide ((wrap64 (p + 1)) < (a0.size : Int))) a0 (wrap64 (p + 1)) w _ ?side1 ?side2 AP.out).mono ?_); (case side1 => repeat (first | (with_reducible first | exact HI.out | apply IsS41.alloc | apply IsS41.drewN | apply IsS41.drew | apply IsS41.set_0 | apply IsS41.set_1) | exact HI.out)); (case side2 => repeat (first | (with_reducible first | exact HB.out | apply below_alloc | apply pw_below_drewN | apply below_drew1 | refine below_set ?_ (IsS41.ge HI.out)) | exact HB.out)); rintro e wq ⟨rfl, hi, hb, hk⟩; have n0_ := Aside0.mk hi; have n1_ := Aside0.mk hb; have n2_ := Aside0.mk (show Lib.IsBuffer 73 5 b b (Lib.byteCells acc) wq from text_Unquote.buf_keep (by repeat (first | (with_reducible first | exact HF.out | refine text_Unquote.buf_set ?_ HG.out | apply text_Unquote.buf_drewN) | exact HF.out)) hk HG.out); clear HI HB HF; have HI := n0_; have HB := n1_; have HF := n2_; clear n0_ n1_ n2_ hi hb hk; clear hc0 hc1 hf0 hf1; obtain ⟨HC, hge⟩ := HI.out; have hc0 := cellS41_0 HC; have hc1 := cellS41_1 HC; have hf0 := blk_frozen HC 0; have hf1 := blk_frozen HC 1; clear HC hge) | (go_at_call 46; (with_reducible refine (strings_IndexByte.calls (⟨#[34, 92, 110, 116, 47]⟩ : ByteArray) (text_Unquote.pb a0 (wrap64 (p + 1))) t _ A7.out).mono ?_); rintro e w' ⟨rfl, ⟨nd, rfl⟩⟩; (try first | exact ⟨rfl, _, World.drewN_drewN _ _ _⟩ | exact ⟨rfl, _, Eq.trans (World.drewN_drewN _ _ _) (congrArg (World.drewN _) (Nat.add_assoc _ _ _))⟩)) | (go_at_call 50; rw [bt_at (⟨#[34, 92, 10, 9, 47]⟩ : ByteArray) t]; (refine (Sh.Buffer_WriteByte b b (Lib.byteCells acc) (bt (⟨#[34, 92, 10, 9, 47]⟩ : ByteArray) t) _ (by repeat (first | (with_reducible first | exact HF.out | refine text_Unquote.buf_set ?_ HG.out | apply text_Unquote.buf_drewN) | exact HF.out)) (by exact Nat.le_of_lt (Lib.IsBuffer.lt (T := 73) (e := 5) (B := b) (bs := Lib.byteCells acc) (by repeat (first | (with_reducible first | exact HF.out | refine text_Unquote.buf_set ?_ HG.out | apply text_Unquote.buf_drewN) | exact HF.out)))) (text_Unquote.one acc) (by rw [Lib.byteCells, List.length_map]; exact LM.out)).mono ?_); rintro e wq ⟨rfl, hf, hb⟩; have n0_ := Aside0.mk (text_Unquote.st_below (by repeat (first | (with_reducible first | exact HI.out | apply IsS41.alloc | apply IsS41.drewN | apply IsS41.drew | apply IsS41.set_0 | apply IsS41.set_1) | exact HI.out)) HG.out hb); have n1_ := Aside0.mk (Below.trans (by repeat (first | (with_reducible first | exact HB.out | apply below_alloc | apply pw_below_drewN | apply below_drew1 | refine below_set ?_ (IsS41.ge HI.out)) | exact HB.out) : Below w.heap.size w _) (hb.mono HBW.out)); have n2_ := Aside0.mk (text_Unquote.cells_snoc hf (by exact CW.out)); clear HI HB HF; have HI := n0_; have HB := n1_; have HF := n2_; clear n0_ n1_ n2_ hf hb; clear hc0 hc1 hf0 hf1; obtain ⟨HC, hge⟩ := HI.out; have hc0 := cellS41_0 HC; have hc1 := cellS41_1 HC; have hf0 := blk_frozen HC 0; have hf1 := blk_frozen HC 1; clear HC hge) | (go_at_call 20; (with_reducible refine (text_front_Peek.calls g a0 (wrap64 (wrap64 (p + 1) + 1)) (text_Unquote.pb a0 (wrap64 (wrap64 (p + 1) + 1))) (decide ((wrap64 (wrap64 (p + 1) + 1)) < (a0.size : Int))) a0 (wrap64 (wrap64 (p + 1) + 1)) w _ ?side1 ?side2 AP2.out).mono ?_); (case side1 => repeat (first | (with_reducible first | exact HI.out | apply IsS41.alloc | apply IsS41.drewN | apply IsS41.drew | apply IsS41.set_0 | apply IsS41.set_1) | exact HI.out)); (case side2 => repeat (first | (with_reducible first | exact HB.out | apply below_alloc | apply pw_below_drewN | apply below_drew1 | refine below_set ?_ (IsS41.ge HI.out)) | exact HB.out)); rintro e wq ⟨rfl, hi, hb, hk⟩; have n0_ := Aside0.mk hi; have n1_ := Aside0.mk hb; have n2_ := Aside0.mk (show Lib.IsBuffer 73 5 b b (Lib.byteCells (acc ++ [UInt8.ofNat (bt (⟨#[34, 92, 10, 9, 47]⟩ : ByteArray) t).toNat])) wq from text_Unquote.buf_keep (by repeat (first | (with_reducible first | exact HF.out | refine text_Unquote.buf_set ?_ HG.out | apply text_Unquote.buf_drewN) | exact HF.out)) hk HG.out); clear HI HB HF; have HI := n0_; have HB := n1_; have HF := n2_; clear n0_ n1_ n2_ hi hb hk; clear hc0 hc1 hf0 hf1; obtain ⟨HC, hge⟩ := HI.out; have hc0 := cellS41_0 HC; have hc1 := cellS41_1 HC; have hf0 := blk_frozen HC 0; have hf1 := blk_frozen HC 1; clear HC hge))
                        go_roundg k1
                        case measure => have := HK1.out; omega
                        case rel => exact ⟨wrap64 (wrap64 (p + 1) + 1), acc ++ [UInt8.ofNat (bt (⟨#[34, 92, 10, 9, 47]⟩ : ByteArray) t).toNat], rfl, rfl, H', ⟨by have := HK1.out; omega⟩, HP', HI, HF, HB⟩
                      · rw [if_neg b7] at H
                        exact absurd H (by simp)
                  · rw [if_neg b5, hw1] at H
                    have c5b := decide_eq_false b5
                    have H' := Aside0.mk H
                    have HP' : Aside0 (0 ≤ wrap64 (p + 1) ∧ wrap64 (p + 1) ≤ a0.size + 1 ∧ (acc ++ [UInt8.ofNat (bt a0 p).toNat]).length ≤ wrap64 (p + 1)) := ⟨by rw [← hw1, List.length_append, List.length_singleton]; omega⟩
                    have CW : Aside0 (0 ≤ bt a0 p ∧ bt a0 p ≤ 255) := ⟨hbt⟩
                    have LM : Aside0 (acc.length + 1 ≤ 140737488355328) := ⟨by have := C0.out; omega⟩
                    have AP := Aside0.mk (text_Unquote.peek a0 (wrap64 (p + 1)) (by rw [← hw1]; omega))
                    clear H hw1 hw2 b1 b2 b3 HPa HPb HPc hbt
                    go_wp2_with (first | (go_at_call 50; (refine (Sh.Buffer_WriteByte b b (Lib.byteCells acc) (bt a0 p) _ (by repeat (first | (with_reducible first | exact HF.out | refine text_Unquote.buf_set ?_ HG.out | apply text_Unquote.buf_drewN) | exact HF.out)) (by exact Nat.le_of_lt (Lib.IsBuffer.lt (T := 73) (e := 5) (B := b) (bs := Lib.byteCells acc) (by repeat (first | (with_reducible first | exact HF.out | refine text_Unquote.buf_set ?_ HG.out | apply text_Unquote.buf_drewN) | exact HF.out)))) (text_Unquote.one acc) (by rw [Lib.byteCells, List.length_map]; exact LM.out)).mono ?_); rintro e wq ⟨rfl, hf, hb⟩; have n0_ := Aside0.mk (text_Unquote.st_below (by repeat (first | (with_reducible first | exact HI.out | apply IsS41.alloc | apply IsS41.drewN | apply IsS41.drew | apply IsS41.set_0 | apply IsS41.set_1) | exact HI.out)) HG.out hb); have n1_ := Aside0.mk (Below.trans (by repeat (first | (with_reducible first | exact HB.out | apply below_alloc | apply pw_below_drewN | apply below_drew1 | refine below_set ?_ (IsS41.ge HI.out)) | exact HB.out) : Below w.heap.size w _) (hb.mono HBW.out)); have n2_ := Aside0.mk (text_Unquote.cells_snoc hf (by exact CW.out)); clear HI HB HF; have HI := n0_; have HB := n1_; have HF := n2_; clear n0_ n1_ n2_ hf hb; clear hc0 hc1 hf0 hf1; obtain ⟨HC, hge⟩ := HI.out; have hc0 := cellS41_0 HC; have hc1 := cellS41_1 HC; have hf0 := blk_frozen HC 0; have hf1 := blk_frozen HC 1; clear HC hge) | (go_at_call 20; (with_reducible refine (text_front_Peek.calls g a0 (wrap64 (p + 1)) (text_Unquote.pb a0 (wrap64 (p + 1))) (decide ((wrap64 (p + 1)) < (a0.size : Int))) a0 (wrap64 (p + 1)) w _ ?side1 ?side2 AP.out).mono ?_); (case side1 => repeat (first | (with_reducible first | exact HI.out | apply IsS41.alloc | apply IsS41.drewN | apply IsS41.drew | apply IsS41.set_0 | apply IsS41.set_1) | exact HI.out)); (case side2 => repeat (first | (with_reducible first | exact HB.out | apply below_alloc | apply pw_below_drewN | apply below_drew1 | refine below_set ?_ (IsS41.ge HI.out)) | exact HB.out)); rintro e wq ⟨rfl, hi, hb, hk⟩; have n0_ := Aside0.mk hi; have n1_ := Aside0.mk hb; have n2_ := Aside0.mk (show Lib.IsBuffer 73 5 b b (Lib.byteCells (acc ++ [UInt8.ofNat (bt a0 p).toNat])) wq from text_Unquote.buf_keep (by repeat (first | (with_reducible first | exact HF.out | refine text_Unquote.buf_set ?_ HG.out | apply text_Unquote.buf_drewN) | exact HF.out)) hk HG.out); clear HI HB HF; have HI := n0_; have HB := n1_; have HF := n2_; clear n0_ n1_ n2_ hi hb hk; clear hc0 hc1 hf0 hf1; obtain ⟨HC, hge⟩ := HI.out; have hc0 := cellS41_0 HC; have hc1 := cellS41_1 HC; have hf0 := blk_frozen HC 0; have hf1 := blk_frozen HC 1; clear HC hge))
                    go_roundg k1
                    case measure => have := HK1.out; omega
                    case rel => exact ⟨wrap64 (p + 1), acc ++ [UInt8.ofNat (bt a0 p).toNat], rfl, rfl, H', ⟨by have := HK1.out; omega⟩, HP', HI, HF, HB⟩
              · rw [if_neg b3] at H
                have c3b := decide_eq_false b3
                simp only [Option.some.injEq, Prod.mk.injEq] at H
                obtain ⟨rfl, rfl, rfl⟩ := H
                clear b1 b2 b3 hbt
                go_wp2
                go_ret3
                exact ⟨rfl, HB.out⟩
            · rw [if_neg b2] at H
              have c2b : decide (32 ≤ bt a0 p) = false := decide_eq_false b2
              simp only [Option.some.injEq, Prod.mk.injEq] at H
              obtain ⟨rfl, rfl, rfl⟩ := H
              clear b1 b2 hbt
              go_wp2
              go_ret3
              exact ⟨rfl, HB.out⟩
          · rw [if_neg b1] at H
            have c1b := decide_eq_false b1
            simp only [Option.some.injEq, Prod.mk.injEq] at H
            obtain ⟨rfl, rfl, rfl⟩ := H
            clear b1
            go_wp2
            go_ret3
            exact ⟨rfl, HB.out⟩
  · rw [if_neg c0] at h
    exact absurd h (by simp)

/-! ### text_plain: function 51 -/
def text_plain.f (a0 : Int) : Option (Bool) := if a0 = 9 then (some true) else (if a0 = 10 then (some true) else (if a0 ≥ 32 then (some (decide (a0 ≤ 126))) else (some false)))
set_option maxHeartbeats 8000000 in
set_option maxRecDepth 100000 in
theorem text_plain.calls (a0 : Int) (r : Bool) (w : World) (h : text_plain.f a0 = some r) :
    Calls Tryd.prog 51 #[.int .u8 a0] w fun e w' => e = .returned (.bool r) ∧ Drawn0 w w' := by
  have H : (if a0 = 9 then (some true) else (if a0 = 10 then (some true) else (if a0 ≥ 32 then (some (decide (a0 ≤ 126))) else (some false)))) = some r := h
  clear h
  by_cases c2 : a0 = 9
  · rw [if_pos c2] at H
    have c2b0 : (a0 == 9) = true := beq_iff_eq.mpr c2
    have c2b1 : (a0 != 9) = false := bne_eq_false_iff_eq.mpr c2
    clear c2
    obtain rfl := Option.some.inj H
    go_enter Tryd.func51, Tryd.ntmps51
    go_wp2
    go_ret
    exact ⟨by first | rfl | (simp; done) | (simp [*]; done), by repeat (first | exact Drawn0.refl _ | apply Drawn0.step)⟩
  · rw [if_neg c2] at H
    have c2b0 : (a0 == 9) = false := beq_eq_false_iff_ne.mpr c2
    have c2b1 : (a0 != 9) = true := bne_iff_ne.mpr c2
    by_cases c3 : a0 = 10
    · rw [if_pos c3] at H
      have c3b0 : (a0 == 10) = true := beq_iff_eq.mpr c3
      have c3b1 : (a0 != 10) = false := bne_eq_false_iff_eq.mpr c3
      clear c3
      obtain rfl := Option.some.inj H
      go_enter Tryd.func51, Tryd.ntmps51
      go_wp2
      go_ret
      exact ⟨by first | rfl | (simp; done) | (simp [*]; done), by repeat (first | exact Drawn0.refl _ | apply Drawn0.step)⟩
    · rw [if_neg c3] at H
      have c3b0 : (a0 == 10) = false := beq_eq_false_iff_ne.mpr c3
      have c3b1 : (a0 != 10) = true := bne_iff_ne.mpr c3
      by_cases c4 : a0 ≥ 32
      · rw [if_pos c4] at H
        have c4b0 : decide (32 ≤ a0) = true := decide_eq_true c4
        clear c4
        obtain rfl := Option.some.inj H
        go_enter Tryd.func51, Tryd.ntmps51
        go_wp2
        go_ret
        exact ⟨by first | rfl | (simp; done) | (simp [*]; done), by repeat (first | exact Drawn0.refl _ | apply Drawn0.step)⟩
      · rw [if_neg c4] at H
        have c4b0 : decide (32 ≤ a0) = false := decide_eq_false c4
        clear c4
        obtain rfl := Option.some.inj H
        go_enter Tryd.func51, Tryd.ntmps51
        go_wp2
        go_ret
        exact ⟨by first | rfl | (simp; done) | (simp [*]; done), by repeat (first | exact Drawn0.refl _ | apply Drawn0.step)⟩

/-! ### text_Plain: function 36 -/
def text_Plain.l0 : Nat → ByteArray → Int → Int → Option (Bool)
  | 0, _, _, _ => none
  | k + 1, x0, x5, x6 => if x6 < x5 then (if 0 ≤ x6 then (if x6 < (x0.size : Int) then ((text_plain.f (bt x0 x6)).bind fun t125 => (if t125 = true then (text_Plain.l0 k x0 x5 (wrap64 (x6 + 1))) else (some false))) else (none)) else (none)) else (some true)
def text_Plain.f (k : Nat) (a0 : ByteArray) : Option (Bool) := text_Plain.l0 k a0 (a0.size : Int) 0
theorem text_Plain.mono_l : ∀ k, (∀ y0 y1 y2, LeO (text_Plain.l0 k y0 y1 y2) (text_Plain.l0 (k + 1) y0 y1 y2))
  | 0 => fun _ _ _ r h => by simp [text_Plain.l0] at h
  | k + 1 => by
    have ih0 := text_Plain.mono_l k
    · intro y0 y1 y2
      unfold text_Plain.l0
      repeat' first
      | (with_reducible exact ih0 _ _ _)
      | (with_reducible exact LeO.refl _)
      | (with_reducible exact LeO.none _)
      | (with_reducible refine LeO.ite ?_ ?_)
      | (with_reducible refine LeO.bind ?_ (fun _ => ?_))
      | exact ih0 _ _ _
      | exact LeO.none _
      | refine LeO.ite ?_ ?_
      | refine LeO.bind ?_ (fun _ => ?_)
theorem text_Plain.mono : ∀ a0 k, LeO (text_Plain.f k a0) (text_Plain.f (k + 1) a0) := by
  intro a0 k
  have ih0 := text_Plain.mono_l k
  unfold text_Plain.f
  repeat' first
      | (with_reducible exact ih0 _ _ _)
      | (with_reducible exact LeO.refl _)
      | (with_reducible exact LeO.none _)
      | (with_reducible refine LeO.ite ?_ ?_)
      | (with_reducible refine LeO.bind ?_ (fun _ => ?_))
      | exact ih0 _ _ _
      | exact LeO.none _
      | refine LeO.ite ?_ ?_
      | refine LeO.bind ?_ (fun _ => ?_)
set_option maxHeartbeats 8000000 in
set_option maxRecDepth 100000 in
theorem text_Plain.calls (k : Nat) (a0 : ByteArray) (r : Bool) (w : World) (h : text_Plain.f k a0 = some r) :
    Calls Tryd.prog 36 #[.string a0] w fun e w' => e = .returned (.bool r) ∧ Drawn0 w w' := by
  have H : (text_Plain.l0 k a0 (a0.size : Int) 0) = some r := h
  clear h
  have H' := Aside0.mk H
  clear H
  go_enter Tryd.func36, Tryd.ntmps36
  go_wp2
  go_loopg [6] k (fun kq v6 w' => ∃ (x6_1 : Int), v6 = .int .i64 x6_1 ∧ Aside0 (text_Plain.l0 kq a0 (a0.size : Int) x6_1 = some r) ∧ Aside0 (kq ≤ k) ∧ Drawn0 w w')
  case atStart => exact ⟨(0), (by first | rfl | (simp; done) | (simp [*]; done)), H', ⟨Nat.le_refl _⟩, by repeat (first | exact Drawn0.refl _ | apply Drawn0.step)⟩
  case round =>
    clear H'
    obtain ⟨x6_1, rfl, HA, HK1, ⟨m1, rfl⟩⟩ := hrel
    cases gk with
    | zero => exact absurd HA.out (by simp [text_Plain.l0])
    | succ k1 =>
      have H := HA.out
      clear HA
      simp only [text_Plain.l0] at H
      by_cases c2 : x6_1 < (a0.size : Int)
      · rw [if_pos c2] at H
        have c2b0 : decide (x6_1 < (a0.size : Int)) = true := decide_eq_true c2
        clear c2
        by_cases c3 : 0 ≤ x6_1
        · rw [if_pos c3] at H
          have c3b0 : decide (0 ≤ x6_1) = true := decide_eq_true c3
          clear c3
          by_cases c4 : x6_1 < (a0.size : Int)
          · rw [if_pos c4] at H
            have c4b0 : decide (x6_1 < (a0.size : Int)) = true := decide_eq_true c4
            clear c4
            replace H := Option.bind_eq_some_iff.mp H
            obtain ⟨t125, A60, H⟩ := H
            replace H : (if t125 = true then (text_Plain.l0 k1 a0 (a0.size : Int) (wrap64 (x6_1 + 1))) else (some false)) = some r := H
            have A6 := Aside0.mk A60
            clear A60
            by_cases c7 : t125 = true
            · subst c7
              have H1 : (text_Plain.l0 k1 a0 (a0.size : Int) (wrap64 (x6_1 + 1))) = some r := by rw [if_pos rfl] at H; exact H
              clear H
              have H := H1
              clear H1
              have H' := Aside0.mk H
              clear H
              have p5 : 0 ≤ (x6_1 : Int) := of_decide_eq_true (by first | (with_reducible assumption) | assumption)
              have q5 : x6_1 < (a0.size : Int) := of_decide_eq_true (by first | (with_reducible assumption) | assumption)
              have hx5 := bt_at a0 x6_1
              replace p5 := eq_true p5
              replace q5 := eq_true q5
              go_wp2_with (first | ((with_reducible refine gate_callee (f := 51) rfl ?_); refine goesL_ (some 12) rfl rfl Tryd.func51 (by kernel_rfl) rfl #[.int .u8 (bt a0 x6_1)] rfl (by (try simp only [List.map_toArray, List.map_cons, List.map_nil]); first | done | rfl | (simp only [List.length_drop, List.length_take]; rfl)) ?_; (with_reducible refine (text_plain.calls (bt a0 x6_1) true _ A6.out).mono ?_); rintro e w' ⟨rfl, ⟨nd, rfl⟩⟩; refine ⟨_, rfl, ?_⟩))
              go_roundg k1
              case measure => have := HK1.out; omega
              case rel => exact ⟨(wrap64 (x6_1 + 1)), (by first | rfl | (simp; done) | (simp [*]; done)), H', ⟨by have := HK1.out; omega⟩, by repeat (first | exact Drawn0.refl _ | apply Drawn0.step)⟩
            · replace c7 := Bool.eq_false_iff.mpr c7
              subst c7
              have H1 : (some false) = some r := by rw [if_neg (show ¬ (false = true) by decide)] at H; exact H
              clear H
              have H := H1
              clear H1
              obtain rfl := Option.some.inj H
              have p5 : 0 ≤ (x6_1 : Int) := of_decide_eq_true (by first | (with_reducible assumption) | assumption)
              have q5 : x6_1 < (a0.size : Int) := of_decide_eq_true (by first | (with_reducible assumption) | assumption)
              have hx5 := bt_at a0 x6_1
              replace p5 := eq_true p5
              replace q5 := eq_true q5
              go_wp2_with (first | ((with_reducible refine gate_callee (f := 51) rfl ?_); refine goesL_ (some 12) rfl rfl Tryd.func51 (by kernel_rfl) rfl #[.int .u8 (bt a0 x6_1)] rfl (by (try simp only [List.map_toArray, List.map_cons, List.map_nil]); first | done | rfl | (simp only [List.length_drop, List.length_take]; rfl)) ?_; (with_reducible refine (text_plain.calls (bt a0 x6_1) false _ A6.out).mono ?_); rintro e w' ⟨rfl, ⟨nd, rfl⟩⟩; refine ⟨_, rfl, ?_⟩))
              go_ret
              exact ⟨by first | rfl | (simp; done) | (simp [*]; done), by repeat (first | exact Drawn0.refl _ | apply Drawn0.step)⟩
          · rw [if_neg c4] at H
            exact absurd H (by simp)
        · rw [if_neg c3] at H
          exact absurd H (by simp)
      · rw [if_neg c2] at H
        have c2b0 : decide (x6_1 < (a0.size : Int)) = false := decide_eq_false c2
        clear c2
        obtain rfl := Option.some.inj H
        go_wp2
        go_ret
        exact ⟨by first | rfl | (simp; done) | (simp [*]; done), by repeat (first | exact Drawn0.refl _ | apply Drawn0.step)⟩

-- NOT PRINTED: function 53 (slices_Clone_string_string)

-- NOT PRINTED: function 93 (cmp_isNaN_string)

-- NOT PRINTED: function 79 (cmp_Less_string)

-- NOT PRINTED: function 73 (slices_insertionSortOrdered_string)

-- NOT PRINTED: function 88 (slices_siftDownOrdered_string)

-- NOT PRINTED: function 74 (slices_heapSortOrdered_string)

-- NOT PRINTED: function 82 (bits_Len32)

-- NOT PRINTED: function 83 (bits_Len64)

-- NOT PRINTED: function 67 (bits_Len)

-- NOT PRINTED: function 89 (slices_nextPowerOfTwo)

-- NOT PRINTED: function 90 (slices_xorshift_Next)

-- NOT PRINTED: function 75 (slices_breakPatternsOrdered_string)

-- NOT PRINTED: function 95 (slices_order2Ordered_string)

-- NOT PRINTED: function 92 (slices_medianOrdered_string)

-- NOT PRINTED: function 91 (slices_medianAdjacentOrdered_string)

-- NOT PRINTED: function 76 (slices_choosePivotOrdered_string)

-- NOT PRINTED: function 77 (slices_reverseRangeOrdered_string)

-- NOT PRINTED: function 78 (slices_partialInsertionSortOrdered_string)

-- NOT PRINTED: function 80 (slices_partitionEqualOrdered_string)

end Go.Proofs.YtkejnnnedgmhiaaDoor.X
