-- Laid by this session's own program (wip/xprint.py). Not trusted: Lean checks it.
import Derived.Test.YtelommablohfoaaXx0
import Derived.Test.YtelommablohfoaaXx3
namespace Go.Proofs.Ytelommablohfoaa.X
open Go.RowKit Go.Proofs.YtelommablohfoaaW.PrintWords Go.Proofs.YtelommablohfoaaW.PrintLast Go.Proofs.YtelommablohfoaaW.PrintMore
attribute [local go_sem] max2_int min2_int max_two min_two max_three min_three max_four min_four   -- for this text's walks alone
set_option linter.unusedVariables false
set_option linter.unusedSimpArgs false

/-! ### path_Find: function 25 -/
mutual
def path_Find.l0 : Nat → ByteArray → List ByteArray → Int → Int → Int → Int → Int → ByteArray → ByteArray → ByteArray → Int → Bool → Option (ByteArray × Bool)
  | 0, _, _, _, _, _, _, _, _, _, _, _, _ => none
  | k + 1, x1, x12, x13, x14, x131000, x131001, x131002, x131003, x132000, x132001, x132002, x132003 => if x14 < x13 then (if 0 ≤ x14 then (if x14 < (x12.length : Int) then ((path_part.f k (rdOf ByteArray.empty x12 x14)).bind fun bt134 => ((path_parted_fits.f bt134.1 bt134.2.1 bt134.2.2 x131000 x131001 x131002 x131003).bind fun t138 => (if t138 = true then ((path_Within.f x1 bt134.2.1).bind fun t139 => (path_Find.j1 k x1 x12 x13 x14 (!t139) x131000 x131001 x131002 x131003 x132000 x132001 x132002 x132003 bt134.1 bt134.2.1 bt134.2.2 true)) else (path_Find.j1 k x1 x12 x13 x14 true x131000 x131001 x131002 x131003 x132000 x132001 x132002 x132003 bt134.1 bt134.2.1 bt134.2.2 true)))) else (none)) else (none)) else ((strings_Clone.f x132000).bind fun t132 => (some (t132, x132003)))
def path_Find.j1 : Nat → ByteArray → List ByteArray → Int → Int → Bool → Int → Int → Int → ByteArray → ByteArray → ByteArray → Int → Bool → ByteArray → ByteArray → Int → Bool → Option (ByteArray × Bool)
  | 0, _, _, _, _, _, _, _, _, _, _, _, _, _, _, _, _, _ => none
  | k + 1, x1, x12, x13, x14, x33, x131000, x131001, x131002, x131003, x132000, x132001, x132002, x132003, x138000, x138001, x138002, x138003 => if x33 = true then (path_Find.l0 k x1 x12 x13 (wrap64 (x14 + 1)) x131000 x131001 x131002 x131003 x132000 x132001 x132002 x132003) else (if x132003 = true then (if (x138001.size : Int) > (x132001.size : Int) then (path_Find.j2 k x1 x12 x13 x14 true x131000 x131001 x131002 x131003 x132000 x132001 x132002 x132003 x138000 x138001 x138002 x138003) else (if (x138001.size : Int) = (x132001.size : Int) then (path_Find.j2 k x1 x12 x13 x14 (Op.bytesLess x138000.toList x132000.toList) x131000 x131001 x131002 x131003 x132000 x132001 x132002 x132003 x138000 x138001 x138002 x138003) else (path_Find.j2 k x1 x12 x13 x14 false x131000 x131001 x131002 x131003 x132000 x132001 x132002 x132003 x138000 x138001 x138002 x138003))) else (path_Find.j2 k x1 x12 x13 x14 true x131000 x131001 x131002 x131003 x132000 x132001 x132002 x132003 x138000 x138001 x138002 x138003))
def path_Find.j2 : Nat → ByteArray → List ByteArray → Int → Int → Bool → Int → Int → Int → ByteArray → ByteArray → ByteArray → Int → Bool → ByteArray → ByteArray → Int → Bool → Option (ByteArray × Bool)
  | 0, _, _, _, _, _, _, _, _, _, _, _, _, _, _, _, _, _ => none
  | k + 1, x1, x12, x13, x14, x67, x131000, x131001, x131002, x131003, x132000, x132001, x132002, x132003, x138000, x138001, x138002, x138003 => if x67 = true then (path_Find.l0 k x1 x12 x13 (wrap64 (x14 + 1)) x131000 x131001 x131002 x131003 x138000 x138001 x138002 x138003) else (path_Find.l0 k x1 x12 x13 (wrap64 (x14 + 1)) x131000 x131001 x131002 x131003 x132000 x132001 x132002 x132003)
end
def path_Find.f (k : Nat) (l0 : List ByteArray) (a1 : ByteArray) (a2_0 : Int) (a2_1 : Int) (a2_2 : Int) (a2_3 : ByteArray) : Option (ByteArray × Bool) := path_Find.l0 k a1 l0 (l0.length : Int) 0 a2_0 a2_1 a2_2 a2_3 (⟨#[]⟩ : ByteArray) (⟨#[]⟩ : ByteArray) 0 false
theorem path_Find.mono_l : ∀ k, (∀ y0 y1 y2 y3 y4 y5 y6 y7 y8 y9 y10 y11, LeO (path_Find.l0 k y0 y1 y2 y3 y4 y5 y6 y7 y8 y9 y10 y11) (path_Find.l0 (k + 1) y0 y1 y2 y3 y4 y5 y6 y7 y8 y9 y10 y11)) ∧ (∀ y0 y1 y2 y3 y4 y5 y6 y7 y8 y9 y10 y11 y12 y13 y14 y15 y16, LeO (path_Find.j1 k y0 y1 y2 y3 y4 y5 y6 y7 y8 y9 y10 y11 y12 y13 y14 y15 y16) (path_Find.j1 (k + 1) y0 y1 y2 y3 y4 y5 y6 y7 y8 y9 y10 y11 y12 y13 y14 y15 y16)) ∧ (∀ y0 y1 y2 y3 y4 y5 y6 y7 y8 y9 y10 y11 y12 y13 y14 y15 y16, LeO (path_Find.j2 k y0 y1 y2 y3 y4 y5 y6 y7 y8 y9 y10 y11 y12 y13 y14 y15 y16) (path_Find.j2 (k + 1) y0 y1 y2 y3 y4 y5 y6 y7 y8 y9 y10 y11 y12 y13 y14 y15 y16))
  | 0 => ⟨fun _ _ _ _ _ _ _ _ _ _ _ _ r h => by simp [path_Find.l0] at h, fun _ _ _ _ _ _ _ _ _ _ _ _ _ _ _ _ _ r h => by simp [path_Find.j1] at h, fun _ _ _ _ _ _ _ _ _ _ _ _ _ _ _ _ _ r h => by simp [path_Find.j2] at h⟩
  | k + 1 => by
    obtain ⟨ih0, ih1, ih2⟩ := path_Find.mono_l k
    refine ⟨?_, ?_, ?_⟩
    · intro y0 y1 y2 y3 y4 y5 y6 y7 y8 y9 y10 y11
      unfold path_Find.l0
      repeat' first
      | (with_reducible exact ih0 _ _ _ _ _ _ _ _ _ _ _ _)
      | (with_reducible exact ih1 _ _ _ _ _ _ _ _ _ _ _ _ _ _ _ _ _)
      | (with_reducible exact ih2 _ _ _ _ _ _ _ _ _ _ _ _ _ _ _ _ _)
      | (with_reducible exact path_part.mono _ _)
      | (with_reducible exact LeO.refl _)
      | (with_reducible exact LeO.none _)
      | (with_reducible refine LeO.ite ?_ ?_)
      | (with_reducible refine LeO.bind ?_ (fun _ => ?_))
      | exact ih0 _ _ _ _ _ _ _ _ _ _ _ _
      | exact ih1 _ _ _ _ _ _ _ _ _ _ _ _ _ _ _ _ _
      | exact ih2 _ _ _ _ _ _ _ _ _ _ _ _ _ _ _ _ _
      | exact path_part.mono _ _
      | exact LeO.none _
      | refine LeO.ite ?_ ?_
      | refine LeO.bind ?_ (fun _ => ?_)
    · intro y0 y1 y2 y3 y4 y5 y6 y7 y8 y9 y10 y11 y12 y13 y14 y15 y16
      unfold path_Find.j1
      repeat' first
      | (with_reducible exact ih0 _ _ _ _ _ _ _ _ _ _ _ _)
      | (with_reducible exact ih1 _ _ _ _ _ _ _ _ _ _ _ _ _ _ _ _ _)
      | (with_reducible exact ih2 _ _ _ _ _ _ _ _ _ _ _ _ _ _ _ _ _)
      | (with_reducible exact path_part.mono _ _)
      | (with_reducible exact LeO.refl _)
      | (with_reducible exact LeO.none _)
      | (with_reducible refine LeO.ite ?_ ?_)
      | (with_reducible refine LeO.bind ?_ (fun _ => ?_))
      | exact ih0 _ _ _ _ _ _ _ _ _ _ _ _
      | exact ih1 _ _ _ _ _ _ _ _ _ _ _ _ _ _ _ _ _
      | exact ih2 _ _ _ _ _ _ _ _ _ _ _ _ _ _ _ _ _
      | exact path_part.mono _ _
      | exact LeO.none _
      | refine LeO.ite ?_ ?_
      | refine LeO.bind ?_ (fun _ => ?_)
    · intro y0 y1 y2 y3 y4 y5 y6 y7 y8 y9 y10 y11 y12 y13 y14 y15 y16
      unfold path_Find.j2
      repeat' first
      | (with_reducible exact ih0 _ _ _ _ _ _ _ _ _ _ _ _)
      | (with_reducible exact ih1 _ _ _ _ _ _ _ _ _ _ _ _ _ _ _ _ _)
      | (with_reducible exact ih2 _ _ _ _ _ _ _ _ _ _ _ _ _ _ _ _ _)
      | (with_reducible exact path_part.mono _ _)
      | (with_reducible exact LeO.refl _)
      | (with_reducible exact LeO.none _)
      | (with_reducible refine LeO.ite ?_ ?_)
      | (with_reducible refine LeO.bind ?_ (fun _ => ?_))
      | exact ih0 _ _ _ _ _ _ _ _ _ _ _ _
      | exact ih1 _ _ _ _ _ _ _ _ _ _ _ _ _ _ _ _ _
      | exact ih2 _ _ _ _ _ _ _ _ _ _ _ _ _ _ _ _ _
      | exact path_part.mono _ _
      | exact LeO.none _
      | refine LeO.ite ?_ ?_
      | refine LeO.bind ?_ (fun _ => ?_)
theorem path_Find.mono : ∀ a0 a1 a2 a3 a4 a5 k, LeO (path_Find.f k a0 a1 a2 a3 a4 a5) (path_Find.f (k + 1) a0 a1 a2 a3 a4 a5) := by
  intro a0 a1 a2 a3 a4 a5 k
  obtain ⟨ih0, ih1, ih2⟩ := path_Find.mono_l k
  unfold path_Find.f
  repeat' first
      | (with_reducible exact ih0 _ _ _ _ _ _ _ _ _ _ _ _)
      | (with_reducible exact ih1 _ _ _ _ _ _ _ _ _ _ _ _ _ _ _ _ _)
      | (with_reducible exact ih2 _ _ _ _ _ _ _ _ _ _ _ _ _ _ _ _ _)
      | (with_reducible exact path_part.mono _ _)
      | (with_reducible exact LeO.refl _)
      | (with_reducible exact LeO.none _)
      | (with_reducible refine LeO.ite ?_ ?_)
      | (with_reducible refine LeO.bind ?_ (fun _ => ?_))
      | exact ih0 _ _ _ _ _ _ _ _ _ _ _ _
      | exact ih1 _ _ _ _ _ _ _ _ _ _ _ _ _ _ _ _ _
      | exact ih2 _ _ _ _ _ _ _ _ _ _ _ _ _ _ _ _ _
      | exact path_part.mono _ _
      | exact LeO.none _
      | refine LeO.ite ?_ ?_
      | refine LeO.bind ?_ (fun _ => ?_)
def path_Find.T10 : Bool × List (List Nat × List Nat) := (true, [([], []), ([0], [0]), ([1], [1]), ([2], [2]), ([], []), ([4], [4]), ([3, 3, 0, 1, 2, 3], [3]), ([5, 6, 0, 1, 2, 3, 4, 5, 6], [5])])
def path_Find.B10 : List Nat := [0, 1, 3, 7, 0, 16, 15, 127]
theorem path_Find.tab10 : rtab .any (opsOf Try.f25 10) = path_Find.T10 := by kernel_rfl
theorem path_Find.bits10 : waitsOk path_Find.T10.2 path_Find.B10 = true := by kernel_rfl
set_option maxHeartbeats 8000000 in
set_option maxRecDepth 100000 in
theorem path_Find.calls (k : Nat) (A0 : Option Addr) (c0 : Nat) (l0 : List ByteArray) (a1 : ByteArray) (a2_0 : Int) (a2_1 : Int) (a2_2 : Int) (a2_3 : ByteArray) (r1 : ByteArray) (r2 : Bool) (w : World) (hr0 : Kd.C Kd.string w A0 l0.length l0) (hc0 : l0.length ≤ c0) (h : path_Find.f k l0 a1 a2_0 a2_1 a2_2 a2_3 = some (r1, r2)) :
    Calls Try.prog 25 #[.slice A0 l0.length c0, .string a1, .agg #[.int .i64 a2_0, .int .i64 a2_1, .int .i64 a2_2, .string a2_3]] w fun e w' => e = .returned (.tuple #[.string r1, .bool r2]) ∧ Below w.heap.size w w' := by
  have hu33 := Try.underlying33
  have hu57 := Try.underlying57
  have hu49 := Try.underlying49
  have HR0 := Aside0.mk hr0
  have HC0 := Aside0.mk hc0
  clear hr0 hc0
  have HB := Aside0.mk (Below.refl w.heap.size w)
  have H : (path_Find.l0 k a1 l0 (l0.length : Int) 0 a2_0 a2_1 a2_2 a2_3 (⟨#[]⟩ : ByteArray) (⟨#[]⟩ : ByteArray) 0 false) = some (r1, r2) := h
  clear h
  have H' := Aside0.mk H
  clear H
  go_enter Try.func25, Try.ntmps25
  go_wp2_with (first | ((with_reducible refine gate_dst (N := 5) rfl ?_); (try (refine gate_guard (by rfl) ?_; dsimp only)); refine box_event ?hg (N := 5) ?hd (cs := #[.int .i64 a2_0, .int .i64 a2_1, .int .i64 a2_2, .string a2_3]) (t := 33) ?hr ?_; (case hd => rfl); (case hg => rfl); (case hr => first | (go_simp; done) | (go_simp; rfl)); intro gb130 hg w4 hbox hb; have n0_ := Aside0.mk (below_step (by repeat (first | (with_reducible first | exact HB.out | apply below_alloc | apply pw_below_drewN | apply below_drew1) | exact HB.out)) hb); have n1_ := Aside0.mk (hbox); have n2_ := Aside0.mk ((by rw [hg]; exact (below_size (by repeat (first | (with_reducible first | exact HB.out | apply below_alloc | apply pw_below_drewN | apply below_drew1) | exact HB.out))) : w.heap.size ≤ gb130)); have n3_ := Aside0.mk ((by rw [hg]; exact (below_size (by repeat (first | (with_reducible first | exact HB.out | apply below_alloc | apply pw_below_drewN | apply below_drew1) | exact HB.out))) : w.heap.size ≤ gb130)); clear HB; have HB := n0_; have BK130 := n1_; have GW130 := n2_; have GE130 := n3_; clear n0_ n1_ n2_ n3_; clear hb hbox hg) | ((with_reducible refine gate_dst (N := 8) rfl ?_); (try (refine gate_guard (by rfl) ?_; dsimp only)); refine box_event ?hg (N := 8) ?hd (cs := #[.string (⟨#[]⟩ : ByteArray), .string (⟨#[]⟩ : ByteArray), .int .i64 0, .bool false]) (t := 57) ?hr ?_; (case hd => rfl); (case hg => rfl); (case hr => first | (go_simp; done) | (go_simp; rfl)); intro gb131 hg w5 hbox hb; have n0_ := Aside0.mk (blk_below (g := gb130) (o := .cells #[.int .i64 a2_0, .int .i64 a2_1, .int .i64 a2_2, .string a2_3] 33 (0, 0)) (by (with_reducible repeat (first | refine blk_drewN ?_ _ | refine blk_drew ?_ | refine blk_alloc ?_ _)); exact BK130.out) hb); have n1_ := Aside0.mk (below_step (by repeat (first | (with_reducible first | exact HB.out | apply below_alloc | apply pw_below_drewN | apply below_drew1 | refine below_set ?_ GE130.out) | exact HB.out)) hb); have n2_ := Aside0.mk (hbox); have n3_ := Aside0.mk ((by rw [hg]; exact (below_size (by repeat (first | (with_reducible first | exact HB.out | apply below_alloc | apply pw_below_drewN | apply below_drew1 | refine below_set ?_ GE130.out) | exact HB.out))) : w.heap.size ≤ gb131)); have n4_ := Aside0.mk ((by rw [hg]; exact (below_size (by repeat (first | (with_reducible first | exact HB.out | apply below_alloc | apply pw_below_drewN | apply below_drew1 | refine below_set ?_ GE130.out) | exact HB.out))) : w.heap.size ≤ gb131)); have n5_ := Aside0.mk ((by rw [hg]; exact Nat.ne_of_lt (blk_lt (g := gb130) (o := .cells #[.int .i64 a2_0, .int .i64 a2_1, .int .i64 a2_2, .string a2_3] 33 (0, 0)) (by (with_reducible repeat (first | refine blk_drewN ?_ _ | refine blk_drew ?_ | refine blk_alloc ?_ _)); exact BK130.out)) : gb130 ≠ gb131)); have n6_ := Aside0.mk ((by rw [hg]; exact Nat.ne_of_gt (blk_lt (g := gb130) (o := .cells #[.int .i64 a2_0, .int .i64 a2_1, .int .i64 a2_2, .string a2_3] 33 (0, 0)) (by (with_reducible repeat (first | refine blk_drewN ?_ _ | refine blk_drew ?_ | refine blk_alloc ?_ _)); exact BK130.out)) : gb131 ≠ gb130)); clear BK130; clear HB; have BK130 := n0_; have HB := n1_; have BK131 := n2_; have GW131 := n3_; have GE131 := n4_; have NB130_131 := n5_; have NB131_130 := n6_; clear n0_ n1_ n2_ n3_ n4_ n5_ n6_; clear hb hbox hg))
  go_loopg [14] k (fun kq v14 w' => ∃ (x14_1 : Int) (x132000_1 : ByteArray) (x132001_1 : ByteArray) (x132002_1 : Int) (x132003_1 : Bool), v14 = .int .i64 x14_1 ∧ Aside0 (path_Find.l0 kq a1 l0 (l0.length : Int) x14_1 a2_0 a2_1 a2_2 a2_3 x132000_1 x132001_1 x132002_1 x132003_1 = some (r1, r2)) ∧ Aside0 (kq ≤ k) ∧ Aside0 (w'.heap[gb130]? = some (.cells #[.int .i64 a2_0, .int .i64 a2_1, .int .i64 a2_2, .string a2_3] 33 (0, 0))) ∧ Aside0 (w'.heap[gb131]? = some (.cells #[.string x132000_1, .string x132001_1, .int .i64 x132002_1, .bool x132003_1] 57 (0, 0))) ∧ Aside0 (Below w.heap.size w w'))
  case atStart => exact ⟨(0), ((⟨#[]⟩ : ByteArray)), ((⟨#[]⟩ : ByteArray)), (0), (false), (by first | rfl | (simp; done) | (simp [*]; done)), H', ⟨Nat.le_refl _⟩, ⟨by (with_reducible repeat (first | refine blk_drewN ?_ _ | refine blk_drew ?_ | refine blk_alloc ?_ _)); exact BK130.out⟩, ⟨by (with_reducible repeat (first | refine blk_drewN ?_ _ | refine blk_drew ?_ | refine blk_alloc ?_ _)); exact BK131.out⟩, ⟨by repeat (first | (with_reducible first | exact HB.out | apply below_alloc | apply pw_below_drewN | apply below_drew1 | refine below_set ?_ GE130.out | refine below_set ?_ GE131.out) | exact HB.out)⟩⟩
  case round =>
    clear H'
    try clear c2
    try clear p2
    obtain ⟨x14_1, x132000_1, x132001_1, x132002_1, x132003_1, rfl, HA, HK1, BK130, BK131, HB⟩ := hrel
    cases gk with
    | zero => exact absurd HA.out (by simp [path_Find.l0])
    | succ k1 =>
      have H := HA.out
      clear HA
      simp only [path_Find.l0] at H
      by_cases c6 : x14_1 < (l0.length : Int)
      · rw [if_pos c6] at H
        have c6b0 : decide (x14_1 < (l0.length : Int)) = true := decide_eq_true c6
        clear c6
        by_cases c7 : 0 ≤ x14_1
        · rw [if_pos c7] at H
          have c7b0 : decide (0 ≤ x14_1) = true := decide_eq_true c7
          clear c7
          by_cases c8 : x14_1 < (l0.length : Int)
          · rw [if_pos c8] at H
            have c8b0 : decide (x14_1 < (l0.length : Int)) = true := decide_eq_true c8
            clear c8
            replace H := Option.bind_eq_some_iff.mp H
            obtain ⟨⟨t134, t135, t136⟩, A90, H⟩ := H
            replace H : ((path_parted_fits.f t134 t135 t136 a2_0 a2_1 a2_2 a2_3).bind fun t138 => (if t138 = true then ((path_Within.f a1 t135).bind fun t139 => (path_Find.j1 k1 a1 l0 (l0.length : Int) x14_1 (!t139) a2_0 a2_1 a2_2 a2_3 x132000_1 x132001_1 x132002_1 x132003_1 t134 t135 t136 true)) else (path_Find.j1 k1 a1 l0 (l0.length : Int) x14_1 true a2_0 a2_1 a2_2 a2_3 x132000_1 x132001_1 x132002_1 x132003_1 t134 t135 t136 true))) = some (r1, r2) := H
            have A9 := Aside0.mk A90
            clear A90
            have HC10 := Aside0.mk H
            clear H
            have p133 : 0 ≤ (x14_1 : Int) := of_decide_eq_true (by first | (with_reducible assumption) | assumption)
            have q133 : x14_1 < (l0.length : Int) := of_decide_eq_true (by first | (with_reducible assumption) | assumption)
            obtain ⟨ad133, e133, hx133_0⟩ := Kd.at_string HR0.out x14_1 p133 q133
            cases e133
            replace hx133_0 := (HB.out.cell (World.block_lt_of_cell? w _ hx133_0)).trans hx133_0
            replace p133 := eq_true p133
            replace q133 := eq_true q133
            go_upto_region 6 with (first | ((with_reducible refine gate_callee (f := 30) rfl ?_); refine goesL_ (some 19) rfl rfl Try.func30 (by kernel_rfl) rfl #[.string (rdOf ByteArray.empty l0 x14_1)] rfl (by (try simp only [List.map_toArray, List.map_cons, List.map_nil]); first | done | rfl | (simp only [List.length_drop, List.length_take]; rfl)) ?_; (with_reducible refine (path_part.calls k1 (rdOf ByteArray.empty l0 x14_1) t134 t135 t136 _ A9.out).mono ?_); rintro e w11 ⟨rfl, hb⟩; refine ⟨_, rfl, ?_⟩; have n0_ := Aside0.mk (blk_below (g := gb130) (o := .cells #[.int .i64 a2_0, .int .i64 a2_1, .int .i64 a2_2, .string a2_3] 33 (0, 0)) (by (with_reducible repeat (first | refine blk_drewN ?_ _ | refine blk_drew ?_ | refine blk_alloc ?_ _)); exact BK130.out) hb); have n1_ := Aside0.mk (blk_below (g := gb131) (o := .cells #[.string x132000_1, .string x132001_1, .int .i64 x132002_1, .bool x132003_1] 57 (0, 0)) (by (with_reducible repeat (first | refine blk_drewN ?_ _ | refine blk_drew ?_ | refine blk_alloc ?_ _)); exact BK131.out) hb); have n2_ := Aside0.mk (below_step (by repeat (first | (with_reducible first | exact HB.out | apply below_alloc | apply pw_below_drewN | apply below_drew1 | refine below_set ?_ GE130.out | refine below_set ?_ GE131.out) | exact HB.out)) hb); clear BK130; clear BK131; clear HB; have BK130 := n0_; have BK131 := n1_; have HB := n2_; clear n0_ n1_ n2_; (try clear hb); (try clear hb2); (try clear hk); (try clear hi)) | ((with_reducible refine gate_dst (N := 11) rfl ?_); (try (refine gate_guard (by rfl) ?_; dsimp only)); refine box_event ?hg (N := 11) ?hd (cs := #[.string (⟨#[]⟩ : ByteArray), .string (⟨#[]⟩ : ByteArray), .int .i64 0, .bool false]) (t := 57) ?hr ?_; (case hd => rfl); (case hg => rfl); (case hr => first | (go_simp; done) | (go_simp; rfl)); intro gb137 hg w12 hbox hb; have n0_ := Aside0.mk (blk_below (g := gb130) (o := .cells #[.int .i64 a2_0, .int .i64 a2_1, .int .i64 a2_2, .string a2_3] 33 (0, 0)) (by (with_reducible repeat (first | refine blk_drewN ?_ _ | refine blk_drew ?_ | refine blk_alloc ?_ _)); exact BK130.out) hb); have n1_ := Aside0.mk (blk_below (g := gb131) (o := .cells #[.string x132000_1, .string x132001_1, .int .i64 x132002_1, .bool x132003_1] 57 (0, 0)) (by (with_reducible repeat (first | refine blk_drewN ?_ _ | refine blk_drew ?_ | refine blk_alloc ?_ _)); exact BK131.out) hb); have n2_ := Aside0.mk (below_step (by repeat (first | (with_reducible first | exact HB.out | apply below_alloc | apply pw_below_drewN | apply below_drew1 | refine below_set ?_ GE130.out | refine below_set ?_ GE131.out) | exact HB.out)) hb); have n3_ := Aside0.mk (hbox); have n4_ := Aside0.mk ((by rw [hg]; exact (below_size (by repeat (first | (with_reducible first | exact HB.out | apply below_alloc | apply pw_below_drewN | apply below_drew1 | refine below_set ?_ GE130.out | refine below_set ?_ GE131.out) | exact HB.out))) : w.heap.size ≤ gb137)); have n5_ := Aside0.mk ((by rw [hg]; exact (below_size (by repeat (first | (with_reducible first | exact HB.out | apply below_alloc | apply pw_below_drewN | apply below_drew1 | refine below_set ?_ GE130.out | refine below_set ?_ GE131.out) | exact HB.out))) : w.heap.size ≤ gb137)); have n6_ := Aside0.mk ((by rw [hg]; exact Nat.ne_of_lt (blk_lt (g := gb130) (o := .cells #[.int .i64 a2_0, .int .i64 a2_1, .int .i64 a2_2, .string a2_3] 33 (0, 0)) (by (with_reducible repeat (first | refine blk_drewN ?_ _ | refine blk_drew ?_ | refine blk_alloc ?_ _)); exact BK130.out)) : gb130 ≠ gb137)); have n7_ := Aside0.mk ((by rw [hg]; exact Nat.ne_of_gt (blk_lt (g := gb130) (o := .cells #[.int .i64 a2_0, .int .i64 a2_1, .int .i64 a2_2, .string a2_3] 33 (0, 0)) (by (with_reducible repeat (first | refine blk_drewN ?_ _ | refine blk_drew ?_ | refine blk_alloc ?_ _)); exact BK130.out)) : gb137 ≠ gb130)); have n8_ := Aside0.mk ((by rw [hg]; exact Nat.ne_of_lt (blk_lt (g := gb131) (o := .cells #[.string x132000_1, .string x132001_1, .int .i64 x132002_1, .bool x132003_1] 57 (0, 0)) (by (with_reducible repeat (first | refine blk_drewN ?_ _ | refine blk_drew ?_ | refine blk_alloc ?_ _)); exact BK131.out)) : gb131 ≠ gb137)); have n9_ := Aside0.mk ((by rw [hg]; exact Nat.ne_of_gt (blk_lt (g := gb131) (o := .cells #[.string x132000_1, .string x132001_1, .int .i64 x132002_1, .bool x132003_1] 57 (0, 0)) (by (with_reducible repeat (first | refine blk_drewN ?_ _ | refine blk_drew ?_ | refine blk_alloc ?_ _)); exact BK131.out)) : gb137 ≠ gb131)); clear BK130; clear BK131; clear HB; have BK130 := n0_; have BK131 := n1_; have HB := n2_; have BK137 := n3_; have GW137 := n4_; have GE137 := n5_; have NB130_137 := n6_; have NB137_130 := n7_; have NB131_137 := n8_; have NB137_131 := n9_; clear n0_ n1_ n2_ n3_ n4_ n5_ n6_ n7_ n8_ n9_; clear hb hbox hg; have hnb13 := NB137_130.out; have hnc13 := NB130_137.out; have hnb14 := NB137_131.out; have hnc14 := NB131_137.out; have hcz15_0 : w12.cell? ⟨gb137, 0, none⟩ = some (.string (⟨#[]⟩ : ByteArray)) := (blk_cell BK137.out 0).trans rfl; have hcz15_1 : w12.cell? ⟨gb137, 1, none⟩ = some (.string (⟨#[]⟩ : ByteArray)) := (blk_cell BK137.out 1).trans rfl; have hcz15_2 : w12.cell? ⟨gb137, 2, none⟩ = some (.int .i64 0) := (blk_cell BK137.out 2).trans rfl; have hcz15_3 : w12.cell? ⟨gb137, 3, none⟩ = some (.bool false) := (blk_cell BK137.out 3).trans rfl; have hfz15_0 := blk_frozen BK137.out 0; have hfz15_1 := blk_frozen BK137.out 1; have hfz15_2 := blk_frozen BK137.out 2; have hfz15_3 := blk_frozen BK137.out 3))
            (try simp only [Act.put, List.setIfInBounds_toArray, List.set_cons_zero, List.set_cons_succ])
            go_cut [33] (fun v33 wc => ∃ (kq : Nat) (x33_9 : Bool), v33 = .bool x33_9 ∧ Aside0 (path_Find.j1 kq a1 l0 (l0.length : Int) x14_1 x33_9 a2_0 a2_1 a2_2 a2_3 x132000_1 x132001_1 x132002_1 x132003_1 t134 t135 t136 true = some (r1, r2)) ∧ Aside0 (kq ≤ k1) ∧ Aside0 (wc.heap[gb130]? = some (.cells #[.int .i64 a2_0, .int .i64 a2_1, .int .i64 a2_2, .string a2_3] 33 (0, 0))) ∧ Aside0 (wc.heap[gb131]? = some (.cells #[.string x132000_1, .string x132001_1, .int .i64 x132002_1, .bool x132003_1] 57 (0, 0))) ∧ Aside0 (wc.heap[gb137]? = some (.cells #[.string t134, .string t135, .int .i64 t136, .bool true] 57 (0, 0))) ∧ Aside0 (Below w.heap.size w wc))
            case first =>
              have H := HC10.out
              clear HC10
              replace H := Option.bind_eq_some_iff.mp H
              obtain ⟨t138, A160, H⟩ := H
              replace H : (if t138 = true then ((path_Within.f a1 t135).bind fun t139 => (path_Find.j1 k1 a1 l0 (l0.length : Int) x14_1 (!t139) a2_0 a2_1 a2_2 a2_3 x132000_1 x132001_1 x132002_1 x132003_1 t134 t135 t136 true)) else (path_Find.j1 k1 a1 l0 (l0.length : Int) x14_1 true a2_0 a2_1 a2_2 a2_3 x132000_1 x132001_1 x132002_1 x132003_1 t134 t135 t136 true)) = some (r1, r2) := H
              have A16 := Aside0.mk A160
              clear A160
              by_cases c17 : t138 = true
              · subst c17
                have H1 : ((path_Within.f a1 t135).bind fun t139 => (path_Find.j1 k1 a1 l0 (l0.length : Int) x14_1 (!t139) a2_0 a2_1 a2_2 a2_3 x132000_1 x132001_1 x132002_1 x132003_1 t134 t135 t136 true)) = some (r1, r2) := by rw [if_pos rfl] at H; exact H
                clear H
                have H := H1
                clear H1
                replace H := Option.bind_eq_some_iff.mp H
                obtain ⟨t139, A180, H⟩ := H
                replace H : (path_Find.j1 k1 a1 l0 (l0.length : Int) x14_1 (!t139) a2_0 a2_1 a2_2 a2_3 x132000_1 x132001_1 x132002_1 x132003_1 t134 t135 t136 true) = some (r1, r2) := H
                have A18 := Aside0.mk A180
                clear A180
                have H' := Aside0.mk H
                clear H
                have hnb19 := NB137_130.out
                have hnc19 := NB130_137.out
                have hnb20 := NB137_131.out
                have hnc20 := NB131_137.out
                have hcz21_0 : w12.cell? ⟨gb137, 0, none⟩ = some (.string (⟨#[]⟩ : ByteArray)) := (blk_cell BK137.out 0).trans rfl
                have hcz21_1 : w12.cell? ⟨gb137, 1, none⟩ = some (.string (⟨#[]⟩ : ByteArray)) := (blk_cell BK137.out 1).trans rfl
                have hcz21_2 : w12.cell? ⟨gb137, 2, none⟩ = some (.int .i64 0) := (blk_cell BK137.out 2).trans rfl
                have hcz21_3 : w12.cell? ⟨gb137, 3, none⟩ = some (.bool false) := (blk_cell BK137.out 3).trans rfl
                have hfz21_0 := blk_frozen BK137.out 0
                have hfz21_1 := blk_frozen BK137.out 1
                have hfz21_2 := blk_frozen BK137.out 2
                have hfz21_3 := blk_frozen BK137.out 3
                have hnb22 := NB130_131.out
                have hnc22 := NB131_130.out
                have hcz23_0 : w12.cell? ⟨gb130, 0, none⟩ = some (.int .i64 a2_0) := (blk_cell BK130.out 0).trans rfl
                have hcz23_1 : w12.cell? ⟨gb130, 1, none⟩ = some (.int .i64 a2_1) := (blk_cell BK130.out 1).trans rfl
                have hcz23_2 : w12.cell? ⟨gb130, 2, none⟩ = some (.int .i64 a2_2) := (blk_cell BK130.out 2).trans rfl
                have hcz23_3 : w12.cell? ⟨gb130, 3, none⟩ = some (.string a2_3) := (blk_cell BK130.out 3).trans rfl
                have hfz23_0 := blk_frozen BK130.out 0
                have hfz23_1 := blk_frozen BK130.out 1
                have hfz23_2 := blk_frozen BK130.out 2
                have hfz23_3 := blk_frozen BK130.out 3
                go_wp2_with (first | ((with_reducible refine gate_callee (f := 34) rfl ?_); refine goesL_ (some 24) rfl rfl Try.func34 (by kernel_rfl) rfl #[.agg #[.string t134, .string t135, .int .i64 t136], .agg #[.int .i64 a2_0, .int .i64 a2_1, .int .i64 a2_2, .string a2_3]] rfl (by (try simp only [List.map_toArray, List.map_cons, List.map_nil]); first | done | rfl | (simp only [List.length_drop, List.length_take]; rfl)) ?_; (with_reducible refine (path_parted_fits.calls t134 t135 t136 a2_0 a2_1 a2_2 a2_3 true _ A16.out).mono ?_); rintro e w24 ⟨rfl, hb⟩; refine ⟨_, rfl, ?_⟩; have n0_ := Aside0.mk (blk_below (g := gb130) (o := .cells #[.int .i64 a2_0, .int .i64 a2_1, .int .i64 a2_2, .string a2_3] 33 (0, 0)) (by (with_reducible repeat (first | refine blk_drewN ?_ _ | refine blk_drew ?_ | refine blk_alloc ?_ _)); refine blk_far ?_ NB130_137.out _; (with_reducible repeat (first | refine blk_drewN ?_ _ | refine blk_drew ?_ | refine blk_alloc ?_ _)); refine blk_far ?_ NB130_137.out _; (with_reducible repeat (first | refine blk_drewN ?_ _ | refine blk_drew ?_ | refine blk_alloc ?_ _)); refine blk_far ?_ NB130_137.out _; (with_reducible repeat (first | refine blk_drewN ?_ _ | refine blk_drew ?_ | refine blk_alloc ?_ _)); refine blk_far ?_ NB130_137.out _; (with_reducible repeat (first | refine blk_drewN ?_ _ | refine blk_drew ?_ | refine blk_alloc ?_ _)); exact BK130.out) hb); have n1_ := Aside0.mk (blk_below (g := gb131) (o := .cells #[.string x132000_1, .string x132001_1, .int .i64 x132002_1, .bool x132003_1] 57 (0, 0)) (by (with_reducible repeat (first | refine blk_drewN ?_ _ | refine blk_drew ?_ | refine blk_alloc ?_ _)); refine blk_far ?_ NB131_137.out _; (with_reducible repeat (first | refine blk_drewN ?_ _ | refine blk_drew ?_ | refine blk_alloc ?_ _)); refine blk_far ?_ NB131_137.out _; (with_reducible repeat (first | refine blk_drewN ?_ _ | refine blk_drew ?_ | refine blk_alloc ?_ _)); refine blk_far ?_ NB131_137.out _; (with_reducible repeat (first | refine blk_drewN ?_ _ | refine blk_drew ?_ | refine blk_alloc ?_ _)); refine blk_far ?_ NB131_137.out _; (with_reducible repeat (first | refine blk_drewN ?_ _ | refine blk_drew ?_ | refine blk_alloc ?_ _)); exact BK131.out) hb); have n2_ := Aside0.mk (blk_below (g := gb137) (o := .cells #[.string t134, .string t135, .int .i64 t136, .bool true] 57 (0, 0)) (by (with_reducible repeat (first | refine blk_drewN ?_ _ | refine blk_drew ?_ | refine blk_alloc ?_ _)); refine blk_put (cs := #[.string t134, .string t135, .int .i64 t136, .bool false]) ?_ 3 _ rfl; (with_reducible repeat (first | refine blk_drewN ?_ _ | refine blk_drew ?_ | refine blk_alloc ?_ _)); refine blk_put (cs := #[.string t134, .string t135, .int .i64 0, .bool false]) ?_ 2 _ rfl; (with_reducible repeat (first | refine blk_drewN ?_ _ | refine blk_drew ?_ | refine blk_alloc ?_ _)); refine blk_put (cs := #[.string t134, .string (⟨#[]⟩ : ByteArray), .int .i64 0, .bool false]) ?_ 1 _ rfl; (with_reducible repeat (first | refine blk_drewN ?_ _ | refine blk_drew ?_ | refine blk_alloc ?_ _)); refine blk_put (cs := #[.string (⟨#[]⟩ : ByteArray), .string (⟨#[]⟩ : ByteArray), .int .i64 0, .bool false]) ?_ 0 _ rfl; (with_reducible repeat (first | refine blk_drewN ?_ _ | refine blk_drew ?_ | refine blk_alloc ?_ _)); exact BK137.out) hb); have n3_ := Aside0.mk (below_step (by repeat (first | (with_reducible first | exact HB.out | apply below_alloc | apply pw_below_drewN | apply below_drew1 | refine below_set ?_ GE130.out | refine below_set ?_ GE131.out | refine below_set ?_ GE137.out) | exact HB.out)) hb); clear BK130; clear BK131; clear BK137; clear HB; have BK130 := n0_; have BK131 := n1_; have BK137 := n2_; have HB := n3_; clear n0_ n1_ n2_ n3_; (try clear hb); (try clear hb2); (try clear hk); (try clear hi); have hcz25_0 : w24.cell? ⟨gb137, 0, none⟩ = some (.string t134) := (blk_cell BK137.out 0).trans rfl; have hcz25_1 : w24.cell? ⟨gb137, 1, none⟩ = some (.string t135) := (blk_cell BK137.out 1).trans rfl; have hcz25_2 : w24.cell? ⟨gb137, 2, none⟩ = some (.int .i64 t136) := (blk_cell BK137.out 2).trans rfl; have hcz25_3 : w24.cell? ⟨gb137, 3, none⟩ = some (.bool true) := (blk_cell BK137.out 3).trans rfl; have hfz25_0 := blk_frozen BK137.out 0; have hfz25_1 := blk_frozen BK137.out 1; have hfz25_2 := blk_frozen BK137.out 2; have hfz25_3 := blk_frozen BK137.out 3) | (go_at_call 23; (with_reducible refine (path_Within.calls a1 t135 t139 _ A18.out).mono ?_); rintro e w' ⟨rfl, ⟨nd, rfl⟩⟩))
                go_meet
                case rel => exact ⟨_, (!t139), (by first | rfl | (simp; done) | (simp [*]; done)), H', ⟨by have := HK1.out; first | omega | exact Nat.le_refl _⟩, ⟨by (with_reducible repeat (first | refine blk_drewN ?_ _ | refine blk_drew ?_ | refine blk_alloc ?_ _)); exact BK130.out⟩, ⟨by (with_reducible repeat (first | refine blk_drewN ?_ _ | refine blk_drew ?_ | refine blk_alloc ?_ _)); exact BK131.out⟩, ⟨by (with_reducible repeat (first | refine blk_drewN ?_ _ | refine blk_drew ?_ | refine blk_alloc ?_ _)); exact BK137.out⟩, ⟨by repeat (first | (with_reducible first | exact HB.out | apply below_alloc | apply pw_below_drewN | apply below_drew1 | refine below_set ?_ GE130.out | refine below_set ?_ GE131.out | refine below_set ?_ GE137.out) | exact HB.out)⟩⟩
              · replace c17 := Bool.eq_false_iff.mpr c17
                subst c17
                have H1 : (path_Find.j1 k1 a1 l0 (l0.length : Int) x14_1 true a2_0 a2_1 a2_2 a2_3 x132000_1 x132001_1 x132002_1 x132003_1 t134 t135 t136 true) = some (r1, r2) := by rw [if_neg (show ¬ (false = true) by decide)] at H; exact H
                clear H
                have H := H1
                clear H1
                have H' := Aside0.mk H
                clear H
                have hnb26 := NB137_130.out
                have hnc26 := NB130_137.out
                have hnb27 := NB137_131.out
                have hnc27 := NB131_137.out
                have hcz28_0 : w12.cell? ⟨gb137, 0, none⟩ = some (.string (⟨#[]⟩ : ByteArray)) := (blk_cell BK137.out 0).trans rfl
                have hcz28_1 : w12.cell? ⟨gb137, 1, none⟩ = some (.string (⟨#[]⟩ : ByteArray)) := (blk_cell BK137.out 1).trans rfl
                have hcz28_2 : w12.cell? ⟨gb137, 2, none⟩ = some (.int .i64 0) := (blk_cell BK137.out 2).trans rfl
                have hcz28_3 : w12.cell? ⟨gb137, 3, none⟩ = some (.bool false) := (blk_cell BK137.out 3).trans rfl
                have hfz28_0 := blk_frozen BK137.out 0
                have hfz28_1 := blk_frozen BK137.out 1
                have hfz28_2 := blk_frozen BK137.out 2
                have hfz28_3 := blk_frozen BK137.out 3
                have hnb29 := NB130_131.out
                have hnc29 := NB131_130.out
                have hcz30_0 : w12.cell? ⟨gb130, 0, none⟩ = some (.int .i64 a2_0) := (blk_cell BK130.out 0).trans rfl
                have hcz30_1 : w12.cell? ⟨gb130, 1, none⟩ = some (.int .i64 a2_1) := (blk_cell BK130.out 1).trans rfl
                have hcz30_2 : w12.cell? ⟨gb130, 2, none⟩ = some (.int .i64 a2_2) := (blk_cell BK130.out 2).trans rfl
                have hcz30_3 : w12.cell? ⟨gb130, 3, none⟩ = some (.string a2_3) := (blk_cell BK130.out 3).trans rfl
                have hfz30_0 := blk_frozen BK130.out 0
                have hfz30_1 := blk_frozen BK130.out 1
                have hfz30_2 := blk_frozen BK130.out 2
                have hfz30_3 := blk_frozen BK130.out 3
                go_wp2_with (first | ((with_reducible refine gate_callee (f := 34) rfl ?_); refine goesL_ (some 24) rfl rfl Try.func34 (by kernel_rfl) rfl #[.agg #[.string t134, .string t135, .int .i64 t136], .agg #[.int .i64 a2_0, .int .i64 a2_1, .int .i64 a2_2, .string a2_3]] rfl (by (try simp only [List.map_toArray, List.map_cons, List.map_nil]); first | done | rfl | (simp only [List.length_drop, List.length_take]; rfl)) ?_; (with_reducible refine (path_parted_fits.calls t134 t135 t136 a2_0 a2_1 a2_2 a2_3 false _ A16.out).mono ?_); rintro e w31 ⟨rfl, hb⟩; refine ⟨_, rfl, ?_⟩; have n0_ := Aside0.mk (blk_below (g := gb130) (o := .cells #[.int .i64 a2_0, .int .i64 a2_1, .int .i64 a2_2, .string a2_3] 33 (0, 0)) (by (with_reducible repeat (first | refine blk_drewN ?_ _ | refine blk_drew ?_ | refine blk_alloc ?_ _)); refine blk_far ?_ NB130_137.out _; (with_reducible repeat (first | refine blk_drewN ?_ _ | refine blk_drew ?_ | refine blk_alloc ?_ _)); refine blk_far ?_ NB130_137.out _; (with_reducible repeat (first | refine blk_drewN ?_ _ | refine blk_drew ?_ | refine blk_alloc ?_ _)); refine blk_far ?_ NB130_137.out _; (with_reducible repeat (first | refine blk_drewN ?_ _ | refine blk_drew ?_ | refine blk_alloc ?_ _)); refine blk_far ?_ NB130_137.out _; (with_reducible repeat (first | refine blk_drewN ?_ _ | refine blk_drew ?_ | refine blk_alloc ?_ _)); exact BK130.out) hb); have n1_ := Aside0.mk (blk_below (g := gb131) (o := .cells #[.string x132000_1, .string x132001_1, .int .i64 x132002_1, .bool x132003_1] 57 (0, 0)) (by (with_reducible repeat (first | refine blk_drewN ?_ _ | refine blk_drew ?_ | refine blk_alloc ?_ _)); refine blk_far ?_ NB131_137.out _; (with_reducible repeat (first | refine blk_drewN ?_ _ | refine blk_drew ?_ | refine blk_alloc ?_ _)); refine blk_far ?_ NB131_137.out _; (with_reducible repeat (first | refine blk_drewN ?_ _ | refine blk_drew ?_ | refine blk_alloc ?_ _)); refine blk_far ?_ NB131_137.out _; (with_reducible repeat (first | refine blk_drewN ?_ _ | refine blk_drew ?_ | refine blk_alloc ?_ _)); refine blk_far ?_ NB131_137.out _; (with_reducible repeat (first | refine blk_drewN ?_ _ | refine blk_drew ?_ | refine blk_alloc ?_ _)); exact BK131.out) hb); have n2_ := Aside0.mk (blk_below (g := gb137) (o := .cells #[.string t134, .string t135, .int .i64 t136, .bool true] 57 (0, 0)) (by (with_reducible repeat (first | refine blk_drewN ?_ _ | refine blk_drew ?_ | refine blk_alloc ?_ _)); refine blk_put (cs := #[.string t134, .string t135, .int .i64 t136, .bool false]) ?_ 3 _ rfl; (with_reducible repeat (first | refine blk_drewN ?_ _ | refine blk_drew ?_ | refine blk_alloc ?_ _)); refine blk_put (cs := #[.string t134, .string t135, .int .i64 0, .bool false]) ?_ 2 _ rfl; (with_reducible repeat (first | refine blk_drewN ?_ _ | refine blk_drew ?_ | refine blk_alloc ?_ _)); refine blk_put (cs := #[.string t134, .string (⟨#[]⟩ : ByteArray), .int .i64 0, .bool false]) ?_ 1 _ rfl; (with_reducible repeat (first | refine blk_drewN ?_ _ | refine blk_drew ?_ | refine blk_alloc ?_ _)); refine blk_put (cs := #[.string (⟨#[]⟩ : ByteArray), .string (⟨#[]⟩ : ByteArray), .int .i64 0, .bool false]) ?_ 0 _ rfl; (with_reducible repeat (first | refine blk_drewN ?_ _ | refine blk_drew ?_ | refine blk_alloc ?_ _)); exact BK137.out) hb); have n3_ := Aside0.mk (below_step (by repeat (first | (with_reducible first | exact HB.out | apply below_alloc | apply pw_below_drewN | apply below_drew1 | refine below_set ?_ GE130.out | refine below_set ?_ GE131.out | refine below_set ?_ GE137.out) | exact HB.out)) hb); clear BK130; clear BK131; clear BK137; clear HB; have BK130 := n0_; have BK131 := n1_; have BK137 := n2_; have HB := n3_; clear n0_ n1_ n2_ n3_; (try clear hb); (try clear hb2); (try clear hk); (try clear hi)))
                go_meet
                case rel => exact ⟨_, (true), (by first | rfl | (simp; done) | (simp [*]; done)), H', ⟨by have := HK1.out; first | omega | exact Nat.le_refl _⟩, ⟨by (with_reducible repeat (first | refine blk_drewN ?_ _ | refine blk_drew ?_ | refine blk_alloc ?_ _)); exact BK130.out⟩, ⟨by (with_reducible repeat (first | refine blk_drewN ?_ _ | refine blk_drew ?_ | refine blk_alloc ?_ _)); exact BK131.out⟩, ⟨by (with_reducible repeat (first | refine blk_drewN ?_ _ | refine blk_drew ?_ | refine blk_alloc ?_ _)); exact BK137.out⟩, ⟨by repeat (first | (with_reducible first | exact HB.out | apply below_alloc | apply pw_below_drewN | apply below_drew1 | refine below_set ?_ GE130.out | refine below_set ?_ GE131.out | refine below_set ?_ GE137.out) | exact HB.out)⟩⟩
            case rest =>
              clear HC10
              try clear c1
              try clear p1
              try clear q1
              try clear hx1
              try clear c2
              try clear p2
              try clear c3
              try clear c6
              try clear c6b0
              try clear c7
              try clear c7b0
              try clear c8
              try clear c8b0
              try clear c13
              try clear p13
              try clear q13
              try clear hx13
              try clear c14
              try clear c17
              try clear c19
              try clear c20
              try clear c22
              try clear c25
              try clear c26
              try clear c27
              try clear c29
              try clear c30
              try clear hcz15_0
              try clear hcz15_1
              try clear hcz15_2
              try clear hcz15_3
              try clear hcz21_0
              try clear hcz21_1
              try clear hcz21_2
              try clear hcz21_3
              try clear hcz23_0
              try clear hcz23_1
              try clear hcz23_2
              try clear hcz23_3
              try clear hcz25_0
              try clear hcz25_1
              try clear hcz25_2
              try clear hcz25_3
              try clear hcz28_0
              try clear hcz28_1
              try clear hcz28_2
              try clear hcz28_3
              try clear hcz30_0
              try clear hcz30_1
              try clear hcz30_2
              try clear hcz30_3
              try clear hfz15_0
              try clear hfz15_1
              try clear hfz15_2
              try clear hfz15_3
              try clear hfz21_0
              try clear hfz21_1
              try clear hfz21_2
              try clear hfz21_3
              try clear hfz23_0
              try clear hfz23_1
              try clear hfz23_2
              try clear hfz23_3
              try clear hfz25_0
              try clear hfz25_1
              try clear hfz25_2
              try clear hfz25_3
              try clear hfz28_0
              try clear hfz28_1
              try clear hfz28_2
              try clear hfz28_3
              try clear hfz30_0
              try clear hfz30_1
              try clear hfz30_2
              try clear hfz30_3
              try clear hx133_0
              try clear p133
              try clear p2
              try clear q133
              obtain ⟨kq, x33_9, rfl, HA, HJ9, BK130, BK131, BK137, HB⟩ := hcut
              cases kq with
              | zero => exact absurd HA.out (by simp [path_Find.j1])
              | succ kj9 =>
                have H := HA.out
                clear HA
                simp only [path_Find.j1] at H
                by_cases c32 : x33_9 = true
                · subst c32
                  have H1 : (path_Find.l0 kj9 a1 l0 (l0.length : Int) (wrap64 (x14_1 + 1)) a2_0 a2_1 a2_2 a2_3 x132000_1 x132001_1 x132002_1 x132003_1) = some (r1, r2) := by rw [if_pos rfl] at H; exact H
                  clear H
                  have H := H1
                  clear H1
                  have H' := Aside0.mk H
                  clear H
                  go_wp2
                  go_roundg kj9
                  case measure => have := HK1.out; have := HJ9.out; omega
                  case rel => exact ⟨(wrap64 (x14_1 + 1)), (x132000_1), (x132001_1), (x132002_1), (x132003_1), (by first | rfl | (simp; done) | (simp [*]; done)), H', ⟨by have := HK1.out; have := HJ9.out; omega⟩, ⟨by (with_reducible repeat (first | refine blk_drewN ?_ _ | refine blk_drew ?_ | refine blk_alloc ?_ _)); exact BK130.out⟩, ⟨by (with_reducible repeat (first | refine blk_drewN ?_ _ | refine blk_drew ?_ | refine blk_alloc ?_ _)); exact BK131.out⟩, ⟨by repeat (first | (with_reducible first | exact HB.out | apply below_alloc | apply pw_below_drewN | apply below_drew1 | refine below_set ?_ GE130.out | refine below_set ?_ GE131.out | refine below_set ?_ GE137.out) | exact HB.out)⟩⟩
                · replace c32 := Bool.eq_false_iff.mpr c32
                  subst c32
                  have H1 : (if x132003_1 = true then (if (t135.size : Int) > (x132001_1.size : Int) then (path_Find.j2 kj9 a1 l0 (l0.length : Int) x14_1 true a2_0 a2_1 a2_2 a2_3 x132000_1 x132001_1 x132002_1 x132003_1 t134 t135 t136 true) else (if (t135.size : Int) = (x132001_1.size : Int) then (path_Find.j2 kj9 a1 l0 (l0.length : Int) x14_1 (Op.bytesLess t134.toList x132000_1.toList) a2_0 a2_1 a2_2 a2_3 x132000_1 x132001_1 x132002_1 x132003_1 t134 t135 t136 true) else (path_Find.j2 kj9 a1 l0 (l0.length : Int) x14_1 false a2_0 a2_1 a2_2 a2_3 x132000_1 x132001_1 x132002_1 x132003_1 t134 t135 t136 true))) else (path_Find.j2 kj9 a1 l0 (l0.length : Int) x14_1 true a2_0 a2_1 a2_2 a2_3 x132000_1 x132001_1 x132002_1 x132003_1 t134 t135 t136 true)) = some (r1, r2) := by rw [if_neg (show ¬ (false = true) by decide)] at H; exact H
                  clear H
                  have H := H1
                  clear H1
                  have HC33 := Aside0.mk H
                  clear H
                  go_upto_region 7 with (fail)
                  go_cut [67] (fun v67 wc => ∃ (kq : Nat) (x67_32 : Bool), v67 = .bool x67_32 ∧ Aside0 (path_Find.j2 kq a1 l0 (l0.length : Int) x14_1 x67_32 a2_0 a2_1 a2_2 a2_3 x132000_1 x132001_1 x132002_1 x132003_1 t134 t135 t136 true = some (r1, r2)) ∧ Aside0 (kq ≤ kj9) ∧ Aside0 (wc.heap[gb130]? = some (.cells #[.int .i64 a2_0, .int .i64 a2_1, .int .i64 a2_2, .string a2_3] 33 (0, 0))) ∧ Aside0 (wc.heap[gb131]? = some (.cells #[.string x132000_1, .string x132001_1, .int .i64 x132002_1, .bool x132003_1] 57 (0, 0))) ∧ Aside0 (wc.heap[gb137]? = some (.cells #[.string t134, .string t135, .int .i64 t136, .bool true] 57 (0, 0))) ∧ Aside0 (Below w.heap.size w wc))
                  case first =>
                    have H := HC33.out
                    clear HC33
                    by_cases c34 : x132003_1 = true
                    · subst c34
                      have H1 : (if (t135.size : Int) > (x132001_1.size : Int) then (path_Find.j2 kj9 a1 l0 (l0.length : Int) x14_1 true a2_0 a2_1 a2_2 a2_3 x132000_1 x132001_1 x132002_1 true t134 t135 t136 true) else (if (t135.size : Int) = (x132001_1.size : Int) then (path_Find.j2 kj9 a1 l0 (l0.length : Int) x14_1 (Op.bytesLess t134.toList x132000_1.toList) a2_0 a2_1 a2_2 a2_3 x132000_1 x132001_1 x132002_1 true t134 t135 t136 true) else (path_Find.j2 kj9 a1 l0 (l0.length : Int) x14_1 false a2_0 a2_1 a2_2 a2_3 x132000_1 x132001_1 x132002_1 true t134 t135 t136 true))) = some (r1, r2) := by rw [if_pos rfl] at H; exact H
                      clear H
                      have H := H1
                      clear H1
                      by_cases c35 : (t135.size : Int) > (x132001_1.size : Int)
                      · rw [if_pos c35] at H
                        have c35b0 : decide ((x132001_1.size : Int) < (t135.size : Int)) = true := decide_eq_true c35
                        have c35b1 : decide (x132001_1.size < t135.size) = true := decide_eq_true (Int.ofNat_lt.mp c35)
                        clear c35
                        (first | rw [c35b0] | (simp only [i64_w, i32_w]; rw [c35b0]) | skip)
                        have H' := Aside0.mk H
                        clear H
                        have hnb36 := NB131_130.out
                        have hnc36 := NB130_131.out
                        have hnb37 := NB131_137.out
                        have hnc37 := NB137_131.out
                        have hcz38_0 : wc.cell? ⟨gb131, 0, none⟩ = some (.string x132000_1) := (blk_cell BK131.out 0).trans rfl
                        have hcz38_1 : wc.cell? ⟨gb131, 1, none⟩ = some (.string x132001_1) := (blk_cell BK131.out 1).trans rfl
                        have hcz38_2 : wc.cell? ⟨gb131, 2, none⟩ = some (.int .i64 x132002_1) := (blk_cell BK131.out 2).trans rfl
                        have hcz38_3 : wc.cell? ⟨gb131, 3, none⟩ = some (.bool true) := (blk_cell BK131.out 3).trans rfl
                        have hfz38_0 := blk_frozen BK131.out 0
                        have hfz38_1 := blk_frozen BK131.out 1
                        have hfz38_2 := blk_frozen BK131.out 2
                        have hfz38_3 := blk_frozen BK131.out 3
                        have hnb39 := NB137_130.out
                        have hnc39 := NB130_137.out
                        have hcz40_0 : wc.cell? ⟨gb137, 0, none⟩ = some (.string t134) := (blk_cell BK137.out 0).trans rfl
                        have hcz40_1 : wc.cell? ⟨gb137, 1, none⟩ = some (.string t135) := (blk_cell BK137.out 1).trans rfl
                        have hcz40_2 : wc.cell? ⟨gb137, 2, none⟩ = some (.int .i64 t136) := (blk_cell BK137.out 2).trans rfl
                        have hcz40_3 : wc.cell? ⟨gb137, 3, none⟩ = some (.bool true) := (blk_cell BK137.out 3).trans rfl
                        have hfz40_0 := blk_frozen BK137.out 0
                        have hfz40_1 := blk_frozen BK137.out 1
                        have hfz40_2 := blk_frozen BK137.out 2
                        have hfz40_3 := blk_frozen BK137.out 3
                        go_wp2
                        go_meet
                        case rel => exact ⟨_, (true), (by first | rfl | (simp; done) | (simp [*]; done)), H', ⟨by have := HK1.out; have := HJ9.out; first | omega | exact Nat.le_refl _⟩, ⟨by (with_reducible repeat (first | refine blk_drewN ?_ _ | refine blk_drew ?_ | refine blk_alloc ?_ _)); exact BK130.out⟩, ⟨by (with_reducible repeat (first | refine blk_drewN ?_ _ | refine blk_drew ?_ | refine blk_alloc ?_ _)); exact BK131.out⟩, ⟨by (with_reducible repeat (first | refine blk_drewN ?_ _ | refine blk_drew ?_ | refine blk_alloc ?_ _)); exact BK137.out⟩, ⟨by repeat (first | (with_reducible first | exact HB.out | apply below_alloc | apply pw_below_drewN | apply below_drew1 | refine below_set ?_ GE130.out | refine below_set ?_ GE131.out | refine below_set ?_ GE137.out) | exact HB.out)⟩⟩
                      · rw [if_neg c35] at H
                        have c35b0 : decide ((x132001_1.size : Int) < (t135.size : Int)) = false := decide_eq_false c35
                        have c35b1 : decide (x132001_1.size < t135.size) = false := decide_eq_false (fun h => c35 (Int.ofNat_lt.mpr h))
                        clear c35
                        (first | rw [c35b0] | (simp only [i64_w, i32_w]; rw [c35b0]) | skip)
                        by_cases c41 : (t135.size : Int) = (x132001_1.size : Int)
                        · rw [if_pos c41] at H
                          have c41b0 : ((t135.size : Int) == (x132001_1.size : Int)) = true := beq_iff_eq.mpr c41
                          have c41b1 : ((t135.size : Int) != (x132001_1.size : Int)) = false := bne_eq_false_iff_eq.mpr c41
                          have c41b2 : (t135.size == x132001_1.size) = true := by first | simpa using c41 | (simp at c41 ⊢; omega)
                          clear c41
                          have H' := Aside0.mk H
                          clear H
                          have hnb42 := NB131_130.out
                          have hnc42 := NB130_131.out
                          have hnb43 := NB131_137.out
                          have hnc43 := NB137_131.out
                          have hcz44_0 : wc.cell? ⟨gb131, 0, none⟩ = some (.string x132000_1) := (blk_cell BK131.out 0).trans rfl
                          have hcz44_1 : wc.cell? ⟨gb131, 1, none⟩ = some (.string x132001_1) := (blk_cell BK131.out 1).trans rfl
                          have hcz44_2 : wc.cell? ⟨gb131, 2, none⟩ = some (.int .i64 x132002_1) := (blk_cell BK131.out 2).trans rfl
                          have hcz44_3 : wc.cell? ⟨gb131, 3, none⟩ = some (.bool true) := (blk_cell BK131.out 3).trans rfl
                          have hfz44_0 := blk_frozen BK131.out 0
                          have hfz44_1 := blk_frozen BK131.out 1
                          have hfz44_2 := blk_frozen BK131.out 2
                          have hfz44_3 := blk_frozen BK131.out 3
                          have hnb45 := NB137_130.out
                          have hnc45 := NB130_137.out
                          have hcz46_0 : wc.cell? ⟨gb137, 0, none⟩ = some (.string t134) := (blk_cell BK137.out 0).trans rfl
                          have hcz46_1 : wc.cell? ⟨gb137, 1, none⟩ = some (.string t135) := (blk_cell BK137.out 1).trans rfl
                          have hcz46_2 : wc.cell? ⟨gb137, 2, none⟩ = some (.int .i64 t136) := (blk_cell BK137.out 2).trans rfl
                          have hcz46_3 : wc.cell? ⟨gb137, 3, none⟩ = some (.bool true) := (blk_cell BK137.out 3).trans rfl
                          have hfz46_0 := blk_frozen BK137.out 0
                          have hfz46_1 := blk_frozen BK137.out 1
                          have hfz46_2 := blk_frozen BK137.out 2
                          have hfz46_3 := blk_frozen BK137.out 3
                          go_wp2
                          go_meet
                          case rel => exact ⟨_, ((Op.bytesLess t134.toList x132000_1.toList)), (by first | rfl | (simp; done) | (simp [*]; done)), H', ⟨by have := HK1.out; have := HJ9.out; first | omega | exact Nat.le_refl _⟩, ⟨by (with_reducible repeat (first | refine blk_drewN ?_ _ | refine blk_drew ?_ | refine blk_alloc ?_ _)); exact BK130.out⟩, ⟨by (with_reducible repeat (first | refine blk_drewN ?_ _ | refine blk_drew ?_ | refine blk_alloc ?_ _)); exact BK131.out⟩, ⟨by (with_reducible repeat (first | refine blk_drewN ?_ _ | refine blk_drew ?_ | refine blk_alloc ?_ _)); exact BK137.out⟩, ⟨by repeat (first | (with_reducible first | exact HB.out | apply below_alloc | apply pw_below_drewN | apply below_drew1 | refine below_set ?_ GE130.out | refine below_set ?_ GE131.out | refine below_set ?_ GE137.out) | exact HB.out)⟩⟩
                        · rw [if_neg c41] at H
                          have c41b0 : ((t135.size : Int) == (x132001_1.size : Int)) = false := beq_eq_false_iff_ne.mpr c41
                          have c41b1 : ((t135.size : Int) != (x132001_1.size : Int)) = true := bne_iff_ne.mpr c41
                          have c41b2 : (t135.size == x132001_1.size) = false := by first | simpa using c41 | (simp at c41 ⊢; omega)
                          have H' := Aside0.mk H
                          clear H
                          have hnb47 := NB131_130.out
                          have hnc47 := NB130_131.out
                          have hnb48 := NB131_137.out
                          have hnc48 := NB137_131.out
                          have hcz49_0 : wc.cell? ⟨gb131, 0, none⟩ = some (.string x132000_1) := (blk_cell BK131.out 0).trans rfl
                          have hcz49_1 : wc.cell? ⟨gb131, 1, none⟩ = some (.string x132001_1) := (blk_cell BK131.out 1).trans rfl
                          have hcz49_2 : wc.cell? ⟨gb131, 2, none⟩ = some (.int .i64 x132002_1) := (blk_cell BK131.out 2).trans rfl
                          have hcz49_3 : wc.cell? ⟨gb131, 3, none⟩ = some (.bool true) := (blk_cell BK131.out 3).trans rfl
                          have hfz49_0 := blk_frozen BK131.out 0
                          have hfz49_1 := blk_frozen BK131.out 1
                          have hfz49_2 := blk_frozen BK131.out 2
                          have hfz49_3 := blk_frozen BK131.out 3
                          have hnb50 := NB137_130.out
                          have hnc50 := NB130_137.out
                          have hcz51_0 : wc.cell? ⟨gb137, 0, none⟩ = some (.string t134) := (blk_cell BK137.out 0).trans rfl
                          have hcz51_1 : wc.cell? ⟨gb137, 1, none⟩ = some (.string t135) := (blk_cell BK137.out 1).trans rfl
                          have hcz51_2 : wc.cell? ⟨gb137, 2, none⟩ = some (.int .i64 t136) := (blk_cell BK137.out 2).trans rfl
                          have hcz51_3 : wc.cell? ⟨gb137, 3, none⟩ = some (.bool true) := (blk_cell BK137.out 3).trans rfl
                          have hfz51_0 := blk_frozen BK137.out 0
                          have hfz51_1 := blk_frozen BK137.out 1
                          have hfz51_2 := blk_frozen BK137.out 2
                          have hfz51_3 := blk_frozen BK137.out 3
                          go_wp2
                          go_meet
                          case rel => exact ⟨_, (false), (by first | rfl | (simp; done) | (simp [*]; done)), H', ⟨by have := HK1.out; have := HJ9.out; first | omega | exact Nat.le_refl _⟩, ⟨by (with_reducible repeat (first | refine blk_drewN ?_ _ | refine blk_drew ?_ | refine blk_alloc ?_ _)); exact BK130.out⟩, ⟨by (with_reducible repeat (first | refine blk_drewN ?_ _ | refine blk_drew ?_ | refine blk_alloc ?_ _)); exact BK131.out⟩, ⟨by (with_reducible repeat (first | refine blk_drewN ?_ _ | refine blk_drew ?_ | refine blk_alloc ?_ _)); exact BK137.out⟩, ⟨by repeat (first | (with_reducible first | exact HB.out | apply below_alloc | apply pw_below_drewN | apply below_drew1 | refine below_set ?_ GE130.out | refine below_set ?_ GE131.out | refine below_set ?_ GE137.out) | exact HB.out)⟩⟩
                    · replace c34 := Bool.eq_false_iff.mpr c34
                      subst c34
                      have H1 : (path_Find.j2 kj9 a1 l0 (l0.length : Int) x14_1 true a2_0 a2_1 a2_2 a2_3 x132000_1 x132001_1 x132002_1 false t134 t135 t136 true) = some (r1, r2) := by rw [if_neg (show ¬ (false = true) by decide)] at H; exact H
                      clear H
                      have H := H1
                      clear H1
                      have H' := Aside0.mk H
                      clear H
                      have hnb52 := NB131_130.out
                      have hnc52 := NB130_131.out
                      have hnb53 := NB131_137.out
                      have hnc53 := NB137_131.out
                      have hcz54_0 : wc.cell? ⟨gb131, 0, none⟩ = some (.string x132000_1) := (blk_cell BK131.out 0).trans rfl
                      have hcz54_1 : wc.cell? ⟨gb131, 1, none⟩ = some (.string x132001_1) := (blk_cell BK131.out 1).trans rfl
                      have hcz54_2 : wc.cell? ⟨gb131, 2, none⟩ = some (.int .i64 x132002_1) := (blk_cell BK131.out 2).trans rfl
                      have hcz54_3 : wc.cell? ⟨gb131, 3, none⟩ = some (.bool false) := (blk_cell BK131.out 3).trans rfl
                      have hfz54_0 := blk_frozen BK131.out 0
                      have hfz54_1 := blk_frozen BK131.out 1
                      have hfz54_2 := blk_frozen BK131.out 2
                      have hfz54_3 := blk_frozen BK131.out 3
                      go_wp2
                      go_meet
                      case rel => exact ⟨_, (true), (by first | rfl | (simp; done) | (simp [*]; done)), H', ⟨by have := HK1.out; have := HJ9.out; first | omega | exact Nat.le_refl _⟩, ⟨by (with_reducible repeat (first | refine blk_drewN ?_ _ | refine blk_drew ?_ | refine blk_alloc ?_ _)); exact BK130.out⟩, ⟨by (with_reducible repeat (first | refine blk_drewN ?_ _ | refine blk_drew ?_ | refine blk_alloc ?_ _)); exact BK131.out⟩, ⟨by (with_reducible repeat (first | refine blk_drewN ?_ _ | refine blk_drew ?_ | refine blk_alloc ?_ _)); exact BK137.out⟩, ⟨by repeat (first | (with_reducible first | exact HB.out | apply below_alloc | apply pw_below_drewN | apply below_drew1 | refine below_set ?_ GE130.out | refine below_set ?_ GE131.out | refine below_set ?_ GE137.out) | exact HB.out)⟩⟩
                  case rest =>
                    clear HC33
                    try clear c1
                    try clear p1
                    try clear q1
                    try clear hx1
                    try clear c2
                    try clear p2
                    try clear c3
                    try clear c4
                    try clear c5
                    try clear c6
                    try clear c6b0
                    try clear p6
                    try clear c7
                    try clear c7b0
                    try clear c8
                    try clear c8b0
                    try clear c13
                    try clear p13
                    try clear q13
                    try clear hx13
                    try clear c14
                    try clear c17
                    try clear c19
                    try clear c20
                    try clear c22
                    try clear c25
                    try clear c26
                    try clear c27
                    try clear c29
                    try clear c30
                    try clear c32
                    try clear c34
                    try clear c35
                    try clear c35b0
                    try clear c35b1
                    try clear c36
                    try clear c37
                    try clear c39
                    try clear c41
                    try clear c41b0
                    try clear c41b1
                    try clear c41b2
                    try clear c42
                    try clear c43
                    try clear c45
                    try clear c47
                    try clear c48
                    try clear c50
                    try clear c52
                    try clear c53
                    try clear hcz15_0
                    try clear hcz15_1
                    try clear hcz15_2
                    try clear hcz15_3
                    try clear hcz21_0
                    try clear hcz21_1
                    try clear hcz21_2
                    try clear hcz21_3
                    try clear hcz23_0
                    try clear hcz23_1
                    try clear hcz23_2
                    try clear hcz23_3
                    try clear hcz25_0
                    try clear hcz25_1
                    try clear hcz25_2
                    try clear hcz25_3
                    try clear hcz28_0
                    try clear hcz28_1
                    try clear hcz28_2
                    try clear hcz28_3
                    try clear hcz30_0
                    try clear hcz30_1
                    try clear hcz30_2
                    try clear hcz30_3
                    try clear hcz38_0
                    try clear hcz38_1
                    try clear hcz38_2
                    try clear hcz38_3
                    try clear hcz40_0
                    try clear hcz40_1
                    try clear hcz40_2
                    try clear hcz40_3
                    try clear hcz44_0
                    try clear hcz44_1
                    try clear hcz44_2
                    try clear hcz44_3
                    try clear hcz46_0
                    try clear hcz46_1
                    try clear hcz46_2
                    try clear hcz46_3
                    try clear hcz49_0
                    try clear hcz49_1
                    try clear hcz49_2
                    try clear hcz49_3
                    try clear hcz51_0
                    try clear hcz51_1
                    try clear hcz51_2
                    try clear hcz51_3
                    try clear hcz54_0
                    try clear hcz54_1
                    try clear hcz54_2
                    try clear hcz54_3
                    try clear hfz15_0
                    try clear hfz15_1
                    try clear hfz15_2
                    try clear hfz15_3
                    try clear hfz21_0
                    try clear hfz21_1
                    try clear hfz21_2
                    try clear hfz21_3
                    try clear hfz23_0
                    try clear hfz23_1
                    try clear hfz23_2
                    try clear hfz23_3
                    try clear hfz25_0
                    try clear hfz25_1
                    try clear hfz25_2
                    try clear hfz25_3
                    try clear hfz28_0
                    try clear hfz28_1
                    try clear hfz28_2
                    try clear hfz28_3
                    try clear hfz30_0
                    try clear hfz30_1
                    try clear hfz30_2
                    try clear hfz30_3
                    try clear hfz38_0
                    try clear hfz38_1
                    try clear hfz38_2
                    try clear hfz38_3
                    try clear hfz40_0
                    try clear hfz40_1
                    try clear hfz40_2
                    try clear hfz40_3
                    try clear hfz44_0
                    try clear hfz44_1
                    try clear hfz44_2
                    try clear hfz44_3
                    try clear hfz46_0
                    try clear hfz46_1
                    try clear hfz46_2
                    try clear hfz46_3
                    try clear hfz49_0
                    try clear hfz49_1
                    try clear hfz49_2
                    try clear hfz49_3
                    try clear hfz51_0
                    try clear hfz51_1
                    try clear hfz51_2
                    try clear hfz51_3
                    try clear hfz54_0
                    try clear hfz54_1
                    try clear hfz54_2
                    try clear hfz54_3
                    try clear hx133_0
                    try clear p1
                    try clear p13
                    try clear p133
                    try clear p2
                    try clear q1
                    try clear q13
                    try clear q133
                    obtain ⟨kq, x67_32, rfl, HA, HJ32, BK130, BK131, BK137, HB⟩ := hcut
                    cases kq with
                    | zero => exact absurd HA.out (by simp [path_Find.j2])
                    | succ kj32 =>
                      have H := HA.out
                      clear HA
                      simp only [path_Find.j2] at H
                      by_cases c55 : x67_32 = true
                      · subst c55
                        have H1 : (path_Find.l0 kj32 a1 l0 (l0.length : Int) (wrap64 (x14_1 + 1)) a2_0 a2_1 a2_2 a2_3 t134 t135 t136 true) = some (r1, r2) := by rw [if_pos rfl] at H; exact H
                        clear H
                        have H := H1
                        clear H1
                        have H' := Aside0.mk H
                        clear H
                        have hnb56 := NB137_130.out
                        have hnc56 := NB130_137.out
                        have hnb57 := NB137_131.out
                        have hnc57 := NB131_137.out
                        have hcz58_0 : wc.cell? ⟨gb137, 0, none⟩ = some (.string t134) := (blk_cell BK137.out 0).trans rfl
                        have hcz58_1 : wc.cell? ⟨gb137, 1, none⟩ = some (.string t135) := (blk_cell BK137.out 1).trans rfl
                        have hcz58_2 : wc.cell? ⟨gb137, 2, none⟩ = some (.int .i64 t136) := (blk_cell BK137.out 2).trans rfl
                        have hcz58_3 : wc.cell? ⟨gb137, 3, none⟩ = some (.bool true) := (blk_cell BK137.out 3).trans rfl
                        have hfz58_0 := blk_frozen BK137.out 0
                        have hfz58_1 := blk_frozen BK137.out 1
                        have hfz58_2 := blk_frozen BK137.out 2
                        have hfz58_3 := blk_frozen BK137.out 3
                        have hnb59 := NB131_130.out
                        have hnc59 := NB130_131.out
                        have hcz60_0 : wc.cell? ⟨gb131, 0, none⟩ = some (.string x132000_1) := (blk_cell BK131.out 0).trans rfl
                        have hcz60_1 : wc.cell? ⟨gb131, 1, none⟩ = some (.string x132001_1) := (blk_cell BK131.out 1).trans rfl
                        have hcz60_2 : wc.cell? ⟨gb131, 2, none⟩ = some (.int .i64 x132002_1) := (blk_cell BK131.out 2).trans rfl
                        have hcz60_3 : wc.cell? ⟨gb131, 3, none⟩ = some (.bool x132003_1) := (blk_cell BK131.out 3).trans rfl
                        have hfz60_0 := blk_frozen BK131.out 0
                        have hfz60_1 := blk_frozen BK131.out 1
                        have hfz60_2 := blk_frozen BK131.out 2
                        have hfz60_3 := blk_frozen BK131.out 3
                        go_wp2
                        go_roundg kj32
                        case measure => have := HK1.out; have := HJ9.out; have := HJ32.out; omega
                        case rel => exact ⟨(wrap64 (x14_1 + 1)), (t134), (t135), (t136), (true), (by first | rfl | (simp; done) | (simp [*]; done)), H', ⟨by have := HK1.out; have := HJ9.out; have := HJ32.out; omega⟩, ⟨by (with_reducible repeat (first | refine blk_drewN ?_ _ | refine blk_drew ?_ | refine blk_alloc ?_ _)); refine blk_far ?_ NB130_131.out _; (with_reducible repeat (first | refine blk_drewN ?_ _ | refine blk_drew ?_ | refine blk_alloc ?_ _)); refine blk_far ?_ NB130_131.out _; (with_reducible repeat (first | refine blk_drewN ?_ _ | refine blk_drew ?_ | refine blk_alloc ?_ _)); refine blk_far ?_ NB130_131.out _; (with_reducible repeat (first | refine blk_drewN ?_ _ | refine blk_drew ?_ | refine blk_alloc ?_ _)); refine blk_far ?_ NB130_131.out _; (with_reducible repeat (first | refine blk_drewN ?_ _ | refine blk_drew ?_ | refine blk_alloc ?_ _)); exact BK130.out⟩, ⟨by (with_reducible repeat (first | refine blk_drewN ?_ _ | refine blk_drew ?_ | refine blk_alloc ?_ _)); refine blk_put (cs := #[.string t134, .string t135, .int .i64 t136, .bool x132003_1]) ?_ 3 _ rfl; (with_reducible repeat (first | refine blk_drewN ?_ _ | refine blk_drew ?_ | refine blk_alloc ?_ _)); refine blk_put (cs := #[.string t134, .string t135, .int .i64 x132002_1, .bool x132003_1]) ?_ 2 _ rfl; (with_reducible repeat (first | refine blk_drewN ?_ _ | refine blk_drew ?_ | refine blk_alloc ?_ _)); refine blk_put (cs := #[.string t134, .string x132001_1, .int .i64 x132002_1, .bool x132003_1]) ?_ 1 _ rfl; (with_reducible repeat (first | refine blk_drewN ?_ _ | refine blk_drew ?_ | refine blk_alloc ?_ _)); refine blk_put (cs := #[.string x132000_1, .string x132001_1, .int .i64 x132002_1, .bool x132003_1]) ?_ 0 _ rfl; (with_reducible repeat (first | refine blk_drewN ?_ _ | refine blk_drew ?_ | refine blk_alloc ?_ _)); exact BK131.out⟩, ⟨by repeat (first | (with_reducible first | exact HB.out | apply below_alloc | apply pw_below_drewN | apply below_drew1 | refine below_set ?_ GE130.out | refine below_set ?_ GE131.out | refine below_set ?_ GE137.out) | exact HB.out)⟩⟩
                      · replace c55 := Bool.eq_false_iff.mpr c55
                        subst c55
                        have H1 : (path_Find.l0 kj32 a1 l0 (l0.length : Int) (wrap64 (x14_1 + 1)) a2_0 a2_1 a2_2 a2_3 x132000_1 x132001_1 x132002_1 x132003_1) = some (r1, r2) := by rw [if_neg (show ¬ (false = true) by decide)] at H; exact H
                        clear H
                        have H := H1
                        clear H1
                        have H' := Aside0.mk H
                        clear H
                        go_wp2
                        go_roundg kj32
                        case measure => have := HK1.out; have := HJ9.out; have := HJ32.out; omega
                        case rel => exact ⟨(wrap64 (x14_1 + 1)), (x132000_1), (x132001_1), (x132002_1), (x132003_1), (by first | rfl | (simp; done) | (simp [*]; done)), H', ⟨by have := HK1.out; have := HJ9.out; have := HJ32.out; omega⟩, ⟨by (with_reducible repeat (first | refine blk_drewN ?_ _ | refine blk_drew ?_ | refine blk_alloc ?_ _)); exact BK130.out⟩, ⟨by (with_reducible repeat (first | refine blk_drewN ?_ _ | refine blk_drew ?_ | refine blk_alloc ?_ _)); exact BK131.out⟩, ⟨by repeat (first | (with_reducible first | exact HB.out | apply below_alloc | apply pw_below_drewN | apply below_drew1 | refine below_set ?_ GE130.out | refine below_set ?_ GE131.out | refine below_set ?_ GE137.out) | exact HB.out)⟩⟩
          · rw [if_neg c8] at H
            exact absurd H (by simp)
        · rw [if_neg c7] at H
          exact absurd H (by simp)
      · rw [if_neg c6] at H
        have c6b0 : decide (x14_1 < (l0.length : Int)) = false := decide_eq_false c6
        clear c6
        replace H := Option.bind_eq_some_iff.mp H
        obtain ⟨t132, A610, H⟩ := H
        replace H : (some (t132, x132003_1)) = some (r1, r2) := H
        have A61 := Aside0.mk A610
        clear A610
        simp only [Option.some.injEq, Prod.mk.injEq] at H
        obtain ⟨rfl, rfl⟩ := H
        try go_wp2
        have n0_ := Aside0.mk (blk_drew BK130.out)
        have n1_ := Aside0.mk (blk_drew BK131.out)
        have n2_ := Aside0.mk (below_drew1 HB.out)
        clear BK130
        clear BK131
        clear HB
        have BK130 := n0_
        have BK131 := n1_
        have HB := n2_
        clear n0_ n1_ n2_
        refine start_ (n := 8) (S := fun w' => w'.cell? ⟨gb131, 0, none⟩ = some (.string x132000_1) ∧ w'.cell? ⟨gb131, 1, none⟩ = some (.string x132001_1) ∧ w'.cell? ⟨gb131, 2, none⟩ = some (.int .i64 x132002_1) ∧ w'.cell? ⟨gb131, 3, none⟩ = some (.bool x132003_1)) (ds := []) #[false, false, false, false, false, false, false, false] (by kernel_rfl) rfl rfl ⟨(blk_cell BK131.out 0).trans rfl, (blk_cell BK131.out 1).trans rfl, (blk_cell BK131.out 2).trans rfl, (blk_cell BK131.out 3).trans rfl⟩ (fun hHeld => ?_); refine with_tabW path_Find.tab10 path_Find.bits10 (fun HT_ HW_ => ?_)
        generalize wr.drew = w62 at BK130 BK131 HB hHeld ⊢
        refine pure_ (i := 0) (N := some 70) (v := ?_) (a' := ?_) #[true, false, false, false, false, false, false, false] rfl rfl (any_of HT_.out (by kernel_rfl)) (fun _ _ _ h => h) (Or.inl ⟨by rfl, ?_⟩) ?_ ?_
        rotate_left
        · intro w'
          go_simp
          with_reducible rfl
        rotate_left
        · simp only [Act.put, List.setIfInBounds_toArray, List.set_cons_zero, List.set_cons_succ, i64_w, i32_w]
          rfl
        refine pure_ (i := 1) (N := some 71) (v := ?_) (a' := ?_) #[true, true, false, false, false, false, false, false] rfl rfl (any_of HT_.out (by kernel_rfl)) (fun _ _ _ h => h) (Or.inl ⟨by rfl, ?_⟩) ?_ ?_
        rotate_left
        · intro w'
          go_simp
          with_reducible rfl
        rotate_left
        · simp only [Act.put, List.setIfInBounds_toArray, List.set_cons_zero, List.set_cons_succ, i64_w, i32_w]
          rfl
        refine pure_ (i := 4) (N := some 74) (v := ?_) (a' := ?_) #[true, true, false, false, true, false, false, false] rfl rfl (any_of HT_.out (by kernel_rfl)) (fun _ _ _ h => h) (Or.inl ⟨by rfl, ?_⟩) ?_ ?_
        rotate_left
        · intro w'
          go_simp
          with_reducible rfl
        rotate_left
        · simp only [Act.put, List.setIfInBounds_toArray, List.set_cons_zero, List.set_cons_succ, i64_w, i32_w]
          rfl
        refine take_ (i := 2) (N := some 72) (v := ?_) (a' := ?_) #[true, true, true, false, true, false, false, false] rfl rfl (take_ofW HT_.out HW_.out (by kernel_rfl)) (fun _ _ _ h => h) (Or.inl ⟨by rfl, ?_⟩) hHeld ?_ ?_
        rotate_left
        · rintro w' ⟨s0, s1, s2, s3⟩
          go_simp
          with_reducible rfl
        rotate_left
        · simp only [Act.put, List.setIfInBounds_toArray, List.set_cons_zero, List.set_cons_succ, i64_w, i32_w]
          rfl
        refine take_ (i := 5) (N := some 75) (v := ?_) (a' := ?_) #[true, true, true, false, true, true, false, false] rfl rfl (take_ofW HT_.out HW_.out (by kernel_rfl)) (fun _ _ _ h => h) (Or.inl ⟨by rfl, ?_⟩) hHeld ?_ ?_
        rotate_left
        · rintro w' ⟨s0, s1, s2, s3⟩
          go_simp
          with_reducible rfl
        rotate_left
        · simp only [Act.put, List.setIfInBounds_toArray, List.set_cons_zero, List.set_cons_succ, i64_w, i32_w]
          rfl
        refine one_ (i := 3) (N := some 73) #[true, true, true, true, true, true, false, false] rfl rfl (one_of HT_.out (by kernel_rfl)) (by decide) (fun K hK => ?_)
        refine goes_ Try.func31 (by kernel_rfl) rfl #[.string x132000_1] (by rfl) rfl rfl (by (try simp only [List.map_toArray, List.map_cons, List.map_nil]); first | done | rfl | (simp only [List.length_drop, List.length_take]; rfl)) ?_
        with_reducible refine (strings_Clone.calls x132000_1 t132 _ A61.out).mono ?_
        rintro e w63 ⟨rfl, hb⟩
        refine ⟨_, rfl, ?_⟩
        have n0_ := Aside0.mk (blk_below (g := gb130) (o := .cells #[.int .i64 a2_0, .int .i64 a2_1, .int .i64 a2_2, .string a2_3] 33 (0, 0)) (by (with_reducible repeat (first | refine blk_drewN ?_ _ | refine blk_drew ?_ | refine blk_alloc ?_ _)); exact BK130.out) hb)
        have n1_ := Aside0.mk (blk_below (g := gb131) (o := .cells #[.string x132000_1, .string x132001_1, .int .i64 x132002_1, .bool x132003_1] 57 (0, 0)) (by (with_reducible repeat (first | refine blk_drewN ?_ _ | refine blk_drew ?_ | refine blk_alloc ?_ _)); exact BK131.out) hb)
        have n2_ := Aside0.mk (below_step (by repeat (first | (with_reducible first | exact HB.out | apply below_alloc | apply pw_below_drewN | apply below_drew1 | refine below_set ?_ GE130.out | refine below_set ?_ GE131.out) | exact HB.out)) hb)
        clear BK130
        clear BK131
        clear HB
        have BK130 := n0_
        have BK131 := n1_
        have HB := n2_
        clear n0_ n1_ n2_
        (try clear hb)
        (try clear hb2)
        (try clear hk)
        (try clear hi)
        refine hK.out _ _ ⟨(blk_cell BK131.out 0).trans rfl, (blk_cell BK131.out 1).trans rfl, (blk_cell BK131.out 2).trans rfl, (blk_cell BK131.out 3).trans rfl⟩ (fun hHeld => ?_)
        clear hK K
        refine norm_ (a' := ?_) ?_ ?_
        rotate_left
        · show Act.put _ (some 73) _ = _
          simp only [Act.put, List.setIfInBounds_toArray, List.set_cons_zero, List.set_cons_succ, i64_w, i32_w]
          rfl
        refine pure_ (i := 6) (N := some 6) (v := ?_) (a' := ?_) #[true, true, true, true, true, true, true, false] rfl rfl (any_of HT_.out (by kernel_rfl)) (fun _ _ _ h => h) (Or.inl ⟨by rfl, ?_⟩) ?_ ?_
        rotate_left
        · intro w'
          go_simp
          with_reducible rfl
        rotate_left
        · simp only [Act.put, List.setIfInBounds_toArray, List.set_cons_zero, List.set_cons_succ, i64_w, i32_w]
          rfl
        refine pure_ (i := 7) (N := some 7) (v := ?_) (a' := ?_) #[true, true, true, true, true, true, true, true] rfl rfl (any_of HT_.out (by kernel_rfl)) (fun _ _ _ h => h) (Or.inl ⟨by rfl, ?_⟩) ?_ ?_
        rotate_left
        · intro w'
          go_simp
          with_reducible rfl
        rotate_left
        · simp only [Act.put, List.setIfInBounds_toArray, List.set_cons_zero, List.set_cons_succ, i64_w, i32_w]
          rfl
        refine done_ (done_of HT_.out (by kernel_rfl)) ?_
        try go_wp2
        go_ret2
        exact ⟨by first | rfl | (simp [errW_none, errW_some] <;> rfl) | (simp [*, errW_none, errW_some] <;> rfl), by repeat (first | (with_reducible first | exact HB.out | apply below_alloc | apply pw_below_drewN | apply below_drew1 | refine below_set ?_ GE130.out | refine below_set ?_ GE131.out) | exact HB.out)⟩

end Go.Proofs.Ytelommablohfoaa.X
