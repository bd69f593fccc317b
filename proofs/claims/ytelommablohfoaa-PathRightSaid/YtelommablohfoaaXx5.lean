-- Laid by this session's own program (wip/xprint.py). Not trusted: Lean checks it.
import Derived.Test.YtelommablohfoaaXx0
import Derived.Test.YtelommablohfoaaXx1
import Derived.Test.YtelommablohfoaaXx3
import Derived.Test.YtelommablohfoaaXx4
namespace Go.Proofs.Ytelommablohfoaa.X
open Go.RowKit Go.Proofs.YtelommablohfoaaW.PrintWords Go.Proofs.YtelommablohfoaaW.PrintLast Go.Proofs.YtelommablohfoaaW.PrintMore
attribute [local go_sem] max2_int min2_int max_two min_two max_three min_three max_four min_four   -- for this text's walks alone
set_option linter.unusedVariables false
set_option linter.unusedSimpArgs false

/-! ### transhumancelaw4_known: function 12 -/
def transhumancelaw4_known.f (k : Nat)  : Option (Bool) := (path_Major.f k (⟨#[97, 47, 118, 50]⟩ : ByteArray)).bind fun bt140 => ((path_Find.f k (([(⟨#[97]⟩ : ByteArray), (⟨#[97, 47, 98]⟩ : ByteArray), (⟨#[97, 47, 118, 50]⟩ : ByteArray)] : List ByteArray)) (⟨#[97, 47, 98, 47, 99]⟩ : ByteArray) 1 0 0 (⟨#[]⟩ : ByteArray)).bind fun bt145 => (if bt140.1.toList = ([97] : List UInt8) then (if bt140.2 = 2 then ((path_Right.f k (⟨#[97, 47, 98, 46, 99]⟩ : ByteArray)).bind fun t147 => (if t147 = true then ((path_Right.f k (⟨#[97, 47, 47, 98]⟩ : ByteArray)).bind fun t148 => (if t148 = true then (some false) else ((path_Fits.f k (⟨#[97, 47, 118, 50]⟩ : ByteArray) 2 0 0 (⟨#[]⟩ : ByteArray)).bind fun t149 => (if t149 = true then ((path_Fits.f k (⟨#[97]⟩ : ByteArray) 2 0 0 (⟨#[]⟩ : ByteArray)).bind fun t150 => (if t150 = true then (some false) else ((path_Within.f (⟨#[97, 47, 98]⟩ : ByteArray) (⟨#[97]⟩ : ByteArray)).bind fun t151 => (if t151 = true then ((path_Within.f (⟨#[97, 98]⟩ : ByteArray) (⟨#[97]⟩ : ByteArray)).bind fun t152 => (if t152 = true then (some false) else (if bt145.2 = true then (some (bt145.1.toList == ([97, 47, 98] : List UInt8))) else (some false)))) else (some false))))) else (some false))))) else (some false))) else (some false)) else (some false)))
theorem transhumancelaw4_known.mono : ∀ k, LeO (transhumancelaw4_known.f k ) (transhumancelaw4_known.f (k + 1) ) := by
  intro  k
  unfold transhumancelaw4_known.f
  repeat' first
      | (with_reducible exact path_Find.mono _ _ _ _ _ _ _)
      | (with_reducible exact path_Fits.mono _ _ _ _ _ _)
      | (with_reducible exact path_Major.mono _ _)
      | (with_reducible exact path_Right.mono _ _)
      | (with_reducible exact LeO.refl _)
      | (with_reducible exact LeO.none _)
      | (with_reducible refine LeO.ite ?_ ?_)
      | (with_reducible refine LeO.bind ?_ (fun _ => ?_))
      | exact path_Find.mono _ _ _ _ _ _ _
      | exact path_Fits.mono _ _ _ _ _ _
      | exact path_Major.mono _ _
      | exact path_Right.mono _ _
      | exact LeO.none _
      | refine LeO.ite ?_ ?_
      | refine LeO.bind ?_ (fun _ => ?_)
set_option maxHeartbeats 8000000 in
set_option maxRecDepth 100000 in
theorem transhumancelaw4_known.calls (k : Nat)  (r : Bool) (w : World) (h : transhumancelaw4_known.f k  = some r) :
    Calls Try.prog 12 #[] w fun e w' => e = .returned (.bool r) ∧ Below w.heap.size w w' := by
  have hu33 := Try.underlying33
  have HB := Aside0.mk (Below.refl w.heap.size w)
  have H : ((path_Major.f k (⟨#[97, 47, 118, 50]⟩ : ByteArray)).bind fun bt140 => ((path_Find.f k (([(⟨#[97]⟩ : ByteArray), (⟨#[97, 47, 98]⟩ : ByteArray), (⟨#[97, 47, 118, 50]⟩ : ByteArray)] : List ByteArray)) (⟨#[97, 47, 98, 47, 99]⟩ : ByteArray) 1 0 0 (⟨#[]⟩ : ByteArray)).bind fun bt145 => (if bt140.1.toList = ([97] : List UInt8) then (if bt140.2 = 2 then ((path_Right.f k (⟨#[97, 47, 98, 46, 99]⟩ : ByteArray)).bind fun t147 => (if t147 = true then ((path_Right.f k (⟨#[97, 47, 47, 98]⟩ : ByteArray)).bind fun t148 => (if t148 = true then (some false) else ((path_Fits.f k (⟨#[97, 47, 118, 50]⟩ : ByteArray) 2 0 0 (⟨#[]⟩ : ByteArray)).bind fun t149 => (if t149 = true then ((path_Fits.f k (⟨#[97]⟩ : ByteArray) 2 0 0 (⟨#[]⟩ : ByteArray)).bind fun t150 => (if t150 = true then (some false) else ((path_Within.f (⟨#[97, 47, 98]⟩ : ByteArray) (⟨#[97]⟩ : ByteArray)).bind fun t151 => (if t151 = true then ((path_Within.f (⟨#[97, 98]⟩ : ByteArray) (⟨#[97]⟩ : ByteArray)).bind fun t152 => (if t152 = true then (some false) else (if bt145.2 = true then (some (bt145.1.toList == ([97, 47, 98] : List UInt8))) else (some false)))) else (some false))))) else (some false))))) else (some false))) else (some false)) else (some false)))) = some r := h
  clear h
  replace H := Option.bind_eq_some_iff.mp H
  obtain ⟨⟨t140, t141⟩, A10, H⟩ := H
  replace H : ((path_Find.f k (([(⟨#[97]⟩ : ByteArray), (⟨#[97, 47, 98]⟩ : ByteArray), (⟨#[97, 47, 118, 50]⟩ : ByteArray)] : List ByteArray)) (⟨#[97, 47, 98, 47, 99]⟩ : ByteArray) 1 0 0 (⟨#[]⟩ : ByteArray)).bind fun bt145 => (if t140.toList = ([97] : List UInt8) then (if t141 = 2 then ((path_Right.f k (⟨#[97, 47, 98, 46, 99]⟩ : ByteArray)).bind fun t147 => (if t147 = true then ((path_Right.f k (⟨#[97, 47, 47, 98]⟩ : ByteArray)).bind fun t148 => (if t148 = true then (some false) else ((path_Fits.f k (⟨#[97, 47, 118, 50]⟩ : ByteArray) 2 0 0 (⟨#[]⟩ : ByteArray)).bind fun t149 => (if t149 = true then ((path_Fits.f k (⟨#[97]⟩ : ByteArray) 2 0 0 (⟨#[]⟩ : ByteArray)).bind fun t150 => (if t150 = true then (some false) else ((path_Within.f (⟨#[97, 47, 98]⟩ : ByteArray) (⟨#[97]⟩ : ByteArray)).bind fun t151 => (if t151 = true then ((path_Within.f (⟨#[97, 98]⟩ : ByteArray) (⟨#[97]⟩ : ByteArray)).bind fun t152 => (if t152 = true then (some false) else (if bt145.2 = true then (some (bt145.1.toList == ([97, 47, 98] : List UInt8))) else (some false)))) else (some false))))) else (some false))))) else (some false))) else (some false)) else (some false))) = some r := H
  have A1 := Aside0.mk A10
  clear A10
  obtain ⟨y142, hy142⟩ : ∃ y_ : List ByteArray, y_ = (([(⟨#[97]⟩ : ByteArray), (⟨#[97, 47, 98]⟩ : ByteArray), (⟨#[97, 47, 118, 50]⟩ : ByteArray)] : List ByteArray)) := ⟨_, rfl⟩
  replace H : ((path_Find.f k y142 (⟨#[97, 47, 98, 47, 99]⟩ : ByteArray) 1 0 0 (⟨#[]⟩ : ByteArray)).bind fun bt145 => (if t140.toList = ([97] : List UInt8) then (if t141 = 2 then ((path_Right.f k (⟨#[97, 47, 98, 46, 99]⟩ : ByteArray)).bind fun t147 => (if t147 = true then ((path_Right.f k (⟨#[97, 47, 47, 98]⟩ : ByteArray)).bind fun t148 => (if t148 = true then (some false) else ((path_Fits.f k (⟨#[97, 47, 118, 50]⟩ : ByteArray) 2 0 0 (⟨#[]⟩ : ByteArray)).bind fun t149 => (if t149 = true then ((path_Fits.f k (⟨#[97]⟩ : ByteArray) 2 0 0 (⟨#[]⟩ : ByteArray)).bind fun t150 => (if t150 = true then (some false) else ((path_Within.f (⟨#[97, 47, 98]⟩ : ByteArray) (⟨#[97]⟩ : ByteArray)).bind fun t151 => (if t151 = true then ((path_Within.f (⟨#[97, 98]⟩ : ByteArray) (⟨#[97]⟩ : ByteArray)).bind fun t152 => (if t152 = true then (some false) else (if bt145.2 = true then (some (bt145.1.toList == ([97, 47, 98] : List UInt8))) else (some false)))) else (some false))))) else (some false))))) else (some false))) else (some false)) else (some false))) = some r := by first | (rw [hy142]; with_reducible exact H) | (have H2_ := (Option.bind_some _ _).symm.trans H; rw [hy142]; with_reducible exact H2_) | (have H2_ := (Option.bind_some _ _).symm.trans H; with_reducible exact H2_) | with_reducible exact H | (rw [hy142]; exact H) | exact H
  have Ny142 := Aside0.mk hy142
  clear hy142
  replace H := Option.bind_eq_some_iff.mp H
  obtain ⟨⟨t145, t146⟩, A20, H⟩ := H
  replace H : (if t140.toList = ([97] : List UInt8) then (if t141 = 2 then ((path_Right.f k (⟨#[97, 47, 98, 46, 99]⟩ : ByteArray)).bind fun t147 => (if t147 = true then ((path_Right.f k (⟨#[97, 47, 47, 98]⟩ : ByteArray)).bind fun t148 => (if t148 = true then (some false) else ((path_Fits.f k (⟨#[97, 47, 118, 50]⟩ : ByteArray) 2 0 0 (⟨#[]⟩ : ByteArray)).bind fun t149 => (if t149 = true then ((path_Fits.f k (⟨#[97]⟩ : ByteArray) 2 0 0 (⟨#[]⟩ : ByteArray)).bind fun t150 => (if t150 = true then (some false) else ((path_Within.f (⟨#[97, 47, 98]⟩ : ByteArray) (⟨#[97]⟩ : ByteArray)).bind fun t151 => (if t151 = true then ((path_Within.f (⟨#[97, 98]⟩ : ByteArray) (⟨#[97]⟩ : ByteArray)).bind fun t152 => (if t152 = true then (some false) else (if t146 = true then (some (t145.toList == ([97, 47, 98] : List UInt8))) else (some false)))) else (some false))))) else (some false))))) else (some false))) else (some false)) else (some false)) = some r := H
  have A2 := Aside0.mk A20
  clear A20
  by_cases c3 : t140.toList = ([97] : List UInt8)
  · rw [if_pos c3] at H
    have c3b0 : (t140.toList == ([97] : List UInt8)) = true := beq_iff_eq.mpr c3
    have c3b1 : (t140.toList != ([97] : List UInt8)) = false := bne_eq_false_iff_eq.mpr c3
    clear c3
    by_cases c4 : t141 = 2
    · rw [if_pos c4] at H
      have c4b0 : (t141 == 2) = true := beq_iff_eq.mpr c4
      have c4b1 : (t141 != 2) = false := bne_eq_false_iff_eq.mpr c4
      clear c4
      replace H := Option.bind_eq_some_iff.mp H
      obtain ⟨t147, A50, H⟩ := H
      replace H : (if t147 = true then ((path_Right.f k (⟨#[97, 47, 47, 98]⟩ : ByteArray)).bind fun t148 => (if t148 = true then (some false) else ((path_Fits.f k (⟨#[97, 47, 118, 50]⟩ : ByteArray) 2 0 0 (⟨#[]⟩ : ByteArray)).bind fun t149 => (if t149 = true then ((path_Fits.f k (⟨#[97]⟩ : ByteArray) 2 0 0 (⟨#[]⟩ : ByteArray)).bind fun t150 => (if t150 = true then (some false) else ((path_Within.f (⟨#[97, 47, 98]⟩ : ByteArray) (⟨#[97]⟩ : ByteArray)).bind fun t151 => (if t151 = true then ((path_Within.f (⟨#[97, 98]⟩ : ByteArray) (⟨#[97]⟩ : ByteArray)).bind fun t152 => (if t152 = true then (some false) else (if t146 = true then (some (t145.toList == ([97, 47, 98] : List UInt8))) else (some false)))) else (some false))))) else (some false))))) else (some false)) = some r := H
      have A5 := Aside0.mk A50
      clear A50
      by_cases c6 : t147 = true
      · subst c6
        have H1 : ((path_Right.f k (⟨#[97, 47, 47, 98]⟩ : ByteArray)).bind fun t148 => (if t148 = true then (some false) else ((path_Fits.f k (⟨#[97, 47, 118, 50]⟩ : ByteArray) 2 0 0 (⟨#[]⟩ : ByteArray)).bind fun t149 => (if t149 = true then ((path_Fits.f k (⟨#[97]⟩ : ByteArray) 2 0 0 (⟨#[]⟩ : ByteArray)).bind fun t150 => (if t150 = true then (some false) else ((path_Within.f (⟨#[97, 47, 98]⟩ : ByteArray) (⟨#[97]⟩ : ByteArray)).bind fun t151 => (if t151 = true then ((path_Within.f (⟨#[97, 98]⟩ : ByteArray) (⟨#[97]⟩ : ByteArray)).bind fun t152 => (if t152 = true then (some false) else (if t146 = true then (some (t145.toList == ([97, 47, 98] : List UInt8))) else (some false)))) else (some false))))) else (some false))))) = some r := by rw [if_pos rfl] at H; exact H
        clear H
        have H := H1
        clear H1
        replace H := Option.bind_eq_some_iff.mp H
        obtain ⟨t148, A70, H⟩ := H
        replace H : (if t148 = true then (some false) else ((path_Fits.f k (⟨#[97, 47, 118, 50]⟩ : ByteArray) 2 0 0 (⟨#[]⟩ : ByteArray)).bind fun t149 => (if t149 = true then ((path_Fits.f k (⟨#[97]⟩ : ByteArray) 2 0 0 (⟨#[]⟩ : ByteArray)).bind fun t150 => (if t150 = true then (some false) else ((path_Within.f (⟨#[97, 47, 98]⟩ : ByteArray) (⟨#[97]⟩ : ByteArray)).bind fun t151 => (if t151 = true then ((path_Within.f (⟨#[97, 98]⟩ : ByteArray) (⟨#[97]⟩ : ByteArray)).bind fun t152 => (if t152 = true then (some false) else (if t146 = true then (some (t145.toList == ([97, 47, 98] : List UInt8))) else (some false)))) else (some false))))) else (some false)))) = some r := H
        have A7 := Aside0.mk A70
        clear A70
        by_cases c8 : t148 = true
        · subst c8
          have H1 : (some false) = some r := by rw [if_pos rfl] at H; exact H
          clear H
          have H := H1
          clear H1
          obtain rfl := Option.some.inj H
          go_enter Try.func12, Try.ntmps12
          go_wp2_with (first | ((with_reducible refine gate_callee (f := 17) rfl ?_); refine goesL_ (some 6) rfl rfl Try.func17 (by kernel_rfl) rfl #[.string (⟨#[97, 47, 118, 50]⟩ : ByteArray)] rfl (by (try simp only [List.map_toArray, List.map_cons, List.map_nil]); first | done | rfl | (simp only [List.length_drop, List.length_take]; rfl)) ?_; (with_reducible refine (path_Major.calls k (⟨#[97, 47, 118, 50]⟩ : ByteArray) t140 t141 _ A1.out).mono ?_); rintro e w9 ⟨rfl, hb⟩; refine ⟨_, rfl, ?_⟩; have n0_ := Aside0.mk (below_step (by repeat (first | (with_reducible first | exact HB.out | apply below_alloc | apply pw_below_drewN | apply below_drew1) | exact HB.out)) hb); clear HB; have HB := n0_; clear n0_; (try clear hb); (try clear hb2); (try clear hk); (try clear hi)) | ((with_reducible refine gate_dst (N := 10) rfl ?_); refine Kd.R_lit Kd.string _ 9 ?hg (N := 10) ?hd (xs := ([(⟨#[97]⟩ : ByteArray), (⟨#[97, 47, 98]⟩ : ByteArray), (⟨#[97, 47, 118, 50]⟩ : ByteArray)] : List ByteArray)) (inner := [.string (⟨#[97]⟩ : ByteArray), .string (⟨#[97, 47, 98]⟩ : ByteArray), .string (⟨#[97, 47, 118, 50]⟩ : ByteArray)]) (ok := fun _ => True) (okp := fun _ => True) ?hr ?hp (fun _ hk => hk) trivial (Below.refl _ _) (Nat.le_refl _) (by simp) ?_; (case hd => rfl); (case hg => rfl); (case hr => first | (go_simp; done) | (go_simp; rfl)); (case hp => exact (Reps.one (show Kd.M Kd.string _ _ _ (⟨#[97]⟩ : ByteArray) [.string (⟨#[97]⟩ : ByteArray)] from rfl) (Reps.one (show Kd.M Kd.string _ _ _ (⟨#[97, 47, 98]⟩ : ByteArray) [.string (⟨#[97, 47, 98]⟩ : ByteArray)] from rfl) (Reps.one (show Kd.M Kd.string _ _ _ (⟨#[97, 47, 118, 50]⟩ : ByteArray) [.string (⟨#[97, 47, 118, 50]⟩ : ByteArray)] from rfl) (Reps.none _ _))))); intro v143 w10 ho11 hb hg_ hnew_; clear hg_ hnew_; (first | rw [← Ny142.out] at ho11 | (simp only [Int.reduceToNat] at ho11; rw [← Ny142.out] at ho11)); have n0_ := Aside0.mk (Kd.R_lower ho11 (below_size (by repeat (first | (with_reducible first | exact HB.out | apply below_alloc | apply pw_below_drewN | apply below_drew1) | exact HB.out)))); have n1_ := Aside0.mk (below_step (by repeat (first | (with_reducible first | exact HB.out | apply below_alloc | apply pw_below_drewN | apply below_drew1) | exact HB.out)) hb); clear HB; have HO144 := n0_; have HB := n1_; clear n0_ n1_; clear hb ho11; obtain ⟨Ao12, co12, eo12⟩ := Kd.R_slice HO144.out; subst eo12) | ((with_reducible refine gate_callee (f := 25) rfl ?_); refine goesL_ (some 12) rfl rfl Try.func25 (by kernel_rfl) rfl #[.slice Ao12 y142.length co12, .string (⟨#[97, 47, 98, 47, 99]⟩ : ByteArray), .agg #[.int .i64 1, .int .i64 0, .int .i64 0, .string (⟨#[]⟩ : ByteArray)]] rfl (by (try simp only [List.map_toArray, List.map_cons, List.map_nil]); first | done | rfl | (simp only [List.length_drop, List.length_take]; rfl)) ?_; (with_reducible refine (path_Find.calls k _ _ y142 (⟨#[97, 47, 98, 47, 99]⟩ : ByteArray) 1 0 0 (⟨#[]⟩ : ByteArray) t145 t146 _ ?side1 ?side2 A2.out).mono ?_); (case side1 => repeat (first | exact (Kd.R_reads' HO144.out).2.2 | (with_reducible refine Kd.C_alloc ?_ _) | (with_reducible refine Kd.C_drewN ?_ _) | (with_reducible refine Kd.C_drew ?_))); (case side2 => exact (Kd.R_reads' HO144.out).2.1); rintro e w13 ⟨rfl, hb⟩; refine ⟨_, rfl, ?_⟩; have n0_ := Aside0.mk (Kd.R_below (by (with_reducible repeat (first | apply Kd.R_alloc | apply Kd.R_drewN | apply Kd.R_drew)); exact HO144.out) hb); have n1_ := Aside0.mk (below_step (by repeat (first | (with_reducible first | exact HB.out | apply below_alloc | apply pw_below_drewN | apply below_drew1) | exact HB.out)) hb); clear HO144; clear HB; have HO144 := n0_; have HB := n1_; clear n0_ n1_; (try clear hb); (try clear hb2); (try clear hk); (try clear hi)) | (go_at_call 15; (with_reducible refine (path_Right.calls k (⟨#[97, 47, 98, 46, 99]⟩ : ByteArray) true _ A5.out).mono ?_); rintro e w' ⟨rfl, ⟨nd, rfl⟩⟩) | (go_at_call 15; (with_reducible refine (path_Right.calls k (⟨#[97, 47, 47, 98]⟩ : ByteArray) true _ A7.out).mono ?_); rintro e w' ⟨rfl, ⟨nd, rfl⟩⟩))
          go_ret
          exact ⟨by first | rfl | (simp [errW_none, errW_some] <;> rfl) | (simp [*, errW_none, errW_some] <;> rfl), by repeat (first | (with_reducible first | exact HB.out | apply below_alloc | apply pw_below_drewN | apply below_drew1) | exact HB.out)⟩
        · replace c8 := Bool.eq_false_iff.mpr c8
          subst c8
          have H1 : ((path_Fits.f k (⟨#[97, 47, 118, 50]⟩ : ByteArray) 2 0 0 (⟨#[]⟩ : ByteArray)).bind fun t149 => (if t149 = true then ((path_Fits.f k (⟨#[97]⟩ : ByteArray) 2 0 0 (⟨#[]⟩ : ByteArray)).bind fun t150 => (if t150 = true then (some false) else ((path_Within.f (⟨#[97, 47, 98]⟩ : ByteArray) (⟨#[97]⟩ : ByteArray)).bind fun t151 => (if t151 = true then ((path_Within.f (⟨#[97, 98]⟩ : ByteArray) (⟨#[97]⟩ : ByteArray)).bind fun t152 => (if t152 = true then (some false) else (if t146 = true then (some (t145.toList == ([97, 47, 98] : List UInt8))) else (some false)))) else (some false))))) else (some false))) = some r := by rw [if_neg (show ¬ (false = true) by decide)] at H; exact H
          clear H
          have H := H1
          clear H1
          replace H := Option.bind_eq_some_iff.mp H
          obtain ⟨t149, A140, H⟩ := H
          replace H : (if t149 = true then ((path_Fits.f k (⟨#[97]⟩ : ByteArray) 2 0 0 (⟨#[]⟩ : ByteArray)).bind fun t150 => (if t150 = true then (some false) else ((path_Within.f (⟨#[97, 47, 98]⟩ : ByteArray) (⟨#[97]⟩ : ByteArray)).bind fun t151 => (if t151 = true then ((path_Within.f (⟨#[97, 98]⟩ : ByteArray) (⟨#[97]⟩ : ByteArray)).bind fun t152 => (if t152 = true then (some false) else (if t146 = true then (some (t145.toList == ([97, 47, 98] : List UInt8))) else (some false)))) else (some false))))) else (some false)) = some r := H
          have A14 := Aside0.mk A140
          clear A140
          by_cases c15 : t149 = true
          · subst c15
            have H1 : ((path_Fits.f k (⟨#[97]⟩ : ByteArray) 2 0 0 (⟨#[]⟩ : ByteArray)).bind fun t150 => (if t150 = true then (some false) else ((path_Within.f (⟨#[97, 47, 98]⟩ : ByteArray) (⟨#[97]⟩ : ByteArray)).bind fun t151 => (if t151 = true then ((path_Within.f (⟨#[97, 98]⟩ : ByteArray) (⟨#[97]⟩ : ByteArray)).bind fun t152 => (if t152 = true then (some false) else (if t146 = true then (some (t145.toList == ([97, 47, 98] : List UInt8))) else (some false)))) else (some false))))) = some r := by rw [if_pos rfl] at H; exact H
            clear H
            have H := H1
            clear H1
            replace H := Option.bind_eq_some_iff.mp H
            obtain ⟨t150, A160, H⟩ := H
            replace H : (if t150 = true then (some false) else ((path_Within.f (⟨#[97, 47, 98]⟩ : ByteArray) (⟨#[97]⟩ : ByteArray)).bind fun t151 => (if t151 = true then ((path_Within.f (⟨#[97, 98]⟩ : ByteArray) (⟨#[97]⟩ : ByteArray)).bind fun t152 => (if t152 = true then (some false) else (if t146 = true then (some (t145.toList == ([97, 47, 98] : List UInt8))) else (some false)))) else (some false)))) = some r := H
            have A16 := Aside0.mk A160
            clear A160
            by_cases c17 : t150 = true
            · subst c17
              have H1 : (some false) = some r := by rw [if_pos rfl] at H; exact H
              clear H
              have H := H1
              clear H1
              obtain rfl := Option.some.inj H
              go_enter Try.func12, Try.ntmps12
              go_wp2_with (first | ((with_reducible refine gate_callee (f := 17) rfl ?_); refine goesL_ (some 6) rfl rfl Try.func17 (by kernel_rfl) rfl #[.string (⟨#[97, 47, 118, 50]⟩ : ByteArray)] rfl (by (try simp only [List.map_toArray, List.map_cons, List.map_nil]); first | done | rfl | (simp only [List.length_drop, List.length_take]; rfl)) ?_; (with_reducible refine (path_Major.calls k (⟨#[97, 47, 118, 50]⟩ : ByteArray) t140 t141 _ A1.out).mono ?_); rintro e w18 ⟨rfl, hb⟩; refine ⟨_, rfl, ?_⟩; have n0_ := Aside0.mk (below_step (by repeat (first | (with_reducible first | exact HB.out | apply below_alloc | apply pw_below_drewN | apply below_drew1) | exact HB.out)) hb); clear HB; have HB := n0_; clear n0_; (try clear hb); (try clear hb2); (try clear hk); (try clear hi)) | ((with_reducible refine gate_dst (N := 10) rfl ?_); refine Kd.R_lit Kd.string _ 9 ?hg (N := 10) ?hd (xs := ([(⟨#[97]⟩ : ByteArray), (⟨#[97, 47, 98]⟩ : ByteArray), (⟨#[97, 47, 118, 50]⟩ : ByteArray)] : List ByteArray)) (inner := [.string (⟨#[97]⟩ : ByteArray), .string (⟨#[97, 47, 98]⟩ : ByteArray), .string (⟨#[97, 47, 118, 50]⟩ : ByteArray)]) (ok := fun _ => True) (okp := fun _ => True) ?hr ?hp (fun _ hk => hk) trivial (Below.refl _ _) (Nat.le_refl _) (by simp) ?_; (case hd => rfl); (case hg => rfl); (case hr => first | (go_simp; done) | (go_simp; rfl)); (case hp => exact (Reps.one (show Kd.M Kd.string _ _ _ (⟨#[97]⟩ : ByteArray) [.string (⟨#[97]⟩ : ByteArray)] from rfl) (Reps.one (show Kd.M Kd.string _ _ _ (⟨#[97, 47, 98]⟩ : ByteArray) [.string (⟨#[97, 47, 98]⟩ : ByteArray)] from rfl) (Reps.one (show Kd.M Kd.string _ _ _ (⟨#[97, 47, 118, 50]⟩ : ByteArray) [.string (⟨#[97, 47, 118, 50]⟩ : ByteArray)] from rfl) (Reps.none _ _))))); intro v143 w19 ho20 hb hg_ hnew_; clear hg_ hnew_; (first | rw [← Ny142.out] at ho20 | (simp only [Int.reduceToNat] at ho20; rw [← Ny142.out] at ho20)); have n0_ := Aside0.mk (Kd.R_lower ho20 (below_size (by repeat (first | (with_reducible first | exact HB.out | apply below_alloc | apply pw_below_drewN | apply below_drew1) | exact HB.out)))); have n1_ := Aside0.mk (below_step (by repeat (first | (with_reducible first | exact HB.out | apply below_alloc | apply pw_below_drewN | apply below_drew1) | exact HB.out)) hb); clear HB; have HO144 := n0_; have HB := n1_; clear n0_ n1_; clear hb ho20; obtain ⟨Ao21, co21, eo21⟩ := Kd.R_slice HO144.out; subst eo21) | ((with_reducible refine gate_callee (f := 25) rfl ?_); refine goesL_ (some 12) rfl rfl Try.func25 (by kernel_rfl) rfl #[.slice Ao21 y142.length co21, .string (⟨#[97, 47, 98, 47, 99]⟩ : ByteArray), .agg #[.int .i64 1, .int .i64 0, .int .i64 0, .string (⟨#[]⟩ : ByteArray)]] rfl (by (try simp only [List.map_toArray, List.map_cons, List.map_nil]); first | done | rfl | (simp only [List.length_drop, List.length_take]; rfl)) ?_; (with_reducible refine (path_Find.calls k _ _ y142 (⟨#[97, 47, 98, 47, 99]⟩ : ByteArray) 1 0 0 (⟨#[]⟩ : ByteArray) t145 t146 _ ?side1 ?side2 A2.out).mono ?_); (case side1 => repeat (first | exact (Kd.R_reads' HO144.out).2.2 | (with_reducible refine Kd.C_alloc ?_ _) | (with_reducible refine Kd.C_drewN ?_ _) | (with_reducible refine Kd.C_drew ?_))); (case side2 => exact (Kd.R_reads' HO144.out).2.1); rintro e w22 ⟨rfl, hb⟩; refine ⟨_, rfl, ?_⟩; have n0_ := Aside0.mk (Kd.R_below (by (with_reducible repeat (first | apply Kd.R_alloc | apply Kd.R_drewN | apply Kd.R_drew)); exact HO144.out) hb); have n1_ := Aside0.mk (below_step (by repeat (first | (with_reducible first | exact HB.out | apply below_alloc | apply pw_below_drewN | apply below_drew1) | exact HB.out)) hb); clear HO144; clear HB; have HO144 := n0_; have HB := n1_; clear n0_ n1_; (try clear hb); (try clear hb2); (try clear hk); (try clear hi)) | (go_at_call 15; (with_reducible refine (path_Right.calls k (⟨#[97, 47, 98, 46, 99]⟩ : ByteArray) true _ A5.out).mono ?_); rintro e w' ⟨rfl, ⟨nd, rfl⟩⟩) | (go_at_call 15; (with_reducible refine (path_Right.calls k (⟨#[97, 47, 47, 98]⟩ : ByteArray) false _ A7.out).mono ?_); rintro e w' ⟨rfl, ⟨nd, rfl⟩⟩) | (go_at_call 21; (with_reducible refine (path_Fits.calls k (⟨#[97, 47, 118, 50]⟩ : ByteArray) 2 0 0 (⟨#[]⟩ : ByteArray) true _ A14.out).mono ?_); rintro e w23 ⟨rfl, hb⟩; have n0_ := Aside0.mk (Kd.R_below (by (with_reducible repeat (first | apply Kd.R_alloc | apply Kd.R_drewN | apply Kd.R_drew)); exact HO144.out) hb); have n1_ := Aside0.mk (below_step (by repeat (first | (with_reducible first | exact HB.out | apply below_alloc | apply pw_below_drewN | apply below_drew1) | exact HB.out)) hb); clear HO144; clear HB; have HO144 := n0_; have HB := n1_; clear n0_ n1_; (try clear hb); (try clear hb2); (try clear hk); (try clear hi)) | (go_at_call 21; (with_reducible refine (path_Fits.calls k (⟨#[97]⟩ : ByteArray) 2 0 0 (⟨#[]⟩ : ByteArray) true _ A16.out).mono ?_); rintro e w24 ⟨rfl, hb⟩; have n0_ := Aside0.mk (Kd.R_below (by (with_reducible repeat (first | apply Kd.R_alloc | apply Kd.R_drewN | apply Kd.R_drew)); exact HO144.out) hb); have n1_ := Aside0.mk (below_step (by repeat (first | (with_reducible first | exact HB.out | apply below_alloc | apply pw_below_drewN | apply below_drew1) | exact HB.out)) hb); clear HO144; clear HB; have HO144 := n0_; have HB := n1_; clear n0_ n1_; (try clear hb); (try clear hb2); (try clear hk); (try clear hi)))
              go_ret
              exact ⟨by first | rfl | (simp [errW_none, errW_some] <;> rfl) | (simp [*, errW_none, errW_some] <;> rfl), by repeat (first | (with_reducible first | exact HB.out | apply below_alloc | apply pw_below_drewN | apply below_drew1) | exact HB.out)⟩
            · replace c17 := Bool.eq_false_iff.mpr c17
              subst c17
              have H1 : ((path_Within.f (⟨#[97, 47, 98]⟩ : ByteArray) (⟨#[97]⟩ : ByteArray)).bind fun t151 => (if t151 = true then ((path_Within.f (⟨#[97, 98]⟩ : ByteArray) (⟨#[97]⟩ : ByteArray)).bind fun t152 => (if t152 = true then (some false) else (if t146 = true then (some (t145.toList == ([97, 47, 98] : List UInt8))) else (some false)))) else (some false))) = some r := by rw [if_neg (show ¬ (false = true) by decide)] at H; exact H
              clear H
              have H := H1
              clear H1
              replace H := Option.bind_eq_some_iff.mp H
              obtain ⟨t151, A250, H⟩ := H
              replace H : (if t151 = true then ((path_Within.f (⟨#[97, 98]⟩ : ByteArray) (⟨#[97]⟩ : ByteArray)).bind fun t152 => (if t152 = true then (some false) else (if t146 = true then (some (t145.toList == ([97, 47, 98] : List UInt8))) else (some false)))) else (some false)) = some r := H
              have A25 := Aside0.mk A250
              clear A250
              by_cases c26 : t151 = true
              · subst c26
                have H1 : ((path_Within.f (⟨#[97, 98]⟩ : ByteArray) (⟨#[97]⟩ : ByteArray)).bind fun t152 => (if t152 = true then (some false) else (if t146 = true then (some (t145.toList == ([97, 47, 98] : List UInt8))) else (some false)))) = some r := by rw [if_pos rfl] at H; exact H
                clear H
                have H := H1
                clear H1
                replace H := Option.bind_eq_some_iff.mp H
                obtain ⟨t152, A270, H⟩ := H
                replace H : (if t152 = true then (some false) else (if t146 = true then (some (t145.toList == ([97, 47, 98] : List UInt8))) else (some false))) = some r := H
                have A27 := Aside0.mk A270
                clear A270
                by_cases c28 : t152 = true
                · subst c28
                  have H1 : (some false) = some r := by rw [if_pos rfl] at H; exact H
                  clear H
                  have H := H1
                  clear H1
                  obtain rfl := Option.some.inj H
                  go_enter Try.func12, Try.ntmps12
                  go_wp2_with (first | ((with_reducible refine gate_callee (f := 17) rfl ?_); refine goesL_ (some 6) rfl rfl Try.func17 (by kernel_rfl) rfl #[.string (⟨#[97, 47, 118, 50]⟩ : ByteArray)] rfl (by (try simp only [List.map_toArray, List.map_cons, List.map_nil]); first | done | rfl | (simp only [List.length_drop, List.length_take]; rfl)) ?_; (with_reducible refine (path_Major.calls k (⟨#[97, 47, 118, 50]⟩ : ByteArray) t140 t141 _ A1.out).mono ?_); rintro e w29 ⟨rfl, hb⟩; refine ⟨_, rfl, ?_⟩; have n0_ := Aside0.mk (below_step (by repeat (first | (with_reducible first | exact HB.out | apply below_alloc | apply pw_below_drewN | apply below_drew1) | exact HB.out)) hb); clear HB; have HB := n0_; clear n0_; (try clear hb); (try clear hb2); (try clear hk); (try clear hi)) | ((with_reducible refine gate_dst (N := 10) rfl ?_); refine Kd.R_lit Kd.string _ 9 ?hg (N := 10) ?hd (xs := ([(⟨#[97]⟩ : ByteArray), (⟨#[97, 47, 98]⟩ : ByteArray), (⟨#[97, 47, 118, 50]⟩ : ByteArray)] : List ByteArray)) (inner := [.string (⟨#[97]⟩ : ByteArray), .string (⟨#[97, 47, 98]⟩ : ByteArray), .string (⟨#[97, 47, 118, 50]⟩ : ByteArray)]) (ok := fun _ => True) (okp := fun _ => True) ?hr ?hp (fun _ hk => hk) trivial (Below.refl _ _) (Nat.le_refl _) (by simp) ?_; (case hd => rfl); (case hg => rfl); (case hr => first | (go_simp; done) | (go_simp; rfl)); (case hp => exact (Reps.one (show Kd.M Kd.string _ _ _ (⟨#[97]⟩ : ByteArray) [.string (⟨#[97]⟩ : ByteArray)] from rfl) (Reps.one (show Kd.M Kd.string _ _ _ (⟨#[97, 47, 98]⟩ : ByteArray) [.string (⟨#[97, 47, 98]⟩ : ByteArray)] from rfl) (Reps.one (show Kd.M Kd.string _ _ _ (⟨#[97, 47, 118, 50]⟩ : ByteArray) [.string (⟨#[97, 47, 118, 50]⟩ : ByteArray)] from rfl) (Reps.none _ _))))); intro v143 w30 ho31 hb hg_ hnew_; clear hg_ hnew_; (first | rw [← Ny142.out] at ho31 | (simp only [Int.reduceToNat] at ho31; rw [← Ny142.out] at ho31)); have n0_ := Aside0.mk (Kd.R_lower ho31 (below_size (by repeat (first | (with_reducible first | exact HB.out | apply below_alloc | apply pw_below_drewN | apply below_drew1) | exact HB.out)))); have n1_ := Aside0.mk (below_step (by repeat (first | (with_reducible first | exact HB.out | apply below_alloc | apply pw_below_drewN | apply below_drew1) | exact HB.out)) hb); clear HB; have HO144 := n0_; have HB := n1_; clear n0_ n1_; clear hb ho31; obtain ⟨Ao32, co32, eo32⟩ := Kd.R_slice HO144.out; subst eo32) | ((with_reducible refine gate_callee (f := 25) rfl ?_); refine goesL_ (some 12) rfl rfl Try.func25 (by kernel_rfl) rfl #[.slice Ao32 y142.length co32, .string (⟨#[97, 47, 98, 47, 99]⟩ : ByteArray), .agg #[.int .i64 1, .int .i64 0, .int .i64 0, .string (⟨#[]⟩ : ByteArray)]] rfl (by (try simp only [List.map_toArray, List.map_cons, List.map_nil]); first | done | rfl | (simp only [List.length_drop, List.length_take]; rfl)) ?_; (with_reducible refine (path_Find.calls k _ _ y142 (⟨#[97, 47, 98, 47, 99]⟩ : ByteArray) 1 0 0 (⟨#[]⟩ : ByteArray) t145 t146 _ ?side1 ?side2 A2.out).mono ?_); (case side1 => repeat (first | exact (Kd.R_reads' HO144.out).2.2 | (with_reducible refine Kd.C_alloc ?_ _) | (with_reducible refine Kd.C_drewN ?_ _) | (with_reducible refine Kd.C_drew ?_))); (case side2 => exact (Kd.R_reads' HO144.out).2.1); rintro e w33 ⟨rfl, hb⟩; refine ⟨_, rfl, ?_⟩; have n0_ := Aside0.mk (Kd.R_below (by (with_reducible repeat (first | apply Kd.R_alloc | apply Kd.R_drewN | apply Kd.R_drew)); exact HO144.out) hb); have n1_ := Aside0.mk (below_step (by repeat (first | (with_reducible first | exact HB.out | apply below_alloc | apply pw_below_drewN | apply below_drew1) | exact HB.out)) hb); clear HO144; clear HB; have HO144 := n0_; have HB := n1_; clear n0_ n1_; (try clear hb); (try clear hb2); (try clear hk); (try clear hi)) | (go_at_call 15; (with_reducible refine (path_Right.calls k (⟨#[97, 47, 98, 46, 99]⟩ : ByteArray) true _ A5.out).mono ?_); rintro e w' ⟨rfl, ⟨nd, rfl⟩⟩) | (go_at_call 15; (with_reducible refine (path_Right.calls k (⟨#[97, 47, 47, 98]⟩ : ByteArray) false _ A7.out).mono ?_); rintro e w' ⟨rfl, ⟨nd, rfl⟩⟩) | (go_at_call 21; (with_reducible refine (path_Fits.calls k (⟨#[97, 47, 118, 50]⟩ : ByteArray) 2 0 0 (⟨#[]⟩ : ByteArray) true _ A14.out).mono ?_); rintro e w34 ⟨rfl, hb⟩; have n0_ := Aside0.mk (Kd.R_below (by (with_reducible repeat (first | apply Kd.R_alloc | apply Kd.R_drewN | apply Kd.R_drew)); exact HO144.out) hb); have n1_ := Aside0.mk (below_step (by repeat (first | (with_reducible first | exact HB.out | apply below_alloc | apply pw_below_drewN | apply below_drew1) | exact HB.out)) hb); clear HO144; clear HB; have HO144 := n0_; have HB := n1_; clear n0_ n1_; (try clear hb); (try clear hb2); (try clear hk); (try clear hi)) | (go_at_call 21; (with_reducible refine (path_Fits.calls k (⟨#[97]⟩ : ByteArray) 2 0 0 (⟨#[]⟩ : ByteArray) false _ A16.out).mono ?_); rintro e w35 ⟨rfl, hb⟩; have n0_ := Aside0.mk (Kd.R_below (by (with_reducible repeat (first | apply Kd.R_alloc | apply Kd.R_drewN | apply Kd.R_drew)); exact HO144.out) hb); have n1_ := Aside0.mk (below_step (by repeat (first | (with_reducible first | exact HB.out | apply below_alloc | apply pw_below_drewN | apply below_drew1) | exact HB.out)) hb); clear HO144; clear HB; have HO144 := n0_; have HB := n1_; clear n0_ n1_; (try clear hb); (try clear hb2); (try clear hk); (try clear hi)) | (go_at_call 23; (with_reducible refine (path_Within.calls (⟨#[97, 47, 98]⟩ : ByteArray) (⟨#[97]⟩ : ByteArray) true _ A25.out).mono ?_); rintro e w' ⟨rfl, ⟨nd, rfl⟩⟩) | (go_at_call 23; (with_reducible refine (path_Within.calls (⟨#[97, 98]⟩ : ByteArray) (⟨#[97]⟩ : ByteArray) true _ A27.out).mono ?_); rintro e w' ⟨rfl, ⟨nd, rfl⟩⟩))
                  go_ret
                  exact ⟨by first | rfl | (simp [errW_none, errW_some] <;> rfl) | (simp [*, errW_none, errW_some] <;> rfl), by repeat (first | (with_reducible first | exact HB.out | apply below_alloc | apply pw_below_drewN | apply below_drew1) | exact HB.out)⟩
                · replace c28 := Bool.eq_false_iff.mpr c28
                  subst c28
                  have H1 : (if t146 = true then (some (t145.toList == ([97, 47, 98] : List UInt8))) else (some false)) = some r := by rw [if_neg (show ¬ (false = true) by decide)] at H; exact H
                  clear H
                  have H := H1
                  clear H1
                  by_cases c36 : t146 = true
                  · subst c36
                    have H1 : (some (t145.toList == ([97, 47, 98] : List UInt8))) = some r := by rw [if_pos rfl] at H; exact H
                    clear H
                    have H := H1
                    clear H1
                    obtain rfl := Option.some.inj H
                    go_enter Try.func12, Try.ntmps12
                    go_wp2_with (first | ((with_reducible refine gate_callee (f := 17) rfl ?_); refine goesL_ (some 6) rfl rfl Try.func17 (by kernel_rfl) rfl #[.string (⟨#[97, 47, 118, 50]⟩ : ByteArray)] rfl (by (try simp only [List.map_toArray, List.map_cons, List.map_nil]); first | done | rfl | (simp only [List.length_drop, List.length_take]; rfl)) ?_; (with_reducible refine (path_Major.calls k (⟨#[97, 47, 118, 50]⟩ : ByteArray) t140 t141 _ A1.out).mono ?_); rintro e w37 ⟨rfl, hb⟩; refine ⟨_, rfl, ?_⟩; have n0_ := Aside0.mk (below_step (by repeat (first | (with_reducible first | exact HB.out | apply below_alloc | apply pw_below_drewN | apply below_drew1) | exact HB.out)) hb); clear HB; have HB := n0_; clear n0_; (try clear hb); (try clear hb2); (try clear hk); (try clear hi)) | ((with_reducible refine gate_dst (N := 10) rfl ?_); refine Kd.R_lit Kd.string _ 9 ?hg (N := 10) ?hd (xs := ([(⟨#[97]⟩ : ByteArray), (⟨#[97, 47, 98]⟩ : ByteArray), (⟨#[97, 47, 118, 50]⟩ : ByteArray)] : List ByteArray)) (inner := [.string (⟨#[97]⟩ : ByteArray), .string (⟨#[97, 47, 98]⟩ : ByteArray), .string (⟨#[97, 47, 118, 50]⟩ : ByteArray)]) (ok := fun _ => True) (okp := fun _ => True) ?hr ?hp (fun _ hk => hk) trivial (Below.refl _ _) (Nat.le_refl _) (by simp) ?_; (case hd => rfl); (case hg => rfl); (case hr => first | (go_simp; done) | (go_simp; rfl)); (case hp => exact (Reps.one (show Kd.M Kd.string _ _ _ (⟨#[97]⟩ : ByteArray) [.string (⟨#[97]⟩ : ByteArray)] from rfl) (Reps.one (show Kd.M Kd.string _ _ _ (⟨#[97, 47, 98]⟩ : ByteArray) [.string (⟨#[97, 47, 98]⟩ : ByteArray)] from rfl) (Reps.one (show Kd.M Kd.string _ _ _ (⟨#[97, 47, 118, 50]⟩ : ByteArray) [.string (⟨#[97, 47, 118, 50]⟩ : ByteArray)] from rfl) (Reps.none _ _))))); intro v143 w38 ho39 hb hg_ hnew_; clear hg_ hnew_; (first | rw [← Ny142.out] at ho39 | (simp only [Int.reduceToNat] at ho39; rw [← Ny142.out] at ho39)); have n0_ := Aside0.mk (Kd.R_lower ho39 (below_size (by repeat (first | (with_reducible first | exact HB.out | apply below_alloc | apply pw_below_drewN | apply below_drew1) | exact HB.out)))); have n1_ := Aside0.mk (below_step (by repeat (first | (with_reducible first | exact HB.out | apply below_alloc | apply pw_below_drewN | apply below_drew1) | exact HB.out)) hb); clear HB; have HO144 := n0_; have HB := n1_; clear n0_ n1_; clear hb ho39; obtain ⟨Ao40, co40, eo40⟩ := Kd.R_slice HO144.out; subst eo40) | ((with_reducible refine gate_callee (f := 25) rfl ?_); refine goesL_ (some 12) rfl rfl Try.func25 (by kernel_rfl) rfl #[.slice Ao40 y142.length co40, .string (⟨#[97, 47, 98, 47, 99]⟩ : ByteArray), .agg #[.int .i64 1, .int .i64 0, .int .i64 0, .string (⟨#[]⟩ : ByteArray)]] rfl (by (try simp only [List.map_toArray, List.map_cons, List.map_nil]); first | done | rfl | (simp only [List.length_drop, List.length_take]; rfl)) ?_; (with_reducible refine (path_Find.calls k _ _ y142 (⟨#[97, 47, 98, 47, 99]⟩ : ByteArray) 1 0 0 (⟨#[]⟩ : ByteArray) t145 true _ ?side1 ?side2 A2.out).mono ?_); (case side1 => repeat (first | exact (Kd.R_reads' HO144.out).2.2 | (with_reducible refine Kd.C_alloc ?_ _) | (with_reducible refine Kd.C_drewN ?_ _) | (with_reducible refine Kd.C_drew ?_))); (case side2 => exact (Kd.R_reads' HO144.out).2.1); rintro e w41 ⟨rfl, hb⟩; refine ⟨_, rfl, ?_⟩; have n0_ := Aside0.mk (Kd.R_below (by (with_reducible repeat (first | apply Kd.R_alloc | apply Kd.R_drewN | apply Kd.R_drew)); exact HO144.out) hb); have n1_ := Aside0.mk (below_step (by repeat (first | (with_reducible first | exact HB.out | apply below_alloc | apply pw_below_drewN | apply below_drew1) | exact HB.out)) hb); clear HO144; clear HB; have HO144 := n0_; have HB := n1_; clear n0_ n1_; (try clear hb); (try clear hb2); (try clear hk); (try clear hi)) | (go_at_call 15; (with_reducible refine (path_Right.calls k (⟨#[97, 47, 98, 46, 99]⟩ : ByteArray) true _ A5.out).mono ?_); rintro e w' ⟨rfl, ⟨nd, rfl⟩⟩) | (go_at_call 15; (with_reducible refine (path_Right.calls k (⟨#[97, 47, 47, 98]⟩ : ByteArray) false _ A7.out).mono ?_); rintro e w' ⟨rfl, ⟨nd, rfl⟩⟩) | (go_at_call 21; (with_reducible refine (path_Fits.calls k (⟨#[97, 47, 118, 50]⟩ : ByteArray) 2 0 0 (⟨#[]⟩ : ByteArray) true _ A14.out).mono ?_); rintro e w42 ⟨rfl, hb⟩; have n0_ := Aside0.mk (Kd.R_below (by (with_reducible repeat (first | apply Kd.R_alloc | apply Kd.R_drewN | apply Kd.R_drew)); exact HO144.out) hb); have n1_ := Aside0.mk (below_step (by repeat (first | (with_reducible first | exact HB.out | apply below_alloc | apply pw_below_drewN | apply below_drew1) | exact HB.out)) hb); clear HO144; clear HB; have HO144 := n0_; have HB := n1_; clear n0_ n1_; (try clear hb); (try clear hb2); (try clear hk); (try clear hi)) | (go_at_call 21; (with_reducible refine (path_Fits.calls k (⟨#[97]⟩ : ByteArray) 2 0 0 (⟨#[]⟩ : ByteArray) false _ A16.out).mono ?_); rintro e w43 ⟨rfl, hb⟩; have n0_ := Aside0.mk (Kd.R_below (by (with_reducible repeat (first | apply Kd.R_alloc | apply Kd.R_drewN | apply Kd.R_drew)); exact HO144.out) hb); have n1_ := Aside0.mk (below_step (by repeat (first | (with_reducible first | exact HB.out | apply below_alloc | apply pw_below_drewN | apply below_drew1) | exact HB.out)) hb); clear HO144; clear HB; have HO144 := n0_; have HB := n1_; clear n0_ n1_; (try clear hb); (try clear hb2); (try clear hk); (try clear hi)) | (go_at_call 23; (with_reducible refine (path_Within.calls (⟨#[97, 47, 98]⟩ : ByteArray) (⟨#[97]⟩ : ByteArray) true _ A25.out).mono ?_); rintro e w' ⟨rfl, ⟨nd, rfl⟩⟩) | (go_at_call 23; (with_reducible refine (path_Within.calls (⟨#[97, 98]⟩ : ByteArray) (⟨#[97]⟩ : ByteArray) false _ A27.out).mono ?_); rintro e w' ⟨rfl, ⟨nd, rfl⟩⟩))
                    go_ret
                    exact ⟨by first | rfl | (simp [errW_none, errW_some] <;> rfl) | (simp [*, errW_none, errW_some] <;> rfl), by repeat (first | (with_reducible first | exact HB.out | apply below_alloc | apply pw_below_drewN | apply below_drew1) | exact HB.out)⟩
                  · replace c36 := Bool.eq_false_iff.mpr c36
                    subst c36
                    have H1 : (some false) = some r := by rw [if_neg (show ¬ (false = true) by decide)] at H; exact H
                    clear H
                    have H := H1
                    clear H1
                    obtain rfl := Option.some.inj H
                    go_enter Try.func12, Try.ntmps12
                    go_wp2_with (first | ((with_reducible refine gate_callee (f := 17) rfl ?_); refine goesL_ (some 6) rfl rfl Try.func17 (by kernel_rfl) rfl #[.string (⟨#[97, 47, 118, 50]⟩ : ByteArray)] rfl (by (try simp only [List.map_toArray, List.map_cons, List.map_nil]); first | done | rfl | (simp only [List.length_drop, List.length_take]; rfl)) ?_; (with_reducible refine (path_Major.calls k (⟨#[97, 47, 118, 50]⟩ : ByteArray) t140 t141 _ A1.out).mono ?_); rintro e w44 ⟨rfl, hb⟩; refine ⟨_, rfl, ?_⟩; have n0_ := Aside0.mk (below_step (by repeat (first | (with_reducible first | exact HB.out | apply below_alloc | apply pw_below_drewN | apply below_drew1) | exact HB.out)) hb); clear HB; have HB := n0_; clear n0_; (try clear hb); (try clear hb2); (try clear hk); (try clear hi)) | ((with_reducible refine gate_dst (N := 10) rfl ?_); refine Kd.R_lit Kd.string _ 9 ?hg (N := 10) ?hd (xs := ([(⟨#[97]⟩ : ByteArray), (⟨#[97, 47, 98]⟩ : ByteArray), (⟨#[97, 47, 118, 50]⟩ : ByteArray)] : List ByteArray)) (inner := [.string (⟨#[97]⟩ : ByteArray), .string (⟨#[97, 47, 98]⟩ : ByteArray), .string (⟨#[97, 47, 118, 50]⟩ : ByteArray)]) (ok := fun _ => True) (okp := fun _ => True) ?hr ?hp (fun _ hk => hk) trivial (Below.refl _ _) (Nat.le_refl _) (by simp) ?_; (case hd => rfl); (case hg => rfl); (case hr => first | (go_simp; done) | (go_simp; rfl)); (case hp => exact (Reps.one (show Kd.M Kd.string _ _ _ (⟨#[97]⟩ : ByteArray) [.string (⟨#[97]⟩ : ByteArray)] from rfl) (Reps.one (show Kd.M Kd.string _ _ _ (⟨#[97, 47, 98]⟩ : ByteArray) [.string (⟨#[97, 47, 98]⟩ : ByteArray)] from rfl) (Reps.one (show Kd.M Kd.string _ _ _ (⟨#[97, 47, 118, 50]⟩ : ByteArray) [.string (⟨#[97, 47, 118, 50]⟩ : ByteArray)] from rfl) (Reps.none _ _))))); intro v143 w45 ho46 hb hg_ hnew_; clear hg_ hnew_; (first | rw [← Ny142.out] at ho46 | (simp only [Int.reduceToNat] at ho46; rw [← Ny142.out] at ho46)); have n0_ := Aside0.mk (Kd.R_lower ho46 (below_size (by repeat (first | (with_reducible first | exact HB.out | apply below_alloc | apply pw_below_drewN | apply below_drew1) | exact HB.out)))); have n1_ := Aside0.mk (below_step (by repeat (first | (with_reducible first | exact HB.out | apply below_alloc | apply pw_below_drewN | apply below_drew1) | exact HB.out)) hb); clear HB; have HO144 := n0_; have HB := n1_; clear n0_ n1_; clear hb ho46; obtain ⟨Ao47, co47, eo47⟩ := Kd.R_slice HO144.out; subst eo47) | ((with_reducible refine gate_callee (f := 25) rfl ?_); refine goesL_ (some 12) rfl rfl Try.func25 (by kernel_rfl) rfl #[.slice Ao47 y142.length co47, .string (⟨#[97, 47, 98, 47, 99]⟩ : ByteArray), .agg #[.int .i64 1, .int .i64 0, .int .i64 0, .string (⟨#[]⟩ : ByteArray)]] rfl (by (try simp only [List.map_toArray, List.map_cons, List.map_nil]); first | done | rfl | (simp only [List.length_drop, List.length_take]; rfl)) ?_; (with_reducible refine (path_Find.calls k _ _ y142 (⟨#[97, 47, 98, 47, 99]⟩ : ByteArray) 1 0 0 (⟨#[]⟩ : ByteArray) t145 false _ ?side1 ?side2 A2.out).mono ?_); (case side1 => repeat (first | exact (Kd.R_reads' HO144.out).2.2 | (with_reducible refine Kd.C_alloc ?_ _) | (with_reducible refine Kd.C_drewN ?_ _) | (with_reducible refine Kd.C_drew ?_))); (case side2 => exact (Kd.R_reads' HO144.out).2.1); rintro e w48 ⟨rfl, hb⟩; refine ⟨_, rfl, ?_⟩; have n0_ := Aside0.mk (Kd.R_below (by (with_reducible repeat (first | apply Kd.R_alloc | apply Kd.R_drewN | apply Kd.R_drew)); exact HO144.out) hb); have n1_ := Aside0.mk (below_step (by repeat (first | (with_reducible first | exact HB.out | apply below_alloc | apply pw_below_drewN | apply below_drew1) | exact HB.out)) hb); clear HO144; clear HB; have HO144 := n0_; have HB := n1_; clear n0_ n1_; (try clear hb); (try clear hb2); (try clear hk); (try clear hi)) | (go_at_call 15; (with_reducible refine (path_Right.calls k (⟨#[97, 47, 98, 46, 99]⟩ : ByteArray) true _ A5.out).mono ?_); rintro e w' ⟨rfl, ⟨nd, rfl⟩⟩) | (go_at_call 15; (with_reducible refine (path_Right.calls k (⟨#[97, 47, 47, 98]⟩ : ByteArray) false _ A7.out).mono ?_); rintro e w' ⟨rfl, ⟨nd, rfl⟩⟩) | (go_at_call 21; (with_reducible refine (path_Fits.calls k (⟨#[97, 47, 118, 50]⟩ : ByteArray) 2 0 0 (⟨#[]⟩ : ByteArray) true _ A14.out).mono ?_); rintro e w49 ⟨rfl, hb⟩; have n0_ := Aside0.mk (Kd.R_below (by (with_reducible repeat (first | apply Kd.R_alloc | apply Kd.R_drewN | apply Kd.R_drew)); exact HO144.out) hb); have n1_ := Aside0.mk (below_step (by repeat (first | (with_reducible first | exact HB.out | apply below_alloc | apply pw_below_drewN | apply below_drew1) | exact HB.out)) hb); clear HO144; clear HB; have HO144 := n0_; have HB := n1_; clear n0_ n1_; (try clear hb); (try clear hb2); (try clear hk); (try clear hi)) | (go_at_call 21; (with_reducible refine (path_Fits.calls k (⟨#[97]⟩ : ByteArray) 2 0 0 (⟨#[]⟩ : ByteArray) false _ A16.out).mono ?_); rintro e w50 ⟨rfl, hb⟩; have n0_ := Aside0.mk (Kd.R_below (by (with_reducible repeat (first | apply Kd.R_alloc | apply Kd.R_drewN | apply Kd.R_drew)); exact HO144.out) hb); have n1_ := Aside0.mk (below_step (by repeat (first | (with_reducible first | exact HB.out | apply below_alloc | apply pw_below_drewN | apply below_drew1) | exact HB.out)) hb); clear HO144; clear HB; have HO144 := n0_; have HB := n1_; clear n0_ n1_; (try clear hb); (try clear hb2); (try clear hk); (try clear hi)) | (go_at_call 23; (with_reducible refine (path_Within.calls (⟨#[97, 47, 98]⟩ : ByteArray) (⟨#[97]⟩ : ByteArray) true _ A25.out).mono ?_); rintro e w' ⟨rfl, ⟨nd, rfl⟩⟩) | (go_at_call 23; (with_reducible refine (path_Within.calls (⟨#[97, 98]⟩ : ByteArray) (⟨#[97]⟩ : ByteArray) false _ A27.out).mono ?_); rintro e w' ⟨rfl, ⟨nd, rfl⟩⟩))
                    go_ret
                    exact ⟨by first | rfl | (simp [errW_none, errW_some] <;> rfl) | (simp [*, errW_none, errW_some] <;> rfl), by repeat (first | (with_reducible first | exact HB.out | apply below_alloc | apply pw_below_drewN | apply below_drew1) | exact HB.out)⟩
              · replace c26 := Bool.eq_false_iff.mpr c26
                subst c26
                have H1 : (some false) = some r := by rw [if_neg (show ¬ (false = true) by decide)] at H; exact H
                clear H
                have H := H1
                clear H1
                obtain rfl := Option.some.inj H
                go_enter Try.func12, Try.ntmps12
                go_wp2_with (first | ((with_reducible refine gate_callee (f := 17) rfl ?_); refine goesL_ (some 6) rfl rfl Try.func17 (by kernel_rfl) rfl #[.string (⟨#[97, 47, 118, 50]⟩ : ByteArray)] rfl (by (try simp only [List.map_toArray, List.map_cons, List.map_nil]); first | done | rfl | (simp only [List.length_drop, List.length_take]; rfl)) ?_; (with_reducible refine (path_Major.calls k (⟨#[97, 47, 118, 50]⟩ : ByteArray) t140 t141 _ A1.out).mono ?_); rintro e w51 ⟨rfl, hb⟩; refine ⟨_, rfl, ?_⟩; have n0_ := Aside0.mk (below_step (by repeat (first | (with_reducible first | exact HB.out | apply below_alloc | apply pw_below_drewN | apply below_drew1) | exact HB.out)) hb); clear HB; have HB := n0_; clear n0_; (try clear hb); (try clear hb2); (try clear hk); (try clear hi)) | ((with_reducible refine gate_dst (N := 10) rfl ?_); refine Kd.R_lit Kd.string _ 9 ?hg (N := 10) ?hd (xs := ([(⟨#[97]⟩ : ByteArray), (⟨#[97, 47, 98]⟩ : ByteArray), (⟨#[97, 47, 118, 50]⟩ : ByteArray)] : List ByteArray)) (inner := [.string (⟨#[97]⟩ : ByteArray), .string (⟨#[97, 47, 98]⟩ : ByteArray), .string (⟨#[97, 47, 118, 50]⟩ : ByteArray)]) (ok := fun _ => True) (okp := fun _ => True) ?hr ?hp (fun _ hk => hk) trivial (Below.refl _ _) (Nat.le_refl _) (by simp) ?_; (case hd => rfl); (case hg => rfl); (case hr => first | (go_simp; done) | (go_simp; rfl)); (case hp => exact (Reps.one (show Kd.M Kd.string _ _ _ (⟨#[97]⟩ : ByteArray) [.string (⟨#[97]⟩ : ByteArray)] from rfl) (Reps.one (show Kd.M Kd.string _ _ _ (⟨#[97, 47, 98]⟩ : ByteArray) [.string (⟨#[97, 47, 98]⟩ : ByteArray)] from rfl) (Reps.one (show Kd.M Kd.string _ _ _ (⟨#[97, 47, 118, 50]⟩ : ByteArray) [.string (⟨#[97, 47, 118, 50]⟩ : ByteArray)] from rfl) (Reps.none _ _))))); intro v143 w52 ho53 hb hg_ hnew_; clear hg_ hnew_; (first | rw [← Ny142.out] at ho53 | (simp only [Int.reduceToNat] at ho53; rw [← Ny142.out] at ho53)); have n0_ := Aside0.mk (Kd.R_lower ho53 (below_size (by repeat (first | (with_reducible first | exact HB.out | apply below_alloc | apply pw_below_drewN | apply below_drew1) | exact HB.out)))); have n1_ := Aside0.mk (below_step (by repeat (first | (with_reducible first | exact HB.out | apply below_alloc | apply pw_below_drewN | apply below_drew1) | exact HB.out)) hb); clear HB; have HO144 := n0_; have HB := n1_; clear n0_ n1_; clear hb ho53; obtain ⟨Ao54, co54, eo54⟩ := Kd.R_slice HO144.out; subst eo54) | ((with_reducible refine gate_callee (f := 25) rfl ?_); refine goesL_ (some 12) rfl rfl Try.func25 (by kernel_rfl) rfl #[.slice Ao54 y142.length co54, .string (⟨#[97, 47, 98, 47, 99]⟩ : ByteArray), .agg #[.int .i64 1, .int .i64 0, .int .i64 0, .string (⟨#[]⟩ : ByteArray)]] rfl (by (try simp only [List.map_toArray, List.map_cons, List.map_nil]); first | done | rfl | (simp only [List.length_drop, List.length_take]; rfl)) ?_; (with_reducible refine (path_Find.calls k _ _ y142 (⟨#[97, 47, 98, 47, 99]⟩ : ByteArray) 1 0 0 (⟨#[]⟩ : ByteArray) t145 t146 _ ?side1 ?side2 A2.out).mono ?_); (case side1 => repeat (first | exact (Kd.R_reads' HO144.out).2.2 | (with_reducible refine Kd.C_alloc ?_ _) | (with_reducible refine Kd.C_drewN ?_ _) | (with_reducible refine Kd.C_drew ?_))); (case side2 => exact (Kd.R_reads' HO144.out).2.1); rintro e w55 ⟨rfl, hb⟩; refine ⟨_, rfl, ?_⟩; have n0_ := Aside0.mk (Kd.R_below (by (with_reducible repeat (first | apply Kd.R_alloc | apply Kd.R_drewN | apply Kd.R_drew)); exact HO144.out) hb); have n1_ := Aside0.mk (below_step (by repeat (first | (with_reducible first | exact HB.out | apply below_alloc | apply pw_below_drewN | apply below_drew1) | exact HB.out)) hb); clear HO144; clear HB; have HO144 := n0_; have HB := n1_; clear n0_ n1_; (try clear hb); (try clear hb2); (try clear hk); (try clear hi)) | (go_at_call 15; (with_reducible refine (path_Right.calls k (⟨#[97, 47, 98, 46, 99]⟩ : ByteArray) true _ A5.out).mono ?_); rintro e w' ⟨rfl, ⟨nd, rfl⟩⟩) | (go_at_call 15; (with_reducible refine (path_Right.calls k (⟨#[97, 47, 47, 98]⟩ : ByteArray) false _ A7.out).mono ?_); rintro e w' ⟨rfl, ⟨nd, rfl⟩⟩) | (go_at_call 21; (with_reducible refine (path_Fits.calls k (⟨#[97, 47, 118, 50]⟩ : ByteArray) 2 0 0 (⟨#[]⟩ : ByteArray) true _ A14.out).mono ?_); rintro e w56 ⟨rfl, hb⟩; have n0_ := Aside0.mk (Kd.R_below (by (with_reducible repeat (first | apply Kd.R_alloc | apply Kd.R_drewN | apply Kd.R_drew)); exact HO144.out) hb); have n1_ := Aside0.mk (below_step (by repeat (first | (with_reducible first | exact HB.out | apply below_alloc | apply pw_below_drewN | apply below_drew1) | exact HB.out)) hb); clear HO144; clear HB; have HO144 := n0_; have HB := n1_; clear n0_ n1_; (try clear hb); (try clear hb2); (try clear hk); (try clear hi)) | (go_at_call 21; (with_reducible refine (path_Fits.calls k (⟨#[97]⟩ : ByteArray) 2 0 0 (⟨#[]⟩ : ByteArray) false _ A16.out).mono ?_); rintro e w57 ⟨rfl, hb⟩; have n0_ := Aside0.mk (Kd.R_below (by (with_reducible repeat (first | apply Kd.R_alloc | apply Kd.R_drewN | apply Kd.R_drew)); exact HO144.out) hb); have n1_ := Aside0.mk (below_step (by repeat (first | (with_reducible first | exact HB.out | apply below_alloc | apply pw_below_drewN | apply below_drew1) | exact HB.out)) hb); clear HO144; clear HB; have HO144 := n0_; have HB := n1_; clear n0_ n1_; (try clear hb); (try clear hb2); (try clear hk); (try clear hi)) | (go_at_call 23; (with_reducible refine (path_Within.calls (⟨#[97, 47, 98]⟩ : ByteArray) (⟨#[97]⟩ : ByteArray) false _ A25.out).mono ?_); rintro e w' ⟨rfl, ⟨nd, rfl⟩⟩))
                go_ret
                exact ⟨by first | rfl | (simp [errW_none, errW_some] <;> rfl) | (simp [*, errW_none, errW_some] <;> rfl), by repeat (first | (with_reducible first | exact HB.out | apply below_alloc | apply pw_below_drewN | apply below_drew1) | exact HB.out)⟩
          · replace c15 := Bool.eq_false_iff.mpr c15
            subst c15
            have H1 : (some false) = some r := by rw [if_neg (show ¬ (false = true) by decide)] at H; exact H
            clear H
            have H := H1
            clear H1
            obtain rfl := Option.some.inj H
            go_enter Try.func12, Try.ntmps12
            go_wp2_with (first | ((with_reducible refine gate_callee (f := 17) rfl ?_); refine goesL_ (some 6) rfl rfl Try.func17 (by kernel_rfl) rfl #[.string (⟨#[97, 47, 118, 50]⟩ : ByteArray)] rfl (by (try simp only [List.map_toArray, List.map_cons, List.map_nil]); first | done | rfl | (simp only [List.length_drop, List.length_take]; rfl)) ?_; (with_reducible refine (path_Major.calls k (⟨#[97, 47, 118, 50]⟩ : ByteArray) t140 t141 _ A1.out).mono ?_); rintro e w58 ⟨rfl, hb⟩; refine ⟨_, rfl, ?_⟩; have n0_ := Aside0.mk (below_step (by repeat (first | (with_reducible first | exact HB.out | apply below_alloc | apply pw_below_drewN | apply below_drew1) | exact HB.out)) hb); clear HB; have HB := n0_; clear n0_; (try clear hb); (try clear hb2); (try clear hk); (try clear hi)) | ((with_reducible refine gate_dst (N := 10) rfl ?_); refine Kd.R_lit Kd.string _ 9 ?hg (N := 10) ?hd (xs := ([(⟨#[97]⟩ : ByteArray), (⟨#[97, 47, 98]⟩ : ByteArray), (⟨#[97, 47, 118, 50]⟩ : ByteArray)] : List ByteArray)) (inner := [.string (⟨#[97]⟩ : ByteArray), .string (⟨#[97, 47, 98]⟩ : ByteArray), .string (⟨#[97, 47, 118, 50]⟩ : ByteArray)]) (ok := fun _ => True) (okp := fun _ => True) ?hr ?hp (fun _ hk => hk) trivial (Below.refl _ _) (Nat.le_refl _) (by simp) ?_; (case hd => rfl); (case hg => rfl); (case hr => first | (go_simp; done) | (go_simp; rfl)); (case hp => exact (Reps.one (show Kd.M Kd.string _ _ _ (⟨#[97]⟩ : ByteArray) [.string (⟨#[97]⟩ : ByteArray)] from rfl) (Reps.one (show Kd.M Kd.string _ _ _ (⟨#[97, 47, 98]⟩ : ByteArray) [.string (⟨#[97, 47, 98]⟩ : ByteArray)] from rfl) (Reps.one (show Kd.M Kd.string _ _ _ (⟨#[97, 47, 118, 50]⟩ : ByteArray) [.string (⟨#[97, 47, 118, 50]⟩ : ByteArray)] from rfl) (Reps.none _ _))))); intro v143 w59 ho60 hb hg_ hnew_; clear hg_ hnew_; (first | rw [← Ny142.out] at ho60 | (simp only [Int.reduceToNat] at ho60; rw [← Ny142.out] at ho60)); have n0_ := Aside0.mk (Kd.R_lower ho60 (below_size (by repeat (first | (with_reducible first | exact HB.out | apply below_alloc | apply pw_below_drewN | apply below_drew1) | exact HB.out)))); have n1_ := Aside0.mk (below_step (by repeat (first | (with_reducible first | exact HB.out | apply below_alloc | apply pw_below_drewN | apply below_drew1) | exact HB.out)) hb); clear HB; have HO144 := n0_; have HB := n1_; clear n0_ n1_; clear hb ho60; obtain ⟨Ao61, co61, eo61⟩ := Kd.R_slice HO144.out; subst eo61) | ((with_reducible refine gate_callee (f := 25) rfl ?_); refine goesL_ (some 12) rfl rfl Try.func25 (by kernel_rfl) rfl #[.slice Ao61 y142.length co61, .string (⟨#[97, 47, 98, 47, 99]⟩ : ByteArray), .agg #[.int .i64 1, .int .i64 0, .int .i64 0, .string (⟨#[]⟩ : ByteArray)]] rfl (by (try simp only [List.map_toArray, List.map_cons, List.map_nil]); first | done | rfl | (simp only [List.length_drop, List.length_take]; rfl)) ?_; (with_reducible refine (path_Find.calls k _ _ y142 (⟨#[97, 47, 98, 47, 99]⟩ : ByteArray) 1 0 0 (⟨#[]⟩ : ByteArray) t145 t146 _ ?side1 ?side2 A2.out).mono ?_); (case side1 => repeat (first | exact (Kd.R_reads' HO144.out).2.2 | (with_reducible refine Kd.C_alloc ?_ _) | (with_reducible refine Kd.C_drewN ?_ _) | (with_reducible refine Kd.C_drew ?_))); (case side2 => exact (Kd.R_reads' HO144.out).2.1); rintro e w62 ⟨rfl, hb⟩; refine ⟨_, rfl, ?_⟩; have n0_ := Aside0.mk (Kd.R_below (by (with_reducible repeat (first | apply Kd.R_alloc | apply Kd.R_drewN | apply Kd.R_drew)); exact HO144.out) hb); have n1_ := Aside0.mk (below_step (by repeat (first | (with_reducible first | exact HB.out | apply below_alloc | apply pw_below_drewN | apply below_drew1) | exact HB.out)) hb); clear HO144; clear HB; have HO144 := n0_; have HB := n1_; clear n0_ n1_; (try clear hb); (try clear hb2); (try clear hk); (try clear hi)) | (go_at_call 15; (with_reducible refine (path_Right.calls k (⟨#[97, 47, 98, 46, 99]⟩ : ByteArray) true _ A5.out).mono ?_); rintro e w' ⟨rfl, ⟨nd, rfl⟩⟩) | (go_at_call 15; (with_reducible refine (path_Right.calls k (⟨#[97, 47, 47, 98]⟩ : ByteArray) false _ A7.out).mono ?_); rintro e w' ⟨rfl, ⟨nd, rfl⟩⟩) | (go_at_call 21; (with_reducible refine (path_Fits.calls k (⟨#[97, 47, 118, 50]⟩ : ByteArray) 2 0 0 (⟨#[]⟩ : ByteArray) false _ A14.out).mono ?_); rintro e w63 ⟨rfl, hb⟩; have n0_ := Aside0.mk (Kd.R_below (by (with_reducible repeat (first | apply Kd.R_alloc | apply Kd.R_drewN | apply Kd.R_drew)); exact HO144.out) hb); have n1_ := Aside0.mk (below_step (by repeat (first | (with_reducible first | exact HB.out | apply below_alloc | apply pw_below_drewN | apply below_drew1) | exact HB.out)) hb); clear HO144; clear HB; have HO144 := n0_; have HB := n1_; clear n0_ n1_; (try clear hb); (try clear hb2); (try clear hk); (try clear hi)))
            go_ret
            exact ⟨by first | rfl | (simp [errW_none, errW_some] <;> rfl) | (simp [*, errW_none, errW_some] <;> rfl), by repeat (first | (with_reducible first | exact HB.out | apply below_alloc | apply pw_below_drewN | apply below_drew1) | exact HB.out)⟩
      · replace c6 := Bool.eq_false_iff.mpr c6
        subst c6
        have H1 : (some false) = some r := by rw [if_neg (show ¬ (false = true) by decide)] at H; exact H
        clear H
        have H := H1
        clear H1
        obtain rfl := Option.some.inj H
        go_enter Try.func12, Try.ntmps12
        go_wp2_with (first | ((with_reducible refine gate_callee (f := 17) rfl ?_); refine goesL_ (some 6) rfl rfl Try.func17 (by kernel_rfl) rfl #[.string (⟨#[97, 47, 118, 50]⟩ : ByteArray)] rfl (by (try simp only [List.map_toArray, List.map_cons, List.map_nil]); first | done | rfl | (simp only [List.length_drop, List.length_take]; rfl)) ?_; (with_reducible refine (path_Major.calls k (⟨#[97, 47, 118, 50]⟩ : ByteArray) t140 t141 _ A1.out).mono ?_); rintro e w64 ⟨rfl, hb⟩; refine ⟨_, rfl, ?_⟩; have n0_ := Aside0.mk (below_step (by repeat (first | (with_reducible first | exact HB.out | apply below_alloc | apply pw_below_drewN | apply below_drew1) | exact HB.out)) hb); clear HB; have HB := n0_; clear n0_; (try clear hb); (try clear hb2); (try clear hk); (try clear hi)) | ((with_reducible refine gate_dst (N := 10) rfl ?_); refine Kd.R_lit Kd.string _ 9 ?hg (N := 10) ?hd (xs := ([(⟨#[97]⟩ : ByteArray), (⟨#[97, 47, 98]⟩ : ByteArray), (⟨#[97, 47, 118, 50]⟩ : ByteArray)] : List ByteArray)) (inner := [.string (⟨#[97]⟩ : ByteArray), .string (⟨#[97, 47, 98]⟩ : ByteArray), .string (⟨#[97, 47, 118, 50]⟩ : ByteArray)]) (ok := fun _ => True) (okp := fun _ => True) ?hr ?hp (fun _ hk => hk) trivial (Below.refl _ _) (Nat.le_refl _) (by simp) ?_; (case hd => rfl); (case hg => rfl); (case hr => first | (go_simp; done) | (go_simp; rfl)); (case hp => exact (Reps.one (show Kd.M Kd.string _ _ _ (⟨#[97]⟩ : ByteArray) [.string (⟨#[97]⟩ : ByteArray)] from rfl) (Reps.one (show Kd.M Kd.string _ _ _ (⟨#[97, 47, 98]⟩ : ByteArray) [.string (⟨#[97, 47, 98]⟩ : ByteArray)] from rfl) (Reps.one (show Kd.M Kd.string _ _ _ (⟨#[97, 47, 118, 50]⟩ : ByteArray) [.string (⟨#[97, 47, 118, 50]⟩ : ByteArray)] from rfl) (Reps.none _ _))))); intro v143 w65 ho66 hb hg_ hnew_; clear hg_ hnew_; (first | rw [← Ny142.out] at ho66 | (simp only [Int.reduceToNat] at ho66; rw [← Ny142.out] at ho66)); have n0_ := Aside0.mk (Kd.R_lower ho66 (below_size (by repeat (first | (with_reducible first | exact HB.out | apply below_alloc | apply pw_below_drewN | apply below_drew1) | exact HB.out)))); have n1_ := Aside0.mk (below_step (by repeat (first | (with_reducible first | exact HB.out | apply below_alloc | apply pw_below_drewN | apply below_drew1) | exact HB.out)) hb); clear HB; have HO144 := n0_; have HB := n1_; clear n0_ n1_; clear hb ho66; obtain ⟨Ao67, co67, eo67⟩ := Kd.R_slice HO144.out; subst eo67) | ((with_reducible refine gate_callee (f := 25) rfl ?_); refine goesL_ (some 12) rfl rfl Try.func25 (by kernel_rfl) rfl #[.slice Ao67 y142.length co67, .string (⟨#[97, 47, 98, 47, 99]⟩ : ByteArray), .agg #[.int .i64 1, .int .i64 0, .int .i64 0, .string (⟨#[]⟩ : ByteArray)]] rfl (by (try simp only [List.map_toArray, List.map_cons, List.map_nil]); first | done | rfl | (simp only [List.length_drop, List.length_take]; rfl)) ?_; (with_reducible refine (path_Find.calls k _ _ y142 (⟨#[97, 47, 98, 47, 99]⟩ : ByteArray) 1 0 0 (⟨#[]⟩ : ByteArray) t145 t146 _ ?side1 ?side2 A2.out).mono ?_); (case side1 => repeat (first | exact (Kd.R_reads' HO144.out).2.2 | (with_reducible refine Kd.C_alloc ?_ _) | (with_reducible refine Kd.C_drewN ?_ _) | (with_reducible refine Kd.C_drew ?_))); (case side2 => exact (Kd.R_reads' HO144.out).2.1); rintro e w68 ⟨rfl, hb⟩; refine ⟨_, rfl, ?_⟩; have n0_ := Aside0.mk (Kd.R_below (by (with_reducible repeat (first | apply Kd.R_alloc | apply Kd.R_drewN | apply Kd.R_drew)); exact HO144.out) hb); have n1_ := Aside0.mk (below_step (by repeat (first | (with_reducible first | exact HB.out | apply below_alloc | apply pw_below_drewN | apply below_drew1) | exact HB.out)) hb); clear HO144; clear HB; have HO144 := n0_; have HB := n1_; clear n0_ n1_; (try clear hb); (try clear hb2); (try clear hk); (try clear hi)) | (go_at_call 15; (with_reducible refine (path_Right.calls k (⟨#[97, 47, 98, 46, 99]⟩ : ByteArray) false _ A5.out).mono ?_); rintro e w' ⟨rfl, ⟨nd, rfl⟩⟩))
        go_ret
        exact ⟨by first | rfl | (simp [errW_none, errW_some] <;> rfl) | (simp [*, errW_none, errW_some] <;> rfl), by repeat (first | (with_reducible first | exact HB.out | apply below_alloc | apply pw_below_drewN | apply below_drew1) | exact HB.out)⟩
    · rw [if_neg c4] at H
      have c4b0 : (t141 == 2) = false := beq_eq_false_iff_ne.mpr c4
      have c4b1 : (t141 != 2) = true := bne_iff_ne.mpr c4
      obtain rfl := Option.some.inj H
      go_enter Try.func12, Try.ntmps12
      go_wp2_with (first | ((with_reducible refine gate_callee (f := 17) rfl ?_); refine goesL_ (some 6) rfl rfl Try.func17 (by kernel_rfl) rfl #[.string (⟨#[97, 47, 118, 50]⟩ : ByteArray)] rfl (by (try simp only [List.map_toArray, List.map_cons, List.map_nil]); first | done | rfl | (simp only [List.length_drop, List.length_take]; rfl)) ?_; (with_reducible refine (path_Major.calls k (⟨#[97, 47, 118, 50]⟩ : ByteArray) t140 t141 _ A1.out).mono ?_); rintro e w69 ⟨rfl, hb⟩; refine ⟨_, rfl, ?_⟩; have n0_ := Aside0.mk (below_step (by repeat (first | (with_reducible first | exact HB.out | apply below_alloc | apply pw_below_drewN | apply below_drew1) | exact HB.out)) hb); clear HB; have HB := n0_; clear n0_; (try clear hb); (try clear hb2); (try clear hk); (try clear hi)) | ((with_reducible refine gate_dst (N := 10) rfl ?_); refine Kd.R_lit Kd.string _ 9 ?hg (N := 10) ?hd (xs := ([(⟨#[97]⟩ : ByteArray), (⟨#[97, 47, 98]⟩ : ByteArray), (⟨#[97, 47, 118, 50]⟩ : ByteArray)] : List ByteArray)) (inner := [.string (⟨#[97]⟩ : ByteArray), .string (⟨#[97, 47, 98]⟩ : ByteArray), .string (⟨#[97, 47, 118, 50]⟩ : ByteArray)]) (ok := fun _ => True) (okp := fun _ => True) ?hr ?hp (fun _ hk => hk) trivial (Below.refl _ _) (Nat.le_refl _) (by simp) ?_; (case hd => rfl); (case hg => rfl); (case hr => first | (go_simp; done) | (go_simp; rfl)); (case hp => exact (Reps.one (show Kd.M Kd.string _ _ _ (⟨#[97]⟩ : ByteArray) [.string (⟨#[97]⟩ : ByteArray)] from rfl) (Reps.one (show Kd.M Kd.string _ _ _ (⟨#[97, 47, 98]⟩ : ByteArray) [.string (⟨#[97, 47, 98]⟩ : ByteArray)] from rfl) (Reps.one (show Kd.M Kd.string _ _ _ (⟨#[97, 47, 118, 50]⟩ : ByteArray) [.string (⟨#[97, 47, 118, 50]⟩ : ByteArray)] from rfl) (Reps.none _ _))))); intro v143 w70 ho71 hb hg_ hnew_; clear hg_ hnew_; (first | rw [← Ny142.out] at ho71 | (simp only [Int.reduceToNat] at ho71; rw [← Ny142.out] at ho71)); have n0_ := Aside0.mk (Kd.R_lower ho71 (below_size (by repeat (first | (with_reducible first | exact HB.out | apply below_alloc | apply pw_below_drewN | apply below_drew1) | exact HB.out)))); have n1_ := Aside0.mk (below_step (by repeat (first | (with_reducible first | exact HB.out | apply below_alloc | apply pw_below_drewN | apply below_drew1) | exact HB.out)) hb); clear HB; have HO144 := n0_; have HB := n1_; clear n0_ n1_; clear hb ho71; obtain ⟨Ao72, co72, eo72⟩ := Kd.R_slice HO144.out; subst eo72) | ((with_reducible refine gate_callee (f := 25) rfl ?_); refine goesL_ (some 12) rfl rfl Try.func25 (by kernel_rfl) rfl #[.slice Ao72 y142.length co72, .string (⟨#[97, 47, 98, 47, 99]⟩ : ByteArray), .agg #[.int .i64 1, .int .i64 0, .int .i64 0, .string (⟨#[]⟩ : ByteArray)]] rfl (by (try simp only [List.map_toArray, List.map_cons, List.map_nil]); first | done | rfl | (simp only [List.length_drop, List.length_take]; rfl)) ?_; (with_reducible refine (path_Find.calls k _ _ y142 (⟨#[97, 47, 98, 47, 99]⟩ : ByteArray) 1 0 0 (⟨#[]⟩ : ByteArray) t145 t146 _ ?side1 ?side2 A2.out).mono ?_); (case side1 => repeat (first | exact (Kd.R_reads' HO144.out).2.2 | (with_reducible refine Kd.C_alloc ?_ _) | (with_reducible refine Kd.C_drewN ?_ _) | (with_reducible refine Kd.C_drew ?_))); (case side2 => exact (Kd.R_reads' HO144.out).2.1); rintro e w73 ⟨rfl, hb⟩; refine ⟨_, rfl, ?_⟩; have n0_ := Aside0.mk (Kd.R_below (by (with_reducible repeat (first | apply Kd.R_alloc | apply Kd.R_drewN | apply Kd.R_drew)); exact HO144.out) hb); have n1_ := Aside0.mk (below_step (by repeat (first | (with_reducible first | exact HB.out | apply below_alloc | apply pw_below_drewN | apply below_drew1) | exact HB.out)) hb); clear HO144; clear HB; have HO144 := n0_; have HB := n1_; clear n0_ n1_; (try clear hb); (try clear hb2); (try clear hk); (try clear hi)))
      go_ret
      exact ⟨by first | rfl | (simp [errW_none, errW_some] <;> rfl) | (simp [*, errW_none, errW_some] <;> rfl), by repeat (first | (with_reducible first | exact HB.out | apply below_alloc | apply pw_below_drewN | apply below_drew1) | exact HB.out)⟩
  · rw [if_neg c3] at H
    have c3b0 : (t140.toList == ([97] : List UInt8)) = false := beq_eq_false_iff_ne.mpr c3
    have c3b1 : (t140.toList != ([97] : List UInt8)) = true := bne_iff_ne.mpr c3
    obtain rfl := Option.some.inj H
    go_enter Try.func12, Try.ntmps12
    go_wp2_with (first | ((with_reducible refine gate_callee (f := 17) rfl ?_); refine goesL_ (some 6) rfl rfl Try.func17 (by kernel_rfl) rfl #[.string (⟨#[97, 47, 118, 50]⟩ : ByteArray)] rfl (by (try simp only [List.map_toArray, List.map_cons, List.map_nil]); first | done | rfl | (simp only [List.length_drop, List.length_take]; rfl)) ?_; (with_reducible refine (path_Major.calls k (⟨#[97, 47, 118, 50]⟩ : ByteArray) t140 t141 _ A1.out).mono ?_); rintro e w74 ⟨rfl, hb⟩; refine ⟨_, rfl, ?_⟩; have n0_ := Aside0.mk (below_step (by repeat (first | (with_reducible first | exact HB.out | apply below_alloc | apply pw_below_drewN | apply below_drew1) | exact HB.out)) hb); clear HB; have HB := n0_; clear n0_; (try clear hb); (try clear hb2); (try clear hk); (try clear hi)) | ((with_reducible refine gate_dst (N := 10) rfl ?_); refine Kd.R_lit Kd.string _ 9 ?hg (N := 10) ?hd (xs := ([(⟨#[97]⟩ : ByteArray), (⟨#[97, 47, 98]⟩ : ByteArray), (⟨#[97, 47, 118, 50]⟩ : ByteArray)] : List ByteArray)) (inner := [.string (⟨#[97]⟩ : ByteArray), .string (⟨#[97, 47, 98]⟩ : ByteArray), .string (⟨#[97, 47, 118, 50]⟩ : ByteArray)]) (ok := fun _ => True) (okp := fun _ => True) ?hr ?hp (fun _ hk => hk) trivial (Below.refl _ _) (Nat.le_refl _) (by simp) ?_; (case hd => rfl); (case hg => rfl); (case hr => first | (go_simp; done) | (go_simp; rfl)); (case hp => exact (Reps.one (show Kd.M Kd.string _ _ _ (⟨#[97]⟩ : ByteArray) [.string (⟨#[97]⟩ : ByteArray)] from rfl) (Reps.one (show Kd.M Kd.string _ _ _ (⟨#[97, 47, 98]⟩ : ByteArray) [.string (⟨#[97, 47, 98]⟩ : ByteArray)] from rfl) (Reps.one (show Kd.M Kd.string _ _ _ (⟨#[97, 47, 118, 50]⟩ : ByteArray) [.string (⟨#[97, 47, 118, 50]⟩ : ByteArray)] from rfl) (Reps.none _ _))))); intro v143 w75 ho76 hb hg_ hnew_; clear hg_ hnew_; (first | rw [← Ny142.out] at ho76 | (simp only [Int.reduceToNat] at ho76; rw [← Ny142.out] at ho76)); have n0_ := Aside0.mk (Kd.R_lower ho76 (below_size (by repeat (first | (with_reducible first | exact HB.out | apply below_alloc | apply pw_below_drewN | apply below_drew1) | exact HB.out)))); have n1_ := Aside0.mk (below_step (by repeat (first | (with_reducible first | exact HB.out | apply below_alloc | apply pw_below_drewN | apply below_drew1) | exact HB.out)) hb); clear HB; have HO144 := n0_; have HB := n1_; clear n0_ n1_; clear hb ho76; obtain ⟨Ao77, co77, eo77⟩ := Kd.R_slice HO144.out; subst eo77) | ((with_reducible refine gate_callee (f := 25) rfl ?_); refine goesL_ (some 12) rfl rfl Try.func25 (by kernel_rfl) rfl #[.slice Ao77 y142.length co77, .string (⟨#[97, 47, 98, 47, 99]⟩ : ByteArray), .agg #[.int .i64 1, .int .i64 0, .int .i64 0, .string (⟨#[]⟩ : ByteArray)]] rfl (by (try simp only [List.map_toArray, List.map_cons, List.map_nil]); first | done | rfl | (simp only [List.length_drop, List.length_take]; rfl)) ?_; (with_reducible refine (path_Find.calls k _ _ y142 (⟨#[97, 47, 98, 47, 99]⟩ : ByteArray) 1 0 0 (⟨#[]⟩ : ByteArray) t145 t146 _ ?side1 ?side2 A2.out).mono ?_); (case side1 => repeat (first | exact (Kd.R_reads' HO144.out).2.2 | (with_reducible refine Kd.C_alloc ?_ _) | (with_reducible refine Kd.C_drewN ?_ _) | (with_reducible refine Kd.C_drew ?_))); (case side2 => exact (Kd.R_reads' HO144.out).2.1); rintro e w78 ⟨rfl, hb⟩; refine ⟨_, rfl, ?_⟩; have n0_ := Aside0.mk (Kd.R_below (by (with_reducible repeat (first | apply Kd.R_alloc | apply Kd.R_drewN | apply Kd.R_drew)); exact HO144.out) hb); have n1_ := Aside0.mk (below_step (by repeat (first | (with_reducible first | exact HB.out | apply below_alloc | apply pw_below_drewN | apply below_drew1) | exact HB.out)) hb); clear HO144; clear HB; have HO144 := n0_; have HB := n1_; clear n0_ n1_; (try clear hb); (try clear hb2); (try clear hk); (try clear hi)))
    go_ret
    exact ⟨by first | rfl | (simp [errW_none, errW_some] <;> rfl) | (simp [*, errW_none, errW_some] <;> rfl), by repeat (first | (with_reducible first | exact HB.out | apply below_alloc | apply pw_below_drewN | apply below_drew1) | exact HB.out)⟩

/-! ### transhumancelaw4_within: function 14 -/
def transhumancelaw4_within.f (a0 : Int) (a1 : Int) : Option (Int) := if a1 = 0 then (none) else (if (Int.tmod a0 a1) < 0 then (some (wrap64 ((Int.tmod a0 a1) + a1))) else (some (Int.tmod a0 a1)))
set_option maxHeartbeats 8000000 in
set_option maxRecDepth 100000 in
theorem transhumancelaw4_within.calls (a0 : Int) (a1 : Int) (r : Int) (w : World) (h : transhumancelaw4_within.f a0 a1 = some r) :
    Calls Try.prog 14 #[.int .i64 a0, .int .i64 a1] w fun e w' => e = .returned (.int .i64 r) ∧ Drawn0 w w' := by
  have H : (if a1 = 0 then (none) else (if (Int.tmod a0 a1) < 0 then (some (wrap64 ((Int.tmod a0 a1) + a1))) else (some (Int.tmod a0 a1)))) = some r := h
  clear h
  by_cases c3 : a1 = 0
  · rw [if_pos c3] at H
    exact absurd H (by simp)
  · rw [if_neg c3] at H
    have c3b0 : (a1 == 0) = false := beq_eq_false_iff_ne.mpr c3
    have c3b1 : (a1 != 0) = true := bne_iff_ne.mpr c3
    by_cases c4 : (Int.tmod a0 a1) < 0
    · rw [if_pos c4] at H
      have c4b0 : decide ((Int.tmod a0 a1) < 0) = true := decide_eq_true c4
      clear c4
      obtain rfl := Option.some.inj H
      go_enter Try.func14, Try.ntmps14
      go_wp2
      go_ret
      exact ⟨by first | rfl | (simp; done) | (simp [*]; done), by repeat (first | exact Drawn0.refl _ | apply Drawn0.step)⟩
    · rw [if_neg c4] at H
      have c4b0 : decide ((Int.tmod a0 a1) < 0) = false := decide_eq_false c4
      clear c4
      obtain rfl := Option.some.inj H
      go_enter Try.func14, Try.ntmps14
      go_wp2
      go_ret
      exact ⟨by first | rfl | (simp; done) | (simp [*]; done), by repeat (first | exact Drawn0.refl _ | apply Drawn0.step)⟩

/-! ### transhumancelaw4_Make: function 13 -/
def transhumancelaw4_Make.l0 : Nat → Int → List ByteArray → ByteArray → Int → Option (ByteArray)
  | 0, _, _, _, _ => none
  | k + 1, x3, x4, x5, x6 => if x6 > 0 then (if x5.size + 1 ≤ 9223372036854775807 then (if 0 ≤ (Int.tmod (wrap64 (Int.tdiv x3 4)) 11) then (if (Int.tmod (wrap64 (Int.tdiv x3 4)) 11) < (x4.length : Int) then (if x5.size + 1 + (rdOf ByteArray.empty x4 (Int.tmod (wrap64 (Int.tdiv x3 4)) 11)).size ≤ 9223372036854775807 then (transhumancelaw4_Make.l0 k (wrap64 (Int.tdiv x3 4)) x4 ((x5 ++ (⟨#[47]⟩ : ByteArray)) ++ (rdOf ByteArray.empty x4 (Int.tmod (wrap64 (Int.tdiv x3 4)) 11))) (wrap64 (x6 - 1))) else (none)) else (none)) else (none)) else (none)) else (if (x5.size : Int) > 40 then (some (⟨#[97, 47, 98]⟩ : ByteArray)) else (some x5))
def transhumancelaw4_Make.f (k : Nat) (a0 : Int) : Option (ByteArray) := (transhumancelaw4_within.f a0 1099511627776).bind fun t153 => ((some (([(⟨#[97]⟩ : ByteArray), (⟨#[98]⟩ : ByteArray), (⟨#[97, 46, 98]⟩ : ByteArray), (⟨#[99, 45, 100]⟩ : ByteArray), (⟨#[118, 50]⟩ : ByteArray), (⟨#[118, 51]⟩ : ByteArray), (⟨#[118, 49]⟩ : ByteArray), (⟨#[118, 48, 50]⟩ : ByteArray), (⟨#[95]⟩ : ByteArray), (⟨#[108, 105, 98]⟩ : ByteArray), (⟨#[118, 50, 48]⟩ : ByteArray)] : List ByteArray) : List ByteArray)).bind fun y154 => (if 0 ≤ (Int.tmod t153 11) then (if (Int.tmod t153 11) < (y154.length : Int) then (transhumancelaw4_Make.l0 k (wrap64 (Int.tdiv t153 11)) y154 (rdOf ByteArray.empty y154 (Int.tmod t153 11)) (Int.tmod (wrap64 (Int.tdiv t153 11)) 4)) else (none)) else (none)))
theorem transhumancelaw4_Make.mono_l : ∀ k, (∀ y0 y1 y2 y3, LeO (transhumancelaw4_Make.l0 k y0 y1 y2 y3) (transhumancelaw4_Make.l0 (k + 1) y0 y1 y2 y3))
  | 0 => fun _ _ _ _ r h => by simp [transhumancelaw4_Make.l0] at h
  | k + 1 => by
    have ih0 := transhumancelaw4_Make.mono_l k
    · intro y0 y1 y2 y3
      unfold transhumancelaw4_Make.l0
      repeat' first
      | (with_reducible exact ih0 _ _ _ _)
      | (with_reducible exact LeO.refl _)
      | (with_reducible exact LeO.none _)
      | (with_reducible refine LeO.ite ?_ ?_)
      | (with_reducible refine LeO.bind ?_ (fun _ => ?_))
      | exact ih0 _ _ _ _
      | exact LeO.none _
      | refine LeO.ite ?_ ?_
      | refine LeO.bind ?_ (fun _ => ?_)
theorem transhumancelaw4_Make.mono : ∀ a0 k, LeO (transhumancelaw4_Make.f k a0) (transhumancelaw4_Make.f (k + 1) a0) := by
  intro a0 k
  have ih0 := transhumancelaw4_Make.mono_l k
  unfold transhumancelaw4_Make.f
  repeat' first
      | (with_reducible exact ih0 _ _ _ _)
      | (with_reducible exact LeO.refl _)
      | (with_reducible exact LeO.none _)
      | (with_reducible refine LeO.ite ?_ ?_)
      | (with_reducible refine LeO.bind ?_ (fun _ => ?_))
      | exact ih0 _ _ _ _
      | exact LeO.none _
      | refine LeO.ite ?_ ?_
      | refine LeO.bind ?_ (fun _ => ?_)
set_option maxHeartbeats 8000000 in
set_option maxRecDepth 100000 in
theorem transhumancelaw4_Make.calls (k : Nat) (a0 : Int) (r : ByteArray) (w : World) (h : transhumancelaw4_Make.f k a0 = some r) :
    Calls Try.prog 13 #[.int .i64 a0] w fun e w' => e = .returned (.string r) ∧ Below w.heap.size w w' := by
  have HB := Aside0.mk (Below.refl w.heap.size w)
  have H : ((transhumancelaw4_within.f a0 1099511627776).bind fun t153 => ((some (([(⟨#[97]⟩ : ByteArray), (⟨#[98]⟩ : ByteArray), (⟨#[97, 46, 98]⟩ : ByteArray), (⟨#[99, 45, 100]⟩ : ByteArray), (⟨#[118, 50]⟩ : ByteArray), (⟨#[118, 51]⟩ : ByteArray), (⟨#[118, 49]⟩ : ByteArray), (⟨#[118, 48, 50]⟩ : ByteArray), (⟨#[95]⟩ : ByteArray), (⟨#[108, 105, 98]⟩ : ByteArray), (⟨#[118, 50, 48]⟩ : ByteArray)] : List ByteArray) : List ByteArray)).bind fun y154 => (if 0 ≤ (Int.tmod t153 11) then (if (Int.tmod t153 11) < (y154.length : Int) then (transhumancelaw4_Make.l0 k (wrap64 (Int.tdiv t153 11)) y154 (rdOf ByteArray.empty y154 (Int.tmod t153 11)) (Int.tmod (wrap64 (Int.tdiv t153 11)) 4)) else (none)) else (none)))) = some r := h
  clear h
  replace H := Option.bind_eq_some_iff.mp H
  obtain ⟨t153, A20, H⟩ := H
  replace H : ((some (([(⟨#[97]⟩ : ByteArray), (⟨#[98]⟩ : ByteArray), (⟨#[97, 46, 98]⟩ : ByteArray), (⟨#[99, 45, 100]⟩ : ByteArray), (⟨#[118, 50]⟩ : ByteArray), (⟨#[118, 51]⟩ : ByteArray), (⟨#[118, 49]⟩ : ByteArray), (⟨#[118, 48, 50]⟩ : ByteArray), (⟨#[95]⟩ : ByteArray), (⟨#[108, 105, 98]⟩ : ByteArray), (⟨#[118, 50, 48]⟩ : ByteArray)] : List ByteArray) : List ByteArray)).bind fun y154 => (if 0 ≤ (Int.tmod t153 11) then (if (Int.tmod t153 11) < (y154.length : Int) then (transhumancelaw4_Make.l0 k (wrap64 (Int.tdiv t153 11)) y154 (rdOf ByteArray.empty y154 (Int.tmod t153 11)) (Int.tmod (wrap64 (Int.tdiv t153 11)) 4)) else (none)) else (none))) = some r := H
  have A2 := Aside0.mk A20
  clear A20
  obtain ⟨y154, hy154⟩ : ∃ y_ : List ByteArray, y_ = (([(⟨#[97]⟩ : ByteArray), (⟨#[98]⟩ : ByteArray), (⟨#[97, 46, 98]⟩ : ByteArray), (⟨#[99, 45, 100]⟩ : ByteArray), (⟨#[118, 50]⟩ : ByteArray), (⟨#[118, 51]⟩ : ByteArray), (⟨#[118, 49]⟩ : ByteArray), (⟨#[118, 48, 50]⟩ : ByteArray), (⟨#[95]⟩ : ByteArray), (⟨#[108, 105, 98]⟩ : ByteArray), (⟨#[118, 50, 48]⟩ : ByteArray)] : List ByteArray)) := ⟨_, rfl⟩
  replace H : (if 0 ≤ (Int.tmod t153 11) then (if (Int.tmod t153 11) < (y154.length : Int) then (transhumancelaw4_Make.l0 k (wrap64 (Int.tdiv t153 11)) y154 (rdOf ByteArray.empty y154 (Int.tmod t153 11)) (Int.tmod (wrap64 (Int.tdiv t153 11)) 4)) else (none)) else (none)) = some r := by first | (rw [hy154]; with_reducible exact H) | (have H2_ := (Option.bind_some _ _).symm.trans H; rw [hy154]; with_reducible exact H2_) | (have H2_ := (Option.bind_some _ _).symm.trans H; with_reducible exact H2_) | with_reducible exact H | (rw [hy154]; exact H) | exact H
  have Ny154 := Aside0.mk hy154
  clear hy154
  obtain ⟨ji3, hji3⟩ : ∃ j_ : Int, (Int.tmod t153 11) = j_ := ⟨_, rfl⟩
  replace H : (if 0 ≤ (ji3) then (if (ji3) < (y154.length : Int) then (transhumancelaw4_Make.l0 k (wrap64 (Int.tdiv t153 11)) y154 (rdOf ByteArray.empty y154 (ji3)) (Int.tmod (wrap64 (Int.tdiv t153 11)) 4)) else (none)) else (none)) = some r := by first | (rw [hji3] at H; exact H) | (simp only [hji3] at H ⊢; exact H)
  (try rw [hji3] at A2)
  by_cases c4 : 0 ≤ (ji3)
  · rw [if_pos c4] at H
    have c4b0 : decide (0 ≤ (ji3)) = true := decide_eq_true c4
    clear c4
    by_cases c5 : (ji3) < (y154.length : Int)
    · rw [if_pos c5] at H
      have c5b0 : decide ((ji3) < (y154.length : Int)) = true := decide_eq_true c5
      clear c5
      have H' := Aside0.mk H
      clear H
      go_enter Try.func13, Try.ntmps13
      go_wp2_with (first | ((with_reducible refine gate_callee (f := 14) rfl ?_); refine goesL_ (some 8) rfl rfl Try.func14 (by kernel_rfl) rfl #[.int .i64 a0, .int .i64 1099511627776] rfl (by (try simp only [List.map_toArray, List.map_cons, List.map_nil]); first | done | rfl | (simp only [List.length_drop, List.length_take]; rfl)) ?_; (with_reducible refine (transhumancelaw4_within.calls a0 1099511627776 t153 _ A2.out).mono ?_); rintro e w' ⟨rfl, ⟨nd, rfl⟩⟩; refine ⟨_, rfl, ?_⟩) | ((with_reducible refine gate_dst (N := 9) rfl ?_); refine Kd.R_lit Kd.string _ 9 ?hg (N := 9) ?hd (xs := ([(⟨#[97]⟩ : ByteArray), (⟨#[98]⟩ : ByteArray), (⟨#[97, 46, 98]⟩ : ByteArray), (⟨#[99, 45, 100]⟩ : ByteArray), (⟨#[118, 50]⟩ : ByteArray), (⟨#[118, 51]⟩ : ByteArray), (⟨#[118, 49]⟩ : ByteArray), (⟨#[118, 48, 50]⟩ : ByteArray), (⟨#[95]⟩ : ByteArray), (⟨#[108, 105, 98]⟩ : ByteArray), (⟨#[118, 50, 48]⟩ : ByteArray)] : List ByteArray)) (inner := [.string (⟨#[97]⟩ : ByteArray), .string (⟨#[98]⟩ : ByteArray), .string (⟨#[97, 46, 98]⟩ : ByteArray), .string (⟨#[99, 45, 100]⟩ : ByteArray), .string (⟨#[118, 50]⟩ : ByteArray), .string (⟨#[118, 51]⟩ : ByteArray), .string (⟨#[118, 49]⟩ : ByteArray), .string (⟨#[118, 48, 50]⟩ : ByteArray), .string (⟨#[95]⟩ : ByteArray), .string (⟨#[108, 105, 98]⟩ : ByteArray), .string (⟨#[118, 50, 48]⟩ : ByteArray)]) (ok := fun _ => True) (okp := fun _ => True) ?hr ?hp (fun _ hk => hk) trivial (Below.refl _ _) (Nat.le_refl _) (by simp) ?_; (case hd => rfl); (case hg => rfl); (case hr => first | (go_simp; done) | (go_simp; rfl)); (case hp => exact (Reps.one (show Kd.M Kd.string _ _ _ (⟨#[97]⟩ : ByteArray) [.string (⟨#[97]⟩ : ByteArray)] from rfl) (Reps.one (show Kd.M Kd.string _ _ _ (⟨#[98]⟩ : ByteArray) [.string (⟨#[98]⟩ : ByteArray)] from rfl) (Reps.one (show Kd.M Kd.string _ _ _ (⟨#[97, 46, 98]⟩ : ByteArray) [.string (⟨#[97, 46, 98]⟩ : ByteArray)] from rfl) (Reps.one (show Kd.M Kd.string _ _ _ (⟨#[99, 45, 100]⟩ : ByteArray) [.string (⟨#[99, 45, 100]⟩ : ByteArray)] from rfl) (Reps.one (show Kd.M Kd.string _ _ _ (⟨#[118, 50]⟩ : ByteArray) [.string (⟨#[118, 50]⟩ : ByteArray)] from rfl) (Reps.one (show Kd.M Kd.string _ _ _ (⟨#[118, 51]⟩ : ByteArray) [.string (⟨#[118, 51]⟩ : ByteArray)] from rfl) (Reps.one (show Kd.M Kd.string _ _ _ (⟨#[118, 49]⟩ : ByteArray) [.string (⟨#[118, 49]⟩ : ByteArray)] from rfl) (Reps.one (show Kd.M Kd.string _ _ _ (⟨#[118, 48, 50]⟩ : ByteArray) [.string (⟨#[118, 48, 50]⟩ : ByteArray)] from rfl) (Reps.one (show Kd.M Kd.string _ _ _ (⟨#[95]⟩ : ByteArray) [.string (⟨#[95]⟩ : ByteArray)] from rfl) (Reps.one (show Kd.M Kd.string _ _ _ (⟨#[108, 105, 98]⟩ : ByteArray) [.string (⟨#[108, 105, 98]⟩ : ByteArray)] from rfl) (Reps.one (show Kd.M Kd.string _ _ _ (⟨#[118, 50, 48]⟩ : ByteArray) [.string (⟨#[118, 50, 48]⟩ : ByteArray)] from rfl) (Reps.none _ _))))))))))))); intro v155 w6 ho7 hb hg_ hnew_; clear hg_ hnew_; (first | rw [← Ny154.out] at ho7 | (simp only [Int.reduceToNat] at ho7; rw [← Ny154.out] at ho7)); have n0_ := Aside0.mk (Kd.R_lower ho7 (below_size (by repeat (first | (with_reducible first | exact HB.out | apply below_alloc | apply pw_below_drewN | apply below_drew1) | exact HB.out)))); have n1_ := Aside0.mk (below_step (by repeat (first | (with_reducible first | exact HB.out | apply below_alloc | apply pw_below_drewN | apply below_drew1) | exact HB.out)) hb); clear HB; have HO156 := n0_; have HB := n1_; clear n0_ n1_; clear hb ho7; obtain ⟨Ao8, co8, eo8⟩ := Kd.R_slice HO156.out; subst eo8; have p157 : 0 ≤ ((ji3) : Int) := of_decide_eq_true (by first | (with_reducible assumption) | assumption); have q157 : (ji3) < (y154.length : Int) := of_decide_eq_true (by first | (with_reducible assumption) | assumption); obtain ⟨ad157, e157, hx157_0⟩ := Kd.at_string (Kd.R_reads' HO156.out).2.2 (ji3) p157 q157; cases e157; replace p157 := eq_true p157; replace q157 := eq_true q157))
      go_loopg [3, 5, 6] k (fun kq v3 v5 v6 w' => ∃ (x3_1 : Int) (x5_1 : ByteArray) (x6_1 : Int), v3 = .int .i64 x3_1 ∧ v5 = .string x5_1 ∧ v6 = .int .i64 x6_1 ∧ Aside0 (transhumancelaw4_Make.l0 kq x3_1 y154 x5_1 x6_1 = some r) ∧ Aside0 (kq ≤ k) ∧ Aside0 (Kd.R Kd.string 9 w' w.heap.size (fun _ => True) (.slice (some ad157) y154.length co8) y154) ∧ Aside0 (Below w.heap.size w w'))
      case atStart => exact ⟨(wrap64 (Int.tdiv t153 11)), (rdOf ByteArray.empty y154 (ji3)), (Int.tmod (wrap64 (Int.tdiv t153 11)) 4), (by first | rfl | (simp; done) | (simp [*]; done)), (by first | rfl | (simp; done) | (simp only [← hji3] <;> (first | rfl | simp)) | (simp [*]; done)), (by first | rfl | (simp; done) | (simp [*]; done)), H', ⟨Nat.le_refl _⟩, ⟨by (with_reducible repeat (first | apply Kd.R_alloc | apply Kd.R_drewN | apply Kd.R_drew)); exact HO156.out⟩, ⟨by repeat (first | (with_reducible first | exact HB.out | apply below_alloc | apply pw_below_drewN | apply below_drew1) | exact HB.out)⟩⟩
      case round =>
        clear H'
        try clear c1
        try clear p1
        try clear q1
        try clear hx1
        try clear p2
        try clear c4
        try clear c4b0
        try clear c5
        try clear c5b0
        try clear p6
        try clear hx157_0
        try clear p157
        try clear q157
        obtain ⟨x3_1, x5_1, x6_1, rfl, rfl, rfl, HA, HK1, HO_4, HB⟩ := hrel
        cases gk with
        | zero => exact absurd HA.out (by simp [transhumancelaw4_Make.l0])
        | succ k1 =>
          have H := HA.out
          clear HA
          simp only [transhumancelaw4_Make.l0] at H
          by_cases c9 : x6_1 > 0
          · rw [if_pos c9] at H
            have c9b0 : decide (0 < x6_1) = true := decide_eq_true c9
            clear c9
            by_cases c10 : x5_1.size + 1 ≤ 9223372036854775807
            · rw [if_pos c10] at H
              have c10b0 := eq_true c10
              have c10b1 : decide (x5_1.size + 1 ≤ 9223372036854775807) = true := decide_eq_true c10
              try have c10b2 : (9223372036854775807 < x5_1.size + 1) = False := eq_false (Nat.not_lt.2 c10)
              obtain ⟨ji11, hji11⟩ : ∃ j_ : Int, (Int.tmod (wrap64 (Int.tdiv x3_1 4)) 11) = j_ := ⟨_, rfl⟩
              replace H : (if 0 ≤ (ji11) then (if (ji11) < (y154.length : Int) then (if x5_1.size + 1 + (rdOf ByteArray.empty y154 (ji11)).size ≤ 9223372036854775807 then (transhumancelaw4_Make.l0 k1 (wrap64 (Int.tdiv x3_1 4)) y154 ((x5_1 ++ (⟨#[47]⟩ : ByteArray)) ++ (rdOf ByteArray.empty y154 (ji11))) (wrap64 (x6_1 - 1))) else (none)) else (none)) else (none)) = some r := by first | (rw [hji11] at H; exact H) | (simp only [hji11] at H ⊢; exact H)
              by_cases c12 : 0 ≤ (ji11)
              · rw [if_pos c12] at H
                have c12b0 : decide (0 ≤ (ji11)) = true := decide_eq_true c12
                clear c12
                by_cases c13 : (ji11) < (y154.length : Int)
                · rw [if_pos c13] at H
                  have c13b0 : decide ((ji11) < (y154.length : Int)) = true := decide_eq_true c13
                  clear c13
                  by_cases c14 : x5_1.size + 1 + (rdOf ByteArray.empty y154 (ji11)).size ≤ 9223372036854775807
                  · rw [if_pos c14] at H
                    have c14b0 := eq_true c14
                    have c14b1 : decide (x5_1.size + 1 + (rdOf ByteArray.empty y154 (ji11)).size ≤ 9223372036854775807) = true := decide_eq_true c14
                    try have c14b2 : (9223372036854775807 < x5_1.size + 1 + (rdOf ByteArray.empty y154 (ji11)).size) = False := eq_false (Nat.not_lt.2 c14)
                    have H' := Aside0.mk H
                    clear H
                    have p158 : 0 ≤ ((ji11) : Int) := of_decide_eq_true (by first | (with_reducible assumption) | assumption)
                    have q158 : (ji11) < (y154.length : Int) := of_decide_eq_true (by first | (with_reducible assumption) | assumption)
                    obtain ⟨ad158, e158, hx158_0⟩ := Kd.at_string (Kd.R_reads' HO_4.out).2.2 (ji11) p158 q158
                    obtain rfl : ad157 = ad158 := (by injection e158)
                    replace p158 := eq_true p158
                    replace q158 := eq_true q158
                    go_wp2
                    go_roundg k1
                    case measure => have := HK1.out; omega
                    case rel => exact ⟨(wrap64 (Int.tdiv x3_1 4)), ((x5_1 ++ (⟨#[47]⟩ : ByteArray)) ++ (rdOf ByteArray.empty y154 (ji11))), (wrap64 (x6_1 - 1)), (by first | rfl | (simp; done) | (simp [*]; done)), (by first | rfl | (simp; done) | (simp only [← hji11] <;> (first | rfl | simp)) | (simp [*]; done)), (by first | rfl | (simp; done) | (simp [*]; done)), H', ⟨by have := HK1.out; omega⟩, ⟨by (with_reducible repeat (first | apply Kd.R_alloc | apply Kd.R_drewN | apply Kd.R_drew)); exact HO_4.out⟩, ⟨by repeat (first | (with_reducible first | exact HB.out | apply below_alloc | apply pw_below_drewN | apply below_drew1) | exact HB.out)⟩⟩
                  · rw [if_neg c14] at H
                    exact absurd H (by simp)
                · rw [if_neg c13] at H
                  exact absurd H (by simp)
              · rw [if_neg c12] at H
                exact absurd H (by simp)
            · rw [if_neg c10] at H
              exact absurd H (by simp)
          · rw [if_neg c9] at H
            have c9b0 : decide (0 < x6_1) = false := decide_eq_false c9
            clear c9
            by_cases c15 : (x5_1.size : Int) > 40
            · rw [if_pos c15] at H
              have c15b0 : decide (40 < (x5_1.size : Int)) = true := decide_eq_true c15
              have c15b1 : decide (40 < x5_1.size) = true := decide_eq_true (by omega)
              clear c15
              obtain rfl := Option.some.inj H
              go_wp2
              go_ret
              exact ⟨by first | rfl | (simp [errW_none, errW_some] <;> rfl) | (simp only [← hji3]; first | rfl | (simp [errW_none, errW_some] <;> rfl)) | (simp [*, errW_none, errW_some] <;> rfl), by repeat (first | (with_reducible first | exact HB.out | apply below_alloc | apply pw_below_drewN | apply below_drew1) | exact HB.out)⟩
            · rw [if_neg c15] at H
              have c15b0 : decide (40 < (x5_1.size : Int)) = false := decide_eq_false c15
              have c15b1 : decide (40 < x5_1.size) = false := decide_eq_false (by omega)
              clear c15
              obtain rfl := Option.some.inj H
              go_wp2
              go_ret
              exact ⟨by first | rfl | (simp [errW_none, errW_some] <;> rfl) | (simp only [← hji3]; first | rfl | (simp [errW_none, errW_some] <;> rfl)) | (simp [*, errW_none, errW_some] <;> rfl), by repeat (first | (with_reducible first | exact HB.out | apply below_alloc | apply pw_below_drewN | apply below_drew1) | exact HB.out)⟩
    · rw [if_neg c5] at H
      exact absurd H (by simp)
  · rw [if_neg c4] at H
    exact absurd H (by simp)

/-! ### transhumanceref4_words: function 29 -/
mutual
def transhumanceref4_words.l0 : Nat → ByteArray → List ByteArray → Int → Int → Option (List ByteArray)
  | 0, _, _, _, _ => none
  | k + 1, x0, x3, x4, x5 => if x5 ≤ (x0.size : Int) then (if x5 = (x0.size : Int) then (transhumanceref4_words.j1 k x0 x3 x4 x5 true) else (if 0 ≤ x5 then (if x5 < (x0.size : Int) then (transhumanceref4_words.j1 k x0 x3 x4 x5 ((bt x0 x5) == 47)) else (none)) else (none))) else (some x3)
def transhumanceref4_words.j1 : Nat → ByteArray → List ByteArray → Int → Int → Bool → Option (List ByteArray)
  | 0, _, _, _, _, _ => none
  | k + 1, x0, x3, x4, x5, x21 => if x21 = true then (if 0 ≤ x4 then (if x4 ≤ x5 then (if x5 ≤ (x0.size : Int) then (if x3.length < 8796093022208 then (transhumanceref4_words.l0 k x0 (x3 ++ [x0.extract (x4 : Int).toNat (x5 : Int).toNat]) (wrap64 (x5 + 1)) (wrap64 (x5 + 1))) else (none)) else (none)) else (none)) else (none)) else (transhumanceref4_words.l0 k x0 x3 x4 (wrap64 (x5 + 1)))
end
def transhumanceref4_words.f (k : Nat) (a0 : ByteArray) : Option (List ByteArray) := transhumanceref4_words.l0 k a0 ([] : List ByteArray) 0 0
theorem transhumanceref4_words.mono_l : ∀ k, (∀ y0 y1 y2 y3, LeO (transhumanceref4_words.l0 k y0 y1 y2 y3) (transhumanceref4_words.l0 (k + 1) y0 y1 y2 y3)) ∧ (∀ y0 y1 y2 y3 y4, LeO (transhumanceref4_words.j1 k y0 y1 y2 y3 y4) (transhumanceref4_words.j1 (k + 1) y0 y1 y2 y3 y4))
  | 0 => ⟨fun _ _ _ _ r h => by simp [transhumanceref4_words.l0] at h, fun _ _ _ _ _ r h => by simp [transhumanceref4_words.j1] at h⟩
  | k + 1 => by
    obtain ⟨ih0, ih1⟩ := transhumanceref4_words.mono_l k
    refine ⟨?_, ?_⟩
    · intro y0 y1 y2 y3
      unfold transhumanceref4_words.l0
      repeat' first
      | (with_reducible exact ih0 _ _ _ _)
      | (with_reducible exact ih1 _ _ _ _ _)
      | (with_reducible exact LeO.refl _)
      | (with_reducible exact LeO.none _)
      | (with_reducible refine LeO.ite ?_ ?_)
      | (with_reducible refine LeO.bind ?_ (fun _ => ?_))
      | exact ih0 _ _ _ _
      | exact ih1 _ _ _ _ _
      | exact LeO.none _
      | refine LeO.ite ?_ ?_
      | refine LeO.bind ?_ (fun _ => ?_)
    · intro y0 y1 y2 y3 y4
      unfold transhumanceref4_words.j1
      repeat' first
      | (with_reducible exact ih0 _ _ _ _)
      | (with_reducible exact ih1 _ _ _ _ _)
      | (with_reducible exact LeO.refl _)
      | (with_reducible exact LeO.none _)
      | (with_reducible refine LeO.ite ?_ ?_)
      | (with_reducible refine LeO.bind ?_ (fun _ => ?_))
      | exact ih0 _ _ _ _
      | exact ih1 _ _ _ _ _
      | exact LeO.none _
      | refine LeO.ite ?_ ?_
      | refine LeO.bind ?_ (fun _ => ?_)
theorem transhumanceref4_words.mono : ∀ a0 k, LeO (transhumanceref4_words.f k a0) (transhumanceref4_words.f (k + 1) a0) := by
  intro a0 k
  obtain ⟨ih0, ih1⟩ := transhumanceref4_words.mono_l k
  unfold transhumanceref4_words.f
  repeat' first
      | (with_reducible exact ih0 _ _ _ _)
      | (with_reducible exact ih1 _ _ _ _ _)
      | (with_reducible exact LeO.refl _)
      | (with_reducible exact LeO.none _)
      | (with_reducible refine LeO.ite ?_ ?_)
      | (with_reducible refine LeO.bind ?_ (fun _ => ?_))
      | exact ih0 _ _ _ _
      | exact ih1 _ _ _ _ _
      | exact LeO.none _
      | refine LeO.ite ?_ ?_
      | refine LeO.bind ?_ (fun _ => ?_)
set_option maxHeartbeats 8000000 in
set_option maxRecDepth 100000 in
theorem transhumanceref4_words.calls (k : Nat) (a0 : ByteArray) (r : List ByteArray) (w : World) (h : transhumanceref4_words.f k a0 = some r) :
    Calls Try.prog 29 #[.string a0] w fun e w' => ∃ v0_ : Value, e = .returned (v0_) ∧ Kd.R Kd.string 9 w' w.heap.size (fun _ => True) v0_ r ∧ Below w.heap.size w w' := by
  have HB := Aside0.mk (Below.refl w.heap.size w)
  have H : (transhumanceref4_words.l0 k a0 ([] : List ByteArray) 0 0) = some r := h
  clear h
  have H' := Aside0.mk H
  clear H
  go_enter Try.func29, Try.ntmps29
  go_wp2
  go_loopg [3, 4, 5] k (fun kq v3 v4 v5 w' => ∃ (x3_1 : List ByteArray) (x4_1 : Int) (x5_1 : Int), v4 = .int .i64 x4_1 ∧ v5 = .int .i64 x5_1 ∧ Aside0 (transhumanceref4_words.l0 kq a0 x3_1 x4_1 x5_1 = some r) ∧ Aside0 (kq ≤ k) ∧ Aside0 (Kd.R Kd.string 9 w' w.heap.size (fun _ => True) v3 x3_1) ∧ Aside0 (Below w.heap.size w w'))
  case atStart => exact ⟨(([] : List ByteArray)), (0), (0), (by first | rfl | (simp; done) | (simp [*]; done)), (by first | rfl | (simp; done) | (simp [*]; done)), H', ⟨Nat.le_refl _⟩, ⟨by first | exact Kd.R_nil _ _ _ _ _ | exact Kd.N_nil _ _ _ _ _ | exact Kd.V_nil _ _ _ _ _ | exact Kd.Q_nil _ _ _ _ _ | exact Kd.S_nil _ _ _ _ _⟩, ⟨by repeat (first | (with_reducible first | exact HB.out | apply below_alloc | apply pw_below_drewN | apply below_drew1) | exact HB.out)⟩⟩
  case round =>
    clear H'
    obtain ⟨x3_1, x4_1, x5_1, rfl, rfl, HA, HK1, HO_3, HB⟩ := hrel
    cases gk with
    | zero => exact absurd HA.out (by simp [transhumanceref4_words.l0])
    | succ k1 =>
      have H := HA.out
      clear HA
      simp only [transhumanceref4_words.l0] at H
      by_cases c2 : x5_1 ≤ (a0.size : Int)
      · rw [if_pos c2] at H
        have c2b0 : decide (x5_1 ≤ (a0.size : Int)) = true := decide_eq_true c2
        clear c2
        have HC3 := Aside0.mk H
        clear H
        go_upto_region 6 with (fail)
        go_cut [21] (fun v21 wc => ∃ (kq : Nat) (x21_2 : Bool), v21 = .bool x21_2 ∧ Aside0 (transhumanceref4_words.j1 kq a0 x3_1 x4_1 x5_1 x21_2 = some r) ∧ Aside0 (kq ≤ k1) ∧ Aside0 (Kd.R Kd.string 9 wc w.heap.size (fun _ => True) u3 x3_1) ∧ Aside0 (Below w.heap.size w wc))
        case first =>
          have H := HC3.out
          clear HC3
          by_cases c4 : x5_1 = (a0.size : Int)
          · rw [if_pos c4] at H
            have c4b0 : (x5_1 == (a0.size : Int)) = true := beq_iff_eq.mpr c4
            have c4b1 : (x5_1 != (a0.size : Int)) = false := bne_eq_false_iff_eq.mpr c4
            clear c4
            (first | rw [c4b0] | (simp only [i64_w, i32_w]; rw [c4b0]) | skip)
            have H' := Aside0.mk H
            clear H
            go_wp2
            go_meet
            case rel => exact ⟨_, (true), (by first | rfl | (simp; done) | (simp [*]; done)), H', ⟨by have := HK1.out; first | omega | exact Nat.le_refl _⟩, ⟨by (with_reducible repeat (first | apply Kd.R_alloc | apply Kd.R_drewN | apply Kd.R_drew)); exact HO_3.out⟩, ⟨by repeat (first | (with_reducible first | exact HB.out | apply below_alloc | apply pw_below_drewN | apply below_drew1) | exact HB.out)⟩⟩
          · rw [if_neg c4] at H
            have c4b0 : (x5_1 == (a0.size : Int)) = false := beq_eq_false_iff_ne.mpr c4
            have c4b1 : (x5_1 != (a0.size : Int)) = true := bne_iff_ne.mpr c4
            (first | rw [c4b0] | (simp only [i64_w, i32_w]; rw [c4b0]) | skip)
            by_cases c5 : 0 ≤ x5_1
            · rw [if_pos c5] at H
              have c5b0 : decide (0 ≤ x5_1) = true := decide_eq_true c5
              clear c5
              by_cases c6 : x5_1 < (a0.size : Int)
              · rw [if_pos c6] at H
                have c6b0 : decide (x5_1 < (a0.size : Int)) = true := decide_eq_true c6
                clear c6
                have H' := Aside0.mk H
                clear H
                have p7 : 0 ≤ (x5_1 : Int) := of_decide_eq_true (by first | (with_reducible assumption) | assumption)
                have q7 : x5_1 < (a0.size : Int) := of_decide_eq_true (by first | (with_reducible assumption) | assumption)
                have hx7 := bt_at a0 x5_1
                replace p7 := eq_true p7
                replace q7 := eq_true q7
                go_wp2
                go_meet
                case rel => exact ⟨_, (((bt a0 x5_1) == 47)), (by first | rfl | (simp; done) | (simp [*]; done)), H', ⟨by have := HK1.out; first | omega | exact Nat.le_refl _⟩, ⟨by (with_reducible repeat (first | apply Kd.R_alloc | apply Kd.R_drewN | apply Kd.R_drew)); exact HO_3.out⟩, ⟨by repeat (first | (with_reducible first | exact HB.out | apply below_alloc | apply pw_below_drewN | apply below_drew1) | exact HB.out)⟩⟩
              · rw [if_neg c6] at H
                exact absurd H (by simp)
            · rw [if_neg c5] at H
              exact absurd H (by simp)
        case rest =>
          clear HC3
          try clear c2
          try clear c2b0
          try clear p2
          try clear c4
          try clear c4b0
          try clear c4b1
          try clear c5
          try clear c5b0
          try clear c6
          try clear c6b0
          try clear p7
          try clear q7
          try clear hx7
          try clear p7
          try clear q7
          obtain ⟨kq, x21_2, rfl, HA, HJ2, HO_3, HB⟩ := hcut
          cases kq with
          | zero => exact absurd HA.out (by simp [transhumanceref4_words.j1])
          | succ kj2 =>
            have H := HA.out
            clear HA
            simp only [transhumanceref4_words.j1] at H
            by_cases c8 : x21_2 = true
            · subst c8
              have H1 : (if 0 ≤ x4_1 then (if x4_1 ≤ x5_1 then (if x5_1 ≤ (a0.size : Int) then (if x3_1.length < 8796093022208 then (transhumanceref4_words.l0 kj2 a0 (x3_1 ++ [a0.extract (x4_1 : Int).toNat (x5_1 : Int).toNat]) (wrap64 (x5_1 + 1)) (wrap64 (x5_1 + 1))) else (none)) else (none)) else (none)) else (none)) = some r := by rw [if_pos rfl] at H; exact H
              clear H
              have H := H1
              clear H1
              by_cases c9 : 0 ≤ x4_1
              · rw [if_pos c9] at H
                have c9b0 := eq_true c9
                have c9b1 : decide (0 ≤ x4_1) = true := decide_eq_true c9
                clear c9
                by_cases c10 : x4_1 ≤ x5_1
                · rw [if_pos c10] at H
                  have c10b0 := eq_true c10
                  have c10b1 : decide (x4_1 ≤ x5_1) = true := decide_eq_true c10
                  clear c10
                  by_cases c11 : x5_1 ≤ (a0.size : Int)
                  · rw [if_pos c11] at H
                    have c11b0 := eq_true c11
                    have c11b1 : decide (x5_1 ≤ (a0.size : Int)) = true := decide_eq_true c11
                    clear c11
                    by_cases c12 : x3_1.length < 8796093022208
                    · rw [if_pos c12] at H
                      have LMc12 := Aside0.mk c12
                      clear c12
                      obtain ⟨y159, hy159⟩ : ∃ y_ : List ByteArray, y_ = (x3_1 ++ [a0.extract (x4_1 : Int).toNat (x5_1 : Int).toNat]) := ⟨_, rfl⟩
                      replace H : (transhumanceref4_words.l0 kj2 a0 y159 (wrap64 (x5_1 + 1)) (wrap64 (x5_1 + 1))) = some r := by first | (rw [hy159]; with_reducible exact H) | (have H2_ := (Option.bind_some _ _).symm.trans H; rw [hy159]; with_reducible exact H2_) | (have H2_ := (Option.bind_some _ _).symm.trans H; with_reducible exact H2_) | with_reducible exact H | (rw [hy159]; exact H) | exact H
                      have Ny159 := Aside0.mk hy159
                      clear hy159
                      have H' := Aside0.mk H
                      clear H
                      go_wp2_with (first | ((with_reducible refine gate_builtin (b := .append) (xs := #[.tmp 22, .tmp 27]) rfl ?_); at_builtin; refine Kd.R_append Kd.string (w0 := w) w.heap.size rfl (.tmp 22) (.tmp 27) 26 9 (.string ⟨#[]⟩) 16 rfl Try.underlying26 info9 rfl (by decide) (by omega) u3 x3_1 (a0.extract (x4_1 : Int).toNat (x5_1 : Int).toNat) [.string (a0.extract (x4_1 : Int).toNat (x5_1 : Int).toNat)] (fun _ => True) (fun _ => False) rfl rfl ?aP (fun _ hk => hk.elim) ?aF ?aO ?aB ?aS ?aL ?_; (case aP => exact rfl); (case aB => exact (by repeat (first | (with_reducible first | exact HB.out | apply below_alloc | apply pw_below_drewN | apply below_drew1) | exact HB.out))); (case aF => exact (fun _ _ => trivial)); (case aO => exact (by (with_reducible repeat (first | apply Kd.R_alloc | apply Kd.R_drewN | apply Kd.R_drew)); exact HO_3.out)); (case aS => exact (below_size (by repeat (first | (with_reducible first | exact HB.out | apply below_alloc | apply pw_below_drewN | apply below_drew1) | exact HB.out)))); (case aL => have := LMc12.out; omega); intro v160 w13 ho hb hg hat; rw [← Ny159.out] at ho; have n0_ := Aside0.mk (hb); have n1_ := Aside0.mk (ho); clear HB; clear HO_3; have HB := n0_; have HO161 := n1_; clear n0_ n1_; clear ho hb hg hat))
                      go_roundg kj2
                      case measure => have := HK1.out; have := HJ2.out; omega
                      case rel => exact ⟨(y159), (wrap64 (x5_1 + 1)), (wrap64 (x5_1 + 1)), (by first | rfl | (simp; done) | (simp [*]; done)), (by first | rfl | (simp; done) | (simp [*]; done)), H', ⟨by have := HK1.out; have := HJ2.out; omega⟩, ⟨by (with_reducible repeat (first | apply Kd.R_alloc | apply Kd.R_drewN | apply Kd.R_drew)); exact HO161.out⟩, ⟨by repeat (first | (with_reducible first | exact HB.out | apply below_alloc | apply pw_below_drewN | apply below_drew1) | exact HB.out)⟩⟩
                    · rw [if_neg c12] at H
                      exact absurd H (by simp)
                  · rw [if_neg c11] at H
                    exact absurd H (by simp)
                · rw [if_neg c10] at H
                  exact absurd H (by simp)
              · rw [if_neg c9] at H
                exact absurd H (by simp)
            · replace c8 := Bool.eq_false_iff.mpr c8
              subst c8
              have H1 : (transhumanceref4_words.l0 kj2 a0 x3_1 x4_1 (wrap64 (x5_1 + 1))) = some r := by rw [if_neg (show ¬ (false = true) by decide)] at H; exact H
              clear H
              have H := H1
              clear H1
              have H' := Aside0.mk H
              clear H
              go_wp2
              go_roundg kj2
              case measure => have := HK1.out; have := HJ2.out; omega
              case rel => exact ⟨(x3_1), (x4_1), (wrap64 (x5_1 + 1)), (by first | rfl | (simp; done) | (simp [*]; done)), (by first | rfl | (simp; done) | (simp [*]; done)), H', ⟨by have := HK1.out; have := HJ2.out; omega⟩, ⟨by (with_reducible repeat (first | apply Kd.R_alloc | apply Kd.R_drewN | apply Kd.R_drew)); exact HO_3.out⟩, ⟨by repeat (first | (with_reducible first | exact HB.out | apply below_alloc | apply pw_below_drewN | apply below_drew1) | exact HB.out)⟩⟩
      · rw [if_neg c2] at H
        have c2b0 : decide (x5_1 ≤ (a0.size : Int)) = false := decide_eq_false c2
        clear c2
        obtain rfl := Option.some.inj H
        go_wp2
        go_ret
        exact ⟨_, by first | rfl | (simp [errW_none, errW_some] <;> rfl) | (simp [*, errW_none, errW_some] <;> rfl), by (with_reducible repeat (first | apply Kd.R_alloc | apply Kd.R_drewN | apply Kd.R_drew)); exact HO_3.out, by repeat (first | (with_reducible first | exact HB.out | apply below_alloc | apply pw_below_drewN | apply below_drew1) | exact HB.out)⟩

end Go.Proofs.Ytelommablohfoaa.X
