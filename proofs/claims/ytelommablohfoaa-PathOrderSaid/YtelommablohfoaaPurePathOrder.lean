/- Of any made paths the statement PathOrder holds: the order of paths does not matter to what is found, nor that one is there twice. No condition beside the arguments' kinds and the lengths that the reading gives. -/
import Derived.Test.YtelommablohfoaaPaths5
import Derived.Test.YtelommablohfoaaXx17
namespace Go.Proofs.Ytelommablohfoaa.Pure
set_option linter.unusedVariables false
set_option linter.unusedSimpArgs false
open Go.RowKit Go.Proofs.Ytelommablohfoaa.X Go.Proofs.Ytelommablohfoaa.M Go.Proofs.YtelommablohfoaaW.PrintWords Go.Proofs.YtelommablohfoaaW.PrintLast

def AllR (ps : List (List UInt8)) : Prop := ∀ p ∈ ps, right p = true
theorem AllR.fine {ps : List (List UInt8)} (h : AllR ps) : ∀ p ∈ ps, Fine p := fun p hp => ⟨right_head (h p hp), by have := right_len (h p hp); omega⟩
theorem j3_ok (ps : List (List UInt8)) (hps : AllR ps) (hn : ps.length ≤ 12) (t : Nat) (ht : t ≤ ps.length) (r : List UInt8) (v x y : Int) (z : ByteArray) :
    Ev (fun k => transhumancelaw4_PathOrder.j3 k (ps.map B) t (B r) v x y z) true := by
  have hmem : ∀ p, p ∈ [] ++ ps.drop t ++ ps.take t ++ ps ↔ p ∈ ps := by
    intro p
    simp only [List.nil_append, List.mem_append]
    exact ⟨fun h => by
      rcases h with (h | h) | h
      · exact List.mem_of_mem_drop h
      · exact List.mem_of_mem_take h
      · exact h, .inr⟩
  have hu : findL r v ps none = findL r v ([] ++ ps.drop t ++ ps.take t ++ ps) none :=
    Best.unique (find_best r v ps) (find_best r v _) (fun p => by rw [hmem p])
  refine evShift ?_
  simp only [transhumancelaw4_PathOrder.j3, Int.toNat_natCast, List.length_map]
  refine Ev.bind (find_ev r v x y z ps hps.fine (by omega)) ?_
  refine evBind rfl (evP (by omega) (evP (by omega) (evBind rfl (evP (by simp; omega) (evBind rfl (evBind rfl (evP (by simp; omega) (evBind rfl (evP (by simp; omega) ?_)))))))))
  have e : [] ++ (ps.map B).drop t ++ (ps.map B).take t ++ ps.map B = ([] ++ ps.drop t ++ ps.take t ++ ps).map B := by simp [List.map_drop, List.map_take]
  rw [e]
  refine Ev.bind (find_ev r v x y z _ (fun p hp => hps.fine p ((hmem p).mp hp)) (by simp; omega)) ?_
  rw [← hu]
  exact evP rfl (evNow (by simp))
theorem end_ok (x0 : List Int) (n a c : Int) (ps : List (List UInt8)) (hps : AllR ps) (hn : ps.length ≤ 12) (i : Int) : Ev (fun k => transhumancelaw4_PathOrder.j1 k x0 n a c (ps.map B) i false) true := by
  obtain ⟨va, vb, vc, vp, hv⟩ := make2_ev a 0
  have hw1 : wrap64 ((ps.length : Int) + 1) = (ps.length : Int) + 1 := wrap64_id (by omega) (by omega)
  obtain ⟨t, ht⟩ : ∃ t : Nat, (t : Int) = c % ((ps.length : Int) + 1) := ⟨(c % ((ps.length : Int) + 1)).toNat, by have := Int.emod_nonneg c (show (ps.length : Int) + 1 ≠ 0 by omega); omega⟩
  have htl := Int.emod_lt_of_pos c (show 0 < (ps.length : Int) + 1 by omega)
  refine evShift ?_
  simp only [transhumancelaw4_PathOrder.j1, List.length_map, hw1]
  refine evN (by decide) (evBind (by rw [within_int c _ (by omega) (by omega), ← ht]) (Ev.bind hv (evBind (within_int a 4 (by omega) (by omega)) (Ev.bind (make_ev n) ?_))))
  have hj2 : ∀ x60 : Bool, (x60 = true → 0 < ps.length) → Ev (fun k => transhumancelaw4_PathOrder.j2 k n (ps.map B) t (B (mk n)) x60 (a % 4) vb vc vp) true := by
    intro x60 hx
    refine evShift ?_
    simp only [transhumancelaw4_PathOrder.j2, List.length_map]
    refine evIf (fun h => ?_) (fun h => j3_ok ps hps hn t (by omega) _ _ _ _ _)
    have hp := hx h
    obtain ⟨j, hj⟩ : ∃ j : Nat, (j : Int) = n % (ps.length : Int) := ⟨(n % (ps.length : Int)).toNat, by have := Int.emod_nonneg n (show (ps.length : Int) ≠ 0 by omega); omega⟩
    have hlt := Int.emod_lt_of_pos n (show 0 < (ps.length : Int) by omega)
    have hjl : j < ps.length := by omega
    have hr : right (ps.getD j []) = true := by
      refine hps _ ?_
      rw [List.getD_eq_getElem?_getD, List.getElem?_eq_getElem hjl]
      exact List.getElem_mem hjl
    have hrl := right_len hr
    have hz : (B (ps.getD j [])).size ≤ 40 := by rw [L_size, L_B]; exact hrl
    refine evBind (by rw [within_int n (ps.length : Int) (by omega) (by omega), ← hj]) (evP (by omega) (evP (by omega) ?_))
    simp only [rdOf_map ps j hjl]
    have e : B (ps.getD j []) ++ (⟨#[47, 120]⟩ : ByteArray) = B (ps.getD j [] ++ [47, 120]) := L_inj (by rw [L_append, L_B, L_B]; rfl)
    rw [e]
    exact evP (by omega) (j3_ok ps hps hn t (by omega) _ _ _ _ _)
  refine evIf (fun h => evBind (within_int n 3 (by omega) (by omega)) (hj2 _ (fun _ => by omega))) (fun h => hj2 _ (fun h2 => by cases h2))
theorem make_list (x0 : List Int) (n a c : Int) (d : Nat) : ∀ (i : Nat) (ps : List (List UInt8)), i + d = 12 → ps.length = i → AllR ps → Ev (fun k => transhumancelaw4_PathOrder.l0 k x0 n a c (ps.map B) i) true := by
  induction d with
  | zero =>
    intro i ps hi hl hps
    refine evShift ?_
    simp only [transhumancelaw4_PathOrder.l0]
    refine evIf (fun _ => ?_) (fun _ => end_ok x0 n a c ps hps (by omega) _)
    rw [show decide ((i : Int) < 12) = false from decide_eq_false (by omega)]
    exact end_ok x0 n a c ps hps (by omega) _
  | succ d ih =>
    intro i ps hi hl hps
    refine evShift ?_
    simp only [transhumancelaw4_PathOrder.l0]
    refine evIf (fun h => ?_) (fun _ => end_ok x0 n a c ps hps (by omega) _)
    rw [show decide ((i : Int) < 12) = true from decide_eq_true (by omega)]
    refine evShift ?_
    have hw : wrap64 ((i : Int) + 1) = ((i + 1 : Nat) : Int) := by rw [wrap64_id (by omega) (by omega)]; omega
    simp only [transhumancelaw4_PathOrder.j1, hw, List.length_map]
    refine evP trivial (evP (by omega) (evP h (Ev.bind (make_ev _) (evP (by omega) ?_))))
    have e : ps.map B ++ [B (mk (rd x0 i))] = (ps ++ [mk (rd x0 i)]).map B := by simp
    rw [e]
    refine ih (i + 1) _ (by omega) (by simp; omega) ?_
    intro p hp
    rw [List.mem_append, List.mem_singleton] at hp
    rcases hp with hp | rfl
    · exact hps p hp
    · exact mk_right _
theorem PathOrder : transhumancelaw4_PathOrder.Pure := by
  intro x0 n a c _ _ _ _ _ _
  refine Ev.rounds ?_
  unfold transhumancelaw4_PathOrder.f
  exact Ev.bind known_ev (evP rfl (make_list x0 n a c 12 0 [] (by omega) rfl (fun p hp => by cases hp)))
end Go.Proofs.Ytelommablohfoaa.Pure
