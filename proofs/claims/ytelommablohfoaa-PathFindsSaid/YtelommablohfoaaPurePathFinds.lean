/- Of any made paths and any made version the statement PathFinds holds: the path that is found is the document's, of the longest root. No condition beside the arguments' kinds and the lengths that the reading gives. -/
import Derived.Test.YtelommablohfoaaPaths5
import Derived.Test.YtelommablohfoaaXx14
namespace Go.Proofs.Ytelommablohfoaa.Pure
set_option linter.unusedVariables false
set_option linter.unusedSimpArgs false
open Go.RowKit Go.Proofs.Ytelommablohfoaa.X Go.Proofs.Ytelommablohfoaa.M Go.Proofs.YtelommablohfoaaW.PrintWords Go.Proofs.YtelommablohfoaaW.PrintLast

def AllR (ps : List (List UInt8)) : Prop := ∀ p ∈ ps, right p = true
theorem AllR.fine {ps : List (List UInt8)} (h : AllR ps) : ∀ p ∈ ps, Fine p := fun p hp => ⟨right_head (h p hp), by have := right_len (h p hp); omega⟩
theorem AllR.at {ps : List (List UInt8)} (h : AllR ps) {i : Nat} (hi : i < ps.length) : right (ps.getD i []) = true := by
  refine h _ ?_
  rw [List.getD_eq_getElem?_getD, List.getElem?_eq_getElem hi]
  exact List.getElem_mem hi
theorem oW_ok {ps : List (List UInt8)} (h : AllR ps) (r : List UInt8) (v : Int) : (oW (findL r v ps none)).size ≤ 40 ∧ (L (oW (findL r v ps none))).head? ≠ some 47 := by
  rcases find_best r v ps with ⟨h1, _⟩ | ⟨q, h1, h2, _⟩
  · rw [h1]; exact ⟨by decide, by decide⟩
  · rw [h1]
    have hq := h q h2.1
    exact ⟨by show (B q).size ≤ 40; rw [L_size, L_B]; exact right_len hq, by show (L (B q)).head? ≠ _; rw [L_B]; exact right_head hq⟩
theorem last_loop (ps : List (List UInt8)) (hps : AllR ps) (hn : ps.length ≤ 15) (r : List UInt8) (hr : r.length ≤ 1000) (v x y : Int) (z : ByteArray) (d : Nat) : ∀ (i : Nat) (there : Bool), i + d = ps.length → there = (ps.take i).any (fun p => p == L (oW (findL r v ps none))) →
    Ev (fun k => transhumancelaw4_PathFinds.l1 k (ps.map B) (B r) (oW (findL r v ps none)) (oT (findL r v ps none)) (B (major (L (oW (findL r v ps none)))).1) there i v x y z) true := by
  have hbest := find_best r v ps
  obtain ⟨hos, hoh⟩ := oW_ok hps r v
  generalize hO : findL r v ps none = o at *
  induction d with
  | zero =>
    intro i there hi ht
    refine evShift ?_
    simp only [transhumancelaw4_PathFinds.l1, List.length_map]
    refine evN (by omega) ?_
    rcases hbest with ⟨rfl, h1⟩ | ⟨q, rfl, h1, h2⟩
    · exact evN (by decide) (evP (by rw [L_toList]; rfl) (Ev.now _))
    · have hth : there = true := by
        rw [ht, List.take_of_length_le (by omega)]
        rw [List.any_eq_true]
        exact ⟨q, h1.1, by show (q == L (B q)) = true; rw [L_B]; simp⟩
      have hc := h1.2
      unfold cand at hc
      simp only [Bool.and_eq_true] at hc
      refine evP rfl (evP hth (evBind (within_ok _ _) ?_))
      have e : L (oW (some q)) = q := L_B q
      rw [L_B, L_B, e, hc.2]
      refine evP rfl (Ev.bind (fits_ev _ (by omega) hoh _ _ _ _) (evNow ?_))
      rw [e, hc.1]
  | succ d ih =>
    intro i there hi ht
    have hl : i < ps.length := by omega
    have hw : wrap64 ((i : Int) + 1) = ((i + 1 : Nat) : Int) := by rw [wrap64_id (by omega) (by omega)]; omega
    have hpr := hps.at hl
    have hmem : ps.getD i [] ∈ ps := by
      rw [List.getD_eq_getElem?_getD, List.getElem?_eq_getElem hl]
      exact List.getElem_mem hl
    have htake : ps.take (i + 1) = ps.take i ++ [ps.getD i []] := by
      rw [List.take_succ_eq_append_getElem hl, List.getD_eq_getElem?_getD, List.getElem?_eq_getElem hl]; rfl
    generalize hpg : ps.getD i [] = p at *
    have hpl := right_len hpr
    have hz : (B p).size = p.length := by rw [L_size, L_B]
    have hml := major_len p
    have hmz : (B (major p).1).size = (major p).1.length := by rw [L_size, L_B]
    have hj7 : ∀ there' : Bool, there' = (ps.take (i + 1)).any (fun p => p == L (oW o)) → Ev (fun k => transhumancelaw4_PathFinds.j7 k (ps.map B) (B r) (oW o) (oT o) (B (major (L (oW o))).1) there' i false v x y z) true := by
      intro there' h
      refine evShift ?_
      simp only [transhumancelaw4_PathFinds.j7, hw]
      exact evN (by decide) (ih (i + 1) there' (by omega) h)
    have hj6 : ∀ there' : Bool, there' = (ps.take (i + 1)).any (fun p => p == L (oW o)) → Ev (fun k => transhumancelaw4_PathFinds.j6 k (ps.map B) (B r) (oW o) (oT o) (B (major (L (oW o))).1) there' i (B (major p).1) v x y z) true := by
      intro there' h
      refine evShift ?_
      simp only [transhumancelaw4_PathFinds.j6, List.length_map, rdOf_map ps i hl, hpg]
      refine evBind (ref_within_ok _ _ (by omega)) ?_
      rw [L_B, L_B]
      refine evIf (fun hwi => ?_) (fun _ => hj7 _ h)
      refine evP (by omega) (evP (by omega) (Ev.bind (ref_fits_ev _ (by omega) _ _ _ _) ?_))
      rw [L_B]
      refine evIf (fun hfi => ?_) (fun _ => hj7 _ h)
      have hc : cand r v p = true := by unfold cand; rw [hfi, hwi]; rfl
      rcases hbest with ⟨rfl, h1⟩ | ⟨q, rfl, h1, h2⟩
      · exact absurd ⟨hmem, hc⟩ (h1 p)
      · refine evP rfl ?_
        have e : L (oW (some q)) = q := L_B q
        have hle : (major p).1.length ≤ (major q).1.length := by
          rcases h2 p ⟨hmem, hc⟩ with rfl | h3
          · exact Nat.le_refl _
          · unfold better at h3
            simp only [Bool.or_eq_true, decide_eq_true_eq, Bool.and_eq_true] at h3
            omega
        have hf : decide (((B (major p).1).size : Int) > ((B (major (L (oW (some q)))).1).size : Int)) = false := by
          rw [decide_eq_false_iff_not, hmz, L_size (B (major (L (oW (some q)))).1), L_B, e]
          omega
        rw [hf]
        exact hj7 _ h
    refine evShift ?_
    simp only [transhumancelaw4_PathFinds.l1, List.length_map, rdOf_map ps i hl, hpg]
    refine evP (by omega) (evP (by omega) (Ev.bind (ref_major_ev _ (by omega)) ?_))
    rw [L_B]
    refine evIf (fun h => hj6 _ ?_) (fun h => hj6 _ ?_)
    · rw [htake, List.any_append, ← ht, h]; rfl
    · rw [htake, List.any_append, ← ht, L_toList, L_toList, L_B, show there = false by simpa using h]
      simp
theorem j3_ok (ps : List (List UInt8)) (hps : AllR ps) (hn : ps.length ≤ 15) (r : List UInt8) (hr : r.length ≤ 1000) (v x y : Int) (z : ByteArray) :
    Ev (fun k => transhumancelaw4_PathFinds.j3 k (ps.map B) (B r) v x y z) true := by
  obtain ⟨hos, hoh⟩ := oW_ok hps r v
  refine evShift ?_
  simp only [transhumancelaw4_PathFinds.j3]
  refine Ev.bind (find_ev r v x y z ps hps.fine (by omega)) (Ev.bind (ref_find_ev r v x y z ps hps.fine (by omega)) (evP rfl (evShift ?_)))
  simp only [transhumancelaw4_PathFinds.j4, bne_self_eq_false]
  refine evN (by decide) (Ev.bind (ref_major_ev _ (by omega)) ?_)
  exact last_loop ps hps hn r hr v x y z ps.length 0 false (by omega) (by simp)
theorem end_ok (x0 : List Int) (n a b : Int) (ps : List (List UInt8)) (hps : AllR ps) (hn : ps.length ≤ 15) (i : Int) : Ev (fun k => transhumancelaw4_PathFinds.j1 k x0 n a b (ps.map B) i false) true := by
  obtain ⟨va, vb, vc, vp, hv⟩ := make2_ev a b
  refine evShift ?_
  simp only [transhumancelaw4_PathFinds.j1, List.length_map]
  refine evN (by decide) (Ev.bind hv (evBind (within_int a 4 (by omega) (by omega)) (Ev.bind (make_ev n) ?_)))
  have hj2 : ∀ x60 : Bool, (x60 = true → 0 < ps.length) → Ev (fun k => transhumancelaw4_PathFinds.j2 k n (ps.map B) (B (mk n)) x60 (a % 4) vb vc vp) true := by
    intro x60 hx
    refine evShift ?_
    simp only [transhumancelaw4_PathFinds.j2, List.length_map]
    refine evIf (fun h => ?_) (fun h => j3_ok ps hps hn _ (by have := right_len (mk_right n); omega) _ _ _ _)
    have hp := hx h
    obtain ⟨j, hj⟩ : ∃ j : Nat, (j : Int) = n % (ps.length : Int) := ⟨(n % (ps.length : Int)).toNat, by have := Int.emod_nonneg n (show (ps.length : Int) ≠ 0 by omega); omega⟩
    have hlt := Int.emod_lt_of_pos n (show 0 < (ps.length : Int) by omega)
    have hjl : j < ps.length := by omega
    refine evBind (by rw [within_int n (ps.length : Int) (by omega) (by omega), ← hj]) (evP (by omega) (evP (by omega) ?_))
    simp only [rdOf_map ps j hjl]
    have hr := hps.at hjl
    have hrl := right_len hr
    have hml := major_len (ps.getD j [])
    refine Ev.bind (ref_major_ev _ (by rw [L_size, L_B]; omega)) ?_
    rw [L_B]
    exact j3_ok ps hps hn _ (by omega) _ _ _ _
  refine evIf (fun h => evBind (within_int n 3 (by omega) (by omega)) (hj2 _ (fun _ => by omega))) (fun h => hj2 _ (fun h2 => by cases h2))
theorem make_list (x0 : List Int) (n a b : Int) (d : Nat) : ∀ (i : Nat) (ps : List (List UInt8)), i + d = 15 → ps.length = i → AllR ps → Ev (fun k => transhumancelaw4_PathFinds.l0 k x0 n a b (ps.map B) i) true := by
  induction d with
  | zero =>
    intro i ps hi hl hps
    refine evShift ?_
    simp only [transhumancelaw4_PathFinds.l0]
    refine evIf (fun _ => ?_) (fun _ => end_ok x0 n a b ps hps (by omega) _)
    rw [show decide ((i : Int) < 15) = false from decide_eq_false (by omega)]
    exact end_ok x0 n a b ps hps (by omega) _
  | succ d ih =>
    intro i ps hi hl hps
    refine evShift ?_
    simp only [transhumancelaw4_PathFinds.l0]
    refine evIf (fun h => ?_) (fun _ => end_ok x0 n a b ps hps (by omega) _)
    rw [show decide ((i : Int) < 15) = true from decide_eq_true (by omega)]
    refine evShift ?_
    have hw : wrap64 ((i : Int) + 1) = ((i + 1 : Nat) : Int) := by rw [wrap64_id (by omega) (by omega)]; omega
    simp only [transhumancelaw4_PathFinds.j1, hw, List.length_map]
    refine evP trivial (evP (by omega) (evP h (Ev.bind (make_ev _) (evP (by omega) ?_))))
    have e : ps.map B ++ [B (mk (rd x0 i))] = (ps ++ [mk (rd x0 i)]).map B := by simp
    rw [e]
    refine ih (i + 1) _ (by omega) (by simp; omega) ?_
    intro p hp
    rw [List.mem_append, List.mem_singleton] at hp
    rcases hp with hp | rfl
    · exact hps p hp
    · exact mk_right _
theorem PathFinds : transhumancelaw4_PathFinds.Pure := by
  intro x0 n a b _ _ _ _ _ _
  refine Ev.rounds ?_
  unfold transhumancelaw4_PathFinds.f
  exact Ev.bind known_ev (evP rfl (make_list x0 n a b 15 0 [] (by omega) rfl (fun p hp => by cases hp)))
end Go.Proofs.Ytelommablohfoaa.Pure
