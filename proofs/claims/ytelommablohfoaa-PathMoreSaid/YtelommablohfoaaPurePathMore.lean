/- Of any made paths the statement PathMore holds: a deeper path that is none of the root's changes nothing of what is found; the root's own path, that fits, is found. No condition beside the arguments' kinds and the lengths that the reading gives. -/
import Derived.Test.YtelommablohfoaaPaths5
import Derived.Test.YtelommablohfoaaXx18
namespace Go.Proofs.Ytelommablohfoaa.Pure
set_option linter.unusedVariables false
set_option linter.unusedSimpArgs false
open Go.RowKit Go.Proofs.Ytelommablohfoaa.X Go.Proofs.Ytelommablohfoaa.M Go.Proofs.YtelommablohfoaaW.PrintWords Go.Proofs.YtelommablohfoaaW.PrintLast

def AllR (ps : List (List UInt8)) : Prop := ∀ p ∈ ps, right p = true
theorem AllR.fine {ps : List (List UInt8)} (h : AllR ps) : ∀ p ∈ ps, Fine p := fun p hp => ⟨right_head (h p hp), by have := right_len (h p hp); omega⟩
theorem findL_snoc (r : List UInt8) (v : Int) (l : List (List UInt8)) (x : List UInt8) (b : Option (List UInt8)) : findL r v (l ++ [x]) b = upd r v (findL r v l b) x := by
  unfold findL
  rw [List.foldl_append]
  rfl
theorem within_le {s r : List UInt8} (h : within s r = true) : r.length ≤ s.length ∧ (r.length = s.length → s = r) := by
  unfold within at h
  simp only [Bool.or_eq_true, beq_iff_eq, Bool.and_eq_true, decide_eq_true_eq] at h
  rcases h with rfl | ⟨h, _⟩
  · exact ⟨Nat.le_refl _, fun _ => rfl⟩
  · exact ⟨by omega, fun e => by omega⟩
theorem major_xy (r : List UInt8) : major (r ++ [120, 47, 121]) = (r ++ [120, 47, 121], 0) := by
  have e : r ++ [120, 47, 121] = (r ++ [120]) ++ 47 :: [121] := by simp
  rw [e, major_some (by decide)]
  rw [if_neg (by simp)]
theorem cand_xy (r : List UInt8) (v : Int) : cand r v (r ++ [120, 47, 121]) = false := by
  unfold cand
  rw [major_xy]
  have : within r (r ++ [120, 47, 121]) = false := by
    cases h : within r (r ++ [120, 47, 121]) with
    | false => rfl
    | true =>
      have := (within_le h).1
      simp only [List.length_append, List.length_cons, List.length_nil] at this
      omega
  rw [this, Bool.and_false]
theorem found_root (r : List UInt8) (v : Int) (hv : v = 0 ∨ v = 1) (ps : List (List UInt8)) (hm : (major r).2 = 0) : findL r v (ps ++ [r]) none = some r := by
  have hr1 := major_zero hm
  have hfit : fits 0 v = true := by
    unfold fits
    rcases hv with rfl | rfl <;> rfl
  have hc : cand r v r = true := by
    unfold cand
    rw [hm, hr1, hfit]
    simp [within]
  rcases find_best r v (ps ++ [r]) with ⟨_, h2⟩ | ⟨q, h1, h2, h3⟩
  · exact absurd ⟨by simp, hc⟩ (h2 r)
  · rw [h1]
    have hcq := h2.2
    unfold cand at hcq
    simp only [Bool.and_eq_true] at hcq
    have hq0 : (major q).2 = 0 := by
      rcases major_two q with h | h
      · exact h
      · have h5 := hcq.1
        unfold fits at h5
        simp only [Bool.or_eq_true, beq_iff_eq, Bool.and_eq_true] at h5
        omega
    have hq1 := major_zero hq0
    rw [hq1] at hcq
    rcases h3 r ⟨by simp, hc⟩ with rfl | h4
    · rfl
    · have hle := within_le hcq.2
      unfold better at h4
      rw [hq1, hr1] at h4
      simp only [Bool.or_eq_true, decide_eq_true_eq, Bool.and_eq_true] at h4
      rw [hle.2 (by omega)]
theorem j3_ok (r : List UInt8) (hr : right r = true) (v : Int) (hv : v = 0 ∨ v = 1) (ps : List (List UInt8)) :
    Ev (fun k => transhumancelaw4_PathMore.j3 k (B r) (B (major r).1) (major r).2 (oW (findL r v (ps ++ [r]) none)) (oT (findL r v (ps ++ [r]) none))) true := by
  refine evShift ?_
  simp only [transhumancelaw4_PathMore.j3, L_toList, L_B]
  refine evIf (fun h => evN ?_ (Ev.now _)) (fun h => ?_)
  · intro e
    have h2 := (major_back h).1
    rw [e] at h2
    have := congrArg List.length h2
    simp at this
  · have h0 : (major r).2 = 0 := by
      rcases major_two r with h1 | h1
      · exact h1
      · omega
    rw [found_root r v hv ps h0]
    exact evP rfl (evP (L_B r) (Ev.now _))
theorem j2_ok (r : List UInt8) (hr : right r = true) (v : Int) (hv : v = 0 ∨ v = 1) (ps : List (List UInt8)) (hps : AllR ps) (hn : ps.length ≤ 10) (z : ByteArray) :
    Ev (fun k => transhumancelaw4_PathMore.j2 k (ps.map B) (B r) (B (major r).1) (major r).2 false v 0 0 z) true := by
  refine evShift ?_
  simp only [transhumancelaw4_PathMore.j2]
  refine evN (by decide) (evBind rfl (evP (by simp; omega) (evBind rfl (evBind rfl (evP (by simp; omega) ?_)))))
  have e : [] ++ ps.map B ++ [B r] = (ps ++ [r]).map B := by simp
  rw [e]
  refine Ev.bind (find_ev r v 0 0 z _ (AllR.fine (ps := ps ++ [r]) (fun p hp => ?_)) (by simp; omega)) (j3_ok r hr v hv ps)
  rw [List.mem_append, List.mem_singleton] at hp
  rcases hp with hp | rfl
  · exact hps p hp
  · exact hr
theorem end_ok (x0 : List Int) (n a : Int) (ps : List (List UInt8)) (hps : AllR ps) (hn : ps.length ≤ 10) (i : Int) : Ev (fun k => transhumancelaw4_PathMore.j1 k x0 n a (ps.map B) i false) true := by
  have hr := mk_right n
  have hrl := right_len hr
  have hz := mk_size n
  refine evShift ?_
  simp only [transhumancelaw4_PathMore.j1]
  refine evN (by decide) (evBind (within_int a 2 (by omega) (by omega)) (Ev.bind (make_ev n) ?_))
  refine evIf (fun _ => Ev.now _) (fun hlt => ?_)
  have hv : a % 2 = 0 ∨ a % 2 = 1 := by omega
  refine Ev.bind (ref_major_ev _ (by omega)) (Ev.bind (find_ev _ _ 0 0 _ ps hps.fine (by omega)) ?_)
  refine evBind rfl (evP (by simp; omega) (evBind rfl (evP (by omega) (evBind rfl (evP (by simp; omega) ?_)))))
  have e : [] ++ ps.map B ++ [B (mk n) ++ (⟨#[120, 47, 121]⟩ : ByteArray)] = (ps ++ [mk n ++ [120, 47, 121]]).map B := by
    have : B (mk n) ++ (⟨#[120, 47, 121]⟩ : ByteArray) = B (mk n ++ [120, 47, 121]) := L_inj (by rw [L_append, L_B, L_B]; rfl)
    rw [this]
    simp
  rw [e]
  refine Ev.bind (find_ev _ _ 0 0 _ (ps ++ [mk n ++ [120, 47, 121]]) (fun p hp => ?_) (by simp; omega)) ?_
  · rw [List.mem_append, List.mem_singleton] at hp
    rcases hp with hp | rfl
    · exact hps.fine p hp
    · refine ⟨?_, by simp; omega⟩
      have h1 := right_head hr
      have h2 := right_ne hr
      rcases h : mk n with _ | ⟨c, d⟩
      · exact absurd h h2
      · rw [h] at h1; simpa using h1
  · rw [findL_snoc]
    have e2 : ∀ o, upd (mk n) (a % 2) o (mk n ++ [120, 47, 121]) = o := by
      intro o
      unfold upd
      rw [if_neg (by rw [cand_xy]; decide)]
    rw [e2, L_B]
    refine evP rfl ?_
    simp only [bne_self_eq_false]
    exact j2_ok (mk n) hr _ hv ps hps hn _
theorem make_list (x0 : List Int) (n a : Int) (d : Nat) : ∀ (i : Nat) (ps : List (List UInt8)), i + d = 10 → ps.length = i → AllR ps → Ev (fun k => transhumancelaw4_PathMore.l0 k x0 n a (ps.map B) i) true := by
  induction d with
  | zero =>
    intro i ps hi hl hps
    refine evShift ?_
    simp only [transhumancelaw4_PathMore.l0]
    refine evIf (fun _ => ?_) (fun _ => end_ok x0 n a ps hps (by omega) _)
    rw [show decide ((i : Int) < 10) = false from decide_eq_false (by omega)]
    exact end_ok x0 n a ps hps (by omega) _
  | succ d ih =>
    intro i ps hi hl hps
    refine evShift ?_
    simp only [transhumancelaw4_PathMore.l0]
    refine evIf (fun h => ?_) (fun _ => end_ok x0 n a ps hps (by omega) _)
    rw [show decide ((i : Int) < 10) = true from decide_eq_true (by omega)]
    refine evShift ?_
    have hw : wrap64 ((i : Int) + 1) = ((i + 1 : Nat) : Int) := by rw [wrap64_id (by omega) (by omega)]; omega
    simp only [transhumancelaw4_PathMore.j1, hw, List.length_map]
    refine evP trivial (evP (by omega) (evP h (Ev.bind (make_ev _) (evBind rfl (evP (by simp; omega) ?_)))))
    have e : ps.map B ++ [B (mk (rd x0 i))] = (ps ++ [mk (rd x0 i)]).map B := by simp
    rw [e]
    refine ih (i + 1) _ (by omega) (by simp; omega) ?_
    intro p hp
    rw [List.mem_append, List.mem_singleton] at hp
    rcases hp with hp | rfl
    · exact hps p hp
    · exact mk_right _
theorem PathMore : transhumancelaw4_PathMore.Pure := by
  intro x0 n a _ _ _ _ _
  refine Ev.rounds ?_
  unfold transhumancelaw4_PathMore.f
  exact Ev.bind known_ev (evP rfl (make_list x0 n a 10 0 [] (by omega) rfl (fun p hp => by cases hp)))
end Go.Proofs.Ytelommablohfoaa.Pure
