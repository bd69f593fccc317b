/- Whatever a cursor is asked, in any order, is answered as the document says: the pure law of TextCursors. No condition beside the arguments' kinds and the lengths that the reading gives. -/
import Derived.Test.YtkejnnnedgmhiaaDoorXc9
import Derived.Test.YtkejnnnedgmhiaaDoorTCur
namespace Go.Proofs.YtkejnnnedgmhiaaDoor.Pure
set_option linter.unusedVariables false
set_option linter.unusedSimpArgs false
open Go.RowKit Go.Proofs.YtkejnnnedgmhiaaDoorW.PrintWords Go.Proofs.YtkejnnnedgmhiaaDoor.X Go.Proofs.YtkejnnnedgmhiaaDoor.M
theorem tmod_in (x n : Int) (hx : 0 ≤ x) (hn : 0 < n) : 0 ≤ Int.tmod x n ∧ Int.tmod x n < n := ⟨Int.tmod_nonneg n hx, Int.tmod_lt_of_pos x hn⟩
theorem cursors_next (s : ByteArray) (hs : s.size ≤ 1000) (l1 l2 : List Int) (i p : Nat) (hi : i ≤ 40) (hp : p ≤ s.size) (h : Ev (fun k => transhumancelaw1_TextCursors.l0 k l1 l2 s ((i + 1 : Nat) : Int) s (p : Int) s (p : Int)) true) :
    Ev (fun k => transhumancelaw1_TextCursors.j3 k l1 l2 s (i : Int) true s (p : Int) s (p : Int)) true := by
  have hw : wrap64 ((i : Int) + 1) = ((i + 1 : Nat) : Int) := by rw [wrap64_id (by omega) (by omega)]; omega
  have h1 : Ev (fun k => text_front_Place.f k s (p : Int)) (1 + cn s (clip s p), (clip s p : Int) - lst s (clip s p), s, (p : Int)) := by
    unfold text_front_Place.f
    exact Ev.bind (place_any s (by omega) p) (Ev.now _)
  have h2 : Ev (fun k => transhumanceref1_Cursor_Place.f k s (p : Int)) (1 + cn s (clip s p), (clip s p : Int) - lst s (clip s p), s, (p : Int)) := by
    unfold transhumanceref1_Cursor_Place.f
    exact Ev.bind (refplace_any s (by omega) p) (Ev.now _)
  refine evShift ?_
  simp only [transhumancelaw1_TextCursors.j3]
  refine evP (by trivial) (evBind rfl (evBind rfl (evP rfl (Ev.bind h1 (Ev.bind h2 ?_)))))
  simp only [beq_self_eq_true, Bool.not_true, Bool.or_self, Bool.false_eq_true, if_false, hw]
  exact h
theorem cursors_round (s : ByteArray) (hs : s.size ≤ 1000) (l1 l2 : List Int) (h2 : l2.length ≤ 20) (i p : Nat) (hi : i < 40) (hl : i < l1.length) (hp : p ≤ s.size) (h : ∀ q : Nat, q ≤ s.size → Ev (fun k => transhumancelaw1_TextCursors.l0 k l1 l2 s ((i + 1 : Nat) : Int) s (q : Int) s (q : Int)) true) :
    Ev (fun k => transhumancelaw1_TextCursors.j2 k l1 l2 s (i : Int) true s (p : Int) s (p : Int)) true := by
  have hN : ∀ q : Nat, q ≤ s.size → Ev (fun k => transhumancelaw1_TextCursors.j3 k l1 l2 s (i : Int) true s (q : Int) s (q : Int)) true := fun q hq => cursors_next s hs l1 l2 i q (by omega) hq (h q hq)
  obtain ⟨n, hn, n0, n1⟩ := twithin_ok (rd l1 (i : Int)) 1048576 (by omega) (by omega)
  refine evShift ?_
  simp only [transhumancelaw1_TextCursors.j2]
  refine evP (by trivial) (evP (by omega) (evP (by omega) (evBind hn (evIf (fun hc => ?_) (fun hc => evIf (fun hc2 => ?_) (fun hc2 => ?_))))))
  · obtain ⟨c, b, e1, e2⟩ := peek_both s p hp
    refine evBind e1 (evBind e2 (evP rfl ?_))
    simp only [beq_self_eq_true]
    exact hN p hp
  · clear hc hc2
    have hd4 : 0 ≤ Int.tdiv n 4 := Int.tdiv_nonneg n0 (by omega)
    have hd4' : Int.tdiv n 4 ≤ n := Int.tdiv_le_self _ n0
    have hw4 : wrap64 (Int.tdiv n 4) = Int.tdiv n 4 := wrap64_id (by omega) (by omega)
    have hm3 := tmod_in (Int.tdiv n 4) 3 hd4 (by omega)
    rw [hw4]
    generalize Int.tmod (Int.tdiv n 4) 3 = m at *
    rw [wrap64_id (show -9223372036854775808 ≤ (p : Int) + m by omega) (by omega)]
    have ha : mn (p : Int) (s.size : Int) = (p : Int) := by
      have e : mn (p : Int) (s.size : Int) = if (s.size : Int) < (p : Int) then (s.size : Int) else (p : Int) := rfl
      rw [e, if_neg (by omega)]
    have hb : mn ((p : Int) + m) (s.size : Int) = if (s.size : Int) < (p : Int) + m then (s.size : Int) else (p : Int) + m := rfl
    have hb1 : (p : Int) ≤ mn ((p : Int) + m) (s.size : Int) := by rw [hb]; split <;> omega
    have hb2 : mn ((p : Int) + m) (s.size : Int) ≤ (s.size : Int) := by rw [hb]; split <;> omega
    rw [ha]
    refine evP (by omega) (evP hb1 (evP hb2 (evIf (fun hc3 => ?_) (fun hc3 => ?_))))
    · clear hc3 hd4 hd4' hw4 hb
      have hw36 : wrap64 ((l2.length : Int) + 1) = (l2.length : Int) + 1 := wrap64_id (by omega) (by omega)
      rw [hw36]
      obtain ⟨y, hy, y0, y1⟩ := twithin_ok (wrap64 (Int.tdiv n 36)) ((l2.length : Int) + 1) (by omega) (by omega)
      have hz := strOfNums_size (l2.take y.toNat)
      rw [List.length_take] at hz
      refine evBind hy (evP y0 (evP (by omega) (evBind (take_text s _ p hp (by omega)) (evBind (take_ref s _ p hp (by omega) (by omega)) ?_))))
      simp only [tkR, beq_self_eq_true]
      exact hN _ (tk_le s _ p hp)
    · clear hc3 hd4 hd4' hw4 hb
      have hz := extract_size_le s (p : Int).toNat (mn ((p : Int) + m) (s.size : Int)).toNat (by omega)
      refine evBind (take_text s _ p hp (by omega)) (evBind (take_ref s _ p hp (by omega) hz) ?_)
      simp only [tkR, beq_self_eq_true]
      exact hN _ (tk_le s _ p hp)
  · clear hc hc2
    obtain ⟨t, hE, z1, z2, _⟩ := plain_ev l2 20 (by omega) (by omega)
    refine Ev.bind hE (evIf (fun hc3 => ?_) (fun hc3 => ?_))
    · clear hc3
      refine Ev.bind (while_text s _ (by omega) p hp) (Ev.bind (while_ref s _ (by omega) (by decide) p hp) ?_)
      simp only [whR, beq_self_eq_true]
      exact hN _ (wh_le _ s p hp)
    · clear hc3
      refine Ev.bind (while_text s _ (by omega) p hp) (Ev.bind (while_ref s _ (by omega) (by omega) p hp) ?_)
      simp only [whR, beq_self_eq_true]
      exact hN _ (wh_le _ s p hp)
theorem cursors_loop (s : ByteArray) (hs : s.size ≤ 1000) (l1 l2 : List Int) (h2 : l2.length ≤ 20) (d : Nat) : ∀ (i p : Nat), i + d = 40 → p ≤ s.size → Ev (fun k => transhumancelaw1_TextCursors.l0 k l1 l2 s (i : Int) s (p : Int) s (p : Int)) true := by
  have hend : ∀ (i p : Nat), Ev (fun k => transhumancelaw1_TextCursors.j2 k l1 l2 s (i : Int) false s (p : Int) s (p : Int)) true := by
    intro i p
    refine evShift ?_
    simp only [transhumancelaw1_TextCursors.j2]
    exact evN (by decide) (Ev.now _)
  induction d with
  | zero =>
    intro i p hi hp
    refine evShift ?_
    simp only [transhumancelaw1_TextCursors.l0]
    rw [decide_eq_false (show ¬ (i : Int) < 40 by omega)]
    exact evIf (fun _ => hend i p) (fun _ => hend i p)
  | succ d ih =>
    intro i p hi hp
    refine evShift ?_
    simp only [transhumancelaw1_TextCursors.l0]
    rw [decide_eq_true (show (i : Int) < 40 by omega)]
    exact evIf (fun h => cursors_round s hs l1 l2 h2 i p (by omega) (by omega) hp (fun q hq => ih (i + 1) q (by omega) hq)) (fun _ => hend i p)
theorem TextCursors : transhumancelaw1_TextCursors.Pure := by
  intro l0 l1 l2 hmax hsz hwf hmax1 hsz1 hwf1 hmax2 hsz2 hwf2
  have h : Ev (fun k => transhumancelaw1_TextCursors.f k l0 l1 l2) true := by
    unfold transhumancelaw1_TextCursors.f
    have hj1 : Ev (fun k => transhumancelaw1_TextCursors.j0 k l0 l1 l2 true) true := by
      refine evShift ?_
      simp only [transhumancelaw1_TextCursors.j0]
      exact evP (by trivial) (Ev.now _)
    refine Ev.bind known_ev (evP rfl (evIf (fun _ => hj1) (fun hl => ?_)))
    by_cases h20 : (l2.length : Int) > 20
    · rw [decide_eq_true h20]; exact hj1
    · rw [decide_eq_false h20]
      obtain ⟨s, hE, z1, z2, hO⟩ := plain_ev l0 200 (by omega) (by omega)
      refine evShift ?_
      simp only [transhumancelaw1_TextCursors.j0]
      exact evN (by decide) (Ev.bind hE (evBind rfl (evBind rfl (cursors_loop s (by omega) l1 l2 (by omega) 40 0 0 (by omega) (by omega)))))
  exact h.rounds
end Go.Proofs.YtkejnnnedgmhiaaDoor.Pure
