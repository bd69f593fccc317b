/- Two cursors do not touch one another: the pure law of TextApart. No condition beside the arguments' kinds and the lengths that the reading gives. -/
import Derived.Test.YtkejnnnedgmhiaaDoorXa20
import Derived.Test.YtkejnnnedgmhiaaDoorTCur
namespace Go.Proofs.YtkejnnnedgmhiaaDoor.Pure
set_option linter.unusedVariables false
set_option linter.unusedSimpArgs false
open Go.RowKit Go.Proofs.YtkejnnnedgmhiaaDoorW.PrintWords Go.Proofs.YtkejnnnedgmhiaaDoor.X Go.Proofs.YtkejnnnedgmhiaaDoor.M
theorem apart_end (l1 : List Int) (s o : ByteArray) (i p q : Nat) (hq : q ≤ 3) : Ev (fun k => transhumancelaw1_TextApart.j1 k l1 (i : Int) false s (p : Int) o (q : Int) s (p : Int)) true := by
  refine evShift ?_
  simp only [transhumancelaw1_TextApart.j1]
  refine evN (by decide) (evBind rfl (evBind rfl (evP rfl (evBind rfl (evNow ?_)))))
  show decide ((q : Int) ≤ 3) = true
  exact decide_eq_true (by omega)
theorem apart_loop (l1 : List Int) (s o : ByteArray) (hs : s.size ≤ 1000) (ho : o.size = 3) (d : Nat) : ∀ (i p q : Nat), i + d = 20 → p ≤ s.size → q ≤ o.size → Ev (fun k => transhumancelaw1_TextApart.l0 k l1 (i : Int) s (p : Int) o (q : Int) s (p : Int)) true := by
  induction d with
  | zero =>
    intro i p q hi hp hq
    refine evShift ?_
    simp only [transhumancelaw1_TextApart.l0]
    rw [decide_eq_false (show ¬ (i : Int) < 20 by omega)]
    exact evIf (fun _ => apart_end l1 s o i p q (by omega)) (fun _ => apart_end l1 s o i p q (by omega))
  | succ d ih =>
    intro i p q hi hp hq
    refine evShift ?_
    simp only [transhumancelaw1_TextApart.l0]
    rw [decide_eq_true (show (i : Int) < 20 by omega)]
    refine evIf (fun h => evShift ?_) (fun _ => apart_end l1 s o i p q (by omega))
    have hw : wrap64 ((i : Int) + 1) = ((i + 1 : Nat) : Int) := by rw [wrap64_id (by omega) (by omega)]; omega
    have hsg : transhumancelaw1_signs.f = some (⟨#[10, 9, 32, 34, 92, 35, 47, 97, 98, 99, 110, 116, 58, 61, 45, 91, 93, 123, 125, 44, 46, 48, 49, 50, 51, 118, 120, 126, 94, 42, 124, 60, 62, 33, 95, 122, 121, 113]⟩ : ByteArray) := rfl
    have hz : (⟨#[10, 9, 32, 34, 92, 35, 47, 97, 98, 99, 110, 116, 58, 61, 45, 91, 93, 123, 125, 44, 46, 48, 49, 50, 51, 118, 120, 126, 94, 42, 124, 60, 62, 33, 95, 122, 121, 113]⟩ : ByteArray).size = 38 := rfl
    generalize (⟨#[10, 9, 32, 34, 92, 35, 47, 97, 98, 99, 110, 116, 58, 61, 45, 91, 93, 123, 125, 44, 46, 48, 49, 50, 51, 118, 120, 126, 94, 42, 124, 60, 62, 33, 95, 122, 121, 113]⟩ : ByteArray) = g at *
    obtain ⟨y, hy, y0, y1⟩ := twithin_ok (rd l1 (i : Int)) ((g.size : Int) + 1) (by omega) (by omega)
    have hgs := extract_size_le g 0 y.toNat (by omega)
    simp only [transhumancelaw1_TextApart.j1, hw]
    refine evP (by trivial) (evBind hsg (evP (by omega) (evP (by omega) (evBind hsg ?_))))
    rw [wrap64_id (show -9223372036854775808 ≤ (g.size : Int) + 1 by omega) (by omega)]
    refine evBind hy (evP y0 (evP (by omega) (Ev.bind (while_text o _ (by omega) q hq) (Ev.bind (while_text s _ (by omega) p hp) (Ev.bind (while_ref s _ (by omega) hgs p hp) ?_)))))
    simp only [whR]
    exact evP (by trivial) (ih (i + 1) _ _ (by omega) (wh_le _ s p hp) (wh_le _ o q hq))
theorem TextApart : transhumancelaw1_TextApart.Pure := by
  intro l0 l1 hmax hsz hwf hmax1 hsz1 hwf1
  have h : Ev (fun k => transhumancelaw1_TextApart.f k l0 l1) true := by
    unfold transhumancelaw1_TextApart.f
    refine Ev.bind known_ev (evP rfl (evIf (fun _ => Ev.now _) (fun hl => ?_)))
    obtain ⟨s, hE, z1, z2, hO⟩ := plain_ev l0 100 (by omega) (by omega)
    exact Ev.bind hE (evBind rfl (evBind rfl (evBind rfl (apart_loop l1 s _ (by omega) rfl 20 0 0 0 (by omega) (by omega) (by omega)))))
  exact h.rounds
end Go.Proofs.YtkejnnnedgmhiaaDoor.Pure
