/- Of any text and any number the place is the document's: the pure law of TextPlaces. No condition beside the arguments' kinds and the lengths that the reading gives. -/
import Derived.Test.YtkejnnnedgmhiaaDoorXx7
import Derived.Test.YtkejnnnedgmhiaaDoorTText
namespace Go.Proofs.YtkejnnnedgmhiaaDoor.Pure
open Go.RowKit Go.Proofs.YtkejnnnedgmhiaaDoorW.PrintWords Go.Proofs.YtkejnnnedgmhiaaDoor.X Go.Proofs.YtkejnnnedgmhiaaDoor.M
theorem places_round (s : ByteArray) (hs : s.size ≤ 4611686018427387) (a b : Int) (l : List ByteArray) (i : Nat) (hi : i < 2) (hl : l.length = 2) (he : rdOf ByteArray.empty l (i : Int) = s) (h : Ev (fun k => transhumancelaw1_TextPlaces.l0 k a b l ((i + 1 : Nat) : Int)) true) :
    Ev (fun k => transhumancelaw1_TextPlaces.l0 k a b l (i : Int)) true := by
  refine evShift ?_
  simp only [transhumancelaw1_TextPlaces.l0, he]
  have hw : wrap64 ((i : Int) + 1) = ((i + 1 : Nat) : Int) := by rw [wrap64_id (by omega) (by omega)]; omega
  rw [hw, wrap64_id (show -9223372036854775808 ≤ ((s.size : Int) + 1) by omega) (by omega)]
  obtain ⟨y, hy, y0, y1⟩ := twithin_ok a ((s.size : Int) + 1) (by omega) (by omega)
  refine evP (by omega) (evP (by omega) (evP (by omega) (evBind hy (Ev.bind (place_any s hs y) (Ev.bind (refplace_any s hs y) ?_)))))
  simp only [beq_self_eq_true, Bool.not_true, Bool.or_self, Bool.false_eq_true, if_false]
  refine Ev.bind (place_any s hs b) (Ev.bind (refplace_any s hs b) ?_)
  simp only [beq_self_eq_true, Bool.not_true, Bool.or_self, Bool.false_eq_true, if_false]
  exact h
theorem TextPlaces : transhumancelaw1_TextPlaces.Pure := by
  intro l0 a b hmax hsz hwf h1 h2
  obtain ⟨s, hE, z1, z2, _⟩ := plain_ev l0 300 (by omega) (by omega)
  have h : Ev (fun k => transhumancelaw1_TextPlaces.f k l0 a b) true := by
    unfold transhumancelaw1_TextPlaces.f
    refine Ev.bind known_ev ?_
    refine evP rfl (evIf (fun _ => Ev.now _) (fun hl => Ev.bind hE ?_))
    have hz := strOfNums_size l0
    refine places_round (strOfNums l0) (by omega) a b _ 0 (by omega) rfl rfl ?_
    refine places_round s (by omega) a b _ 1 (by omega) rfl rfl ?_
    refine evShift ?_
    simp only [transhumancelaw1_TextPlaces.l0]
    exact evN (by omega) (Ev.now _)
  exact h.rounds
end Go.Proofs.YtkejnnnedgmhiaaDoor.Pure
