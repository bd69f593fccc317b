/- Any bytes are a number, or none, as the document says, and a number's digits are it: the pure law of TextNumbers. No condition beside the arguments' kinds and the lengths that the reading gives. -/
import Derived.Test.YtkejnnnedgmhiaaDoorXx10
import Derived.Test.YtkejnnnedgmhiaaDoorTText
import Derived.Test.YtkejnnnedgmhiaaDoorTNum
namespace Go.Proofs.YtkejnnnedgmhiaaDoor.Pure
set_option linter.unusedVariables false
set_option linter.unusedSimpArgs false
open Go.RowKit Go.Proofs.YtkejnnnedgmhiaaDoorW.PrintWords Go.Proofs.YtkejnnnedgmhiaaDoor.X Go.Proofs.YtkejnnnedgmhiaaDoor.M
theorem zero_ahead (n : Nat) : num (48 :: digN n) = (0, false) := by
  have h := digN_pos n
  unfold num
  rw [if_pos]
  refine .inr (.inr ⟨?_, rfl⟩)
  rw [List.length_cons]
  omega
theorem TextNumbers : transhumancelaw1_TextNumbers.Pure := by
  intro s a hsz h1
  have h : Ev (fun k => transhumancelaw1_TextNumbers.f k s a) true := by
    unfold transhumancelaw1_TextNumbers.f
    refine Ev.bind known_ev (evP rfl (evIf (fun _ => Ev.now _) (fun hl => ?_)))
    obtain ⟨y, hy, y0, y1⟩ := twithin_ok a 1000000000 (by omega) (by omega)
    obtain ⟨n, rfl⟩ : ∃ n : Nat, y = (n : Int) := ⟨y.toNat, by omega⟩
    have hd := digits_ev n (by omega)
    have hz : (B (digN n)).size = (digN n).length := by rw [L_size, L_B]
    have hlen := digN_len n
    have e1 : num (L (B (digN n))) = ((n : Int), true) := by rw [L_B]; exact num_digN n (by omega)
    have e2 : num (L ((⟨#[48]⟩ : ByteArray) ++ B (digN n))) = (0, false) := by
      rw [L_append, L_B]; exact zero_ahead n
    refine Ev.bind (text_num s) (Ev.bind (ref_num s) (evBind hy (Ev.bind hd (Ev.bind (text_num _) (Ev.bind hd (evP (by omega) (Ev.bind (text_num _) ?_)))))))
    rw [e1, e2]
    refine evP rfl (evP (beq_self_eq_true _) (evP rfl (evP rfl (Ev.now _))))
  exact h.rounds
end Go.Proofs.YtkejnnnedgmhiaaDoor.Pure
