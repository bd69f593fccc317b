/- A new cursor's block is new at the call: text.New's contract, told so. No condition. -/
import Derived.Test.YtkejnnnedgmhiaaDoorXx2
namespace Go.Proofs.YtkejnnnedgmhiaaDoor.X
open Go.RowKit Go.Proofs.YtkejnnnedgmhiaaDoorW.PrintWords Go.Proofs.YtkejnnnedgmhiaaDoorW.PrintLast Go.Proofs.YtkejnnnedgmhiaaDoorW.PrintMore
theorem text_New.callsN (a0 : ByteArray) (r1 : ByteArray) (r2 : Int) (w0 w : World) (hB : Below w0.heap.size w0 w) (h : text_New.f a0 = some (r1, r2)) :
    Calls Tryd.prog 18 #[.string a0] w fun e w' => ∃ g_ : Nat, e = .returned (.pointer (some ⟨g_, 0, none⟩)) ∧ IsS41 w0 w' g_ r1 r2 ∧ Below w0.heap.size w0 w' ∧ Below w.heap.size w w' ∧ w.heap.size ≤ g_ := by
  refine (text_New.calls a0 r1 r2 w w (Below.refl _ _) h).mono ?_
  rintro e w' ⟨g, rfl, hi, hb, hb2⟩
  exact ⟨g, rfl, ⟨hi.1, Nat.le_trans hB.size hi.2⟩, below_step hB hb, hb, hi.2⟩
end Go.Proofs.YtkejnnnedgmhiaaDoor.X
