/- That the chapter's example answers true: known, and Sorted at its three texts. No condition. -/
import Derived.Test.YtkejnnnedgmhiaaDoorXx5
import Derived.KernelRfl
import Derived.Test.YtkejnnnedgmhiaaDoorBytes
namespace Go.Proofs.YtkejnnnedgmhiaaDoor.X
open Go.RowKit Go.Proofs.YtkejnnnedgmhiaaDoorW.PrintWords
theorem sorted_val : text_Sorted.f ([(⟨#[98]⟩ : ByteArray), (⟨#[97]⟩ : ByteArray), (⟨#[98]⟩ : ByteArray)] : List ByteArray) = some [⟨#[97]⟩, ⟨#[98]⟩] := by
  have e : (([[98], [97], [98]] : List (List UInt8)).mergeSort fun x y => decide (x ≤ y)) = [[97], [98], [98]] := by
    simp [List.mergeSort, List.MergeSort.Internal.splitInTwo, List.merge]
    rw [if_neg (by decide)]
    simp [List.merge]
    try decide
  unfold text_Sorted.f text_Sorted.srt
  simp only [List.map_cons, List.map_nil]
  rw [if_pos (by decide)]
  rw [show (([(#[98] : Array UInt8).toList, (#[97] : Array UInt8).toList, (#[98] : Array UInt8).toList] : List (List UInt8))) = [[98], [97], [98]] from rfl, e]
  rfl
theorem known_ok : transhumancelaw1_known.f 12 = some true := by
  unfold transhumancelaw1_known.f
  simp only [sorted_val]
  kernel_rfl
theorem known_ev : Ev (fun k => transhumancelaw1_known.f k) true := Ev.of (transhumancelaw1_known.mono) (k := 12) known_ok
end Go.Proofs.YtkejnnnedgmhiaaDoor.X
