/-
  No cell of these rows narrows 'for every input' (looked for: loops, veiled, ifaces, maps, wideKeys, modest, calm, conditions, laid).
  DERIVED. THE GIVEN ROWS OF THIS SEAT. 9 by the template 'for every input the law returns true; each argument reads behind the call as it read before'; 0 by the template 'total and deterministic' (their statements: YtelommablohfoaaTotals.lean).
  GIVEN WITH THE SEED: the statements are not yours to turn. If you find one false, say at which input.
  Laid BY PROGRAM, IN A SANDBOX (cutbox-rows.mjs): the forced cells as the released guide's own fill.sh prints them over the translation 82c8adf423883779… (all of the seat's roots in one cut). By AI agents, Wed Nov 11 2026. No macro, syntax, notation, axiom, sorry.
-/
import Derived.Test.YtelommablohfoaaChecked
import GoSem.Claim
import GoSem.ClaimJoined
import GoSem.ClaimMapViews
import Derived.JoinedTies
import Derived.KernelRfl
namespace Go.Proofs.Ytelommablohfoaa
/- THE CELL 'sum', in the pinned program and in every row, IS THE sha256 OF THE DUMP (.gsa) THAT YtelommablohfoaaProg.lean LOADS. Nothing in Lean hashes anything: it is a label: what it is worth is what the hold of that sum in a sandbox is worth. -/
noncomputable def Try.pinned : Pinned := { name := "ytelommablohfoaa", sum := "82c8adf423883779ddb5e90dcd214cc3962ba0007856550d2929b52fcf7d1cc8", checked := Try.checked }
namespace Rows
def none {H : Type} : Left H := { results := [], args := [] }

/-- 'transhumancelaw4.PathRight': WHATEVER THE INPUT: true; the input reads as it did. -/
def pathRightSpec : ChangeSpec := { name := "pathRight", fn := fun _ => fun
  | [d1, d2, d3, d4, d5] => { results := [.lit (.bool true)], args := [d1, d2, d3, d4, d5] }
  | _ => none }
def pathRightRow : OpenClaim := { program := "ytelommablohfoaa", sum := "82c8adf423883779ddb5e90dcd214cc3962ba0007856550d2929b52fcf7d1cc8", func := "transhumance/transhumancelaw4.PathRight", spec := "pathRight", inPlace := ["internal/bytealg.IndexByteString", "internal/bytealg.IndexString"], named := ["internal/bytealg.MaxLen"], apart := false }
def PathRightSaid : Prop := pathRightRow.holds Try.pinned (OpenSpec.ofChange pathRightSpec)

/-- ITS FALSE NEIGHBOUR: 'it returns false'. Refute it at one input. -/
def pathRightWrong : ChangeSpec := { name := "pathRight", fn := fun _ => fun
  | [d1, d2, d3, d4, d5] => { results := [.lit (.bool false)], args := [d1, d2, d3, d4, d5] }
  | _ => none }
def PathRightWrongFalsely : Prop := pathRightRow.holds Try.pinned (OpenSpec.ofChange pathRightWrong)

/-- 'transhumancelaw4.PathMajors': WHATEVER THE INPUT: true; the input reads as it did. -/
def pathMajorsSpec : ChangeSpec := { name := "pathMajors", fn := fun _ => fun
  | [d1, d2] => { results := [.lit (.bool true)], args := [d1, d2] }
  | _ => none }
def pathMajorsRow : OpenClaim := { program := "ytelommablohfoaa", sum := "82c8adf423883779ddb5e90dcd214cc3962ba0007856550d2929b52fcf7d1cc8", func := "transhumance/transhumancelaw4.PathMajors", spec := "pathMajors", inPlace := ["internal/bytealg.IndexByteString", "internal/bytealg.IndexString"], recurses := true, named := ["internal/bytealg.MaxLen"], apart := false }
def PathMajorsSaid : Prop := pathMajorsRow.holds Try.pinned (OpenSpec.ofChange pathMajorsSpec)

/-- ITS FALSE NEIGHBOUR: 'it returns false'. Refute it at one input. -/
def pathMajorsWrong : ChangeSpec := { name := "pathMajors", fn := fun _ => fun
  | [d1, d2] => { results := [.lit (.bool false)], args := [d1, d2] }
  | _ => none }
def PathMajorsWrongFalsely : Prop := pathMajorsRow.holds Try.pinned (OpenSpec.ofChange pathMajorsWrong)

/-- 'transhumancelaw4.PathFits': WHATEVER THE INPUT: true; the input reads as it did. -/
def pathFitsSpec : ChangeSpec := { name := "pathFits", fn := fun _ => fun
  | [d1, d2, d3] => { results := [.lit (.bool true)], args := [d1, d2, d3] }
  | _ => none }
def pathFitsRow : OpenClaim := { program := "ytelommablohfoaa", sum := "82c8adf423883779ddb5e90dcd214cc3962ba0007856550d2929b52fcf7d1cc8", func := "transhumance/transhumancelaw4.PathFits", spec := "pathFits", inPlace := ["internal/bytealg.IndexByteString", "internal/bytealg.IndexString"], named := ["internal/bytealg.MaxLen"], apart := false }
def PathFitsSaid : Prop := pathFitsRow.holds Try.pinned (OpenSpec.ofChange pathFitsSpec)

/-- ITS FALSE NEIGHBOUR: 'it returns false'. Refute it at one input. -/
def pathFitsWrong : ChangeSpec := { name := "pathFits", fn := fun _ => fun
  | [d1, d2, d3] => { results := [.lit (.bool false)], args := [d1, d2, d3] }
  | _ => none }
def PathFitsWrongFalsely : Prop := pathFitsRow.holds Try.pinned (OpenSpec.ofChange pathFitsWrong)

/-- 'transhumancelaw4.PathWithin': WHATEVER THE INPUT: true; the input reads as it did. -/
def pathWithinSpec : ChangeSpec := { name := "pathWithin", fn := fun _ => fun
  | [d1, d2, d3, d4] => { results := [.lit (.bool true)], args := [d1, d2, d3, d4] }
  | _ => none }
def pathWithinRow : OpenClaim := { program := "ytelommablohfoaa", sum := "82c8adf423883779ddb5e90dcd214cc3962ba0007856550d2929b52fcf7d1cc8", func := "transhumance/transhumancelaw4.PathWithin", spec := "pathWithin", inPlace := ["internal/bytealg.IndexByteString", "internal/bytealg.IndexString"], named := ["internal/bytealg.MaxLen"], apart := false }
def PathWithinSaid : Prop := pathWithinRow.holds Try.pinned (OpenSpec.ofChange pathWithinSpec)

/-- ITS FALSE NEIGHBOUR: 'it returns false'. Refute it at one input. -/
def pathWithinWrong : ChangeSpec := { name := "pathWithin", fn := fun _ => fun
  | [d1, d2, d3, d4] => { results := [.lit (.bool false)], args := [d1, d2, d3, d4] }
  | _ => none }
def PathWithinWrongFalsely : Prop := pathWithinRow.holds Try.pinned (OpenSpec.ofChange pathWithinWrong)

/-- 'transhumancelaw4.PathFinds': WHATEVER THE INPUT: true; the input reads as it did. -/
def pathFindsSpec : ChangeSpec := { name := "pathFinds", fn := fun _ => fun
  | [d1, d2, d3, d4] => { results := [.lit (.bool true)], args := [d1, d2, d3, d4] }
  | _ => none }
def pathFindsRow : OpenClaim := { program := "ytelommablohfoaa", sum := "82c8adf423883779ddb5e90dcd214cc3962ba0007856550d2929b52fcf7d1cc8", func := "transhumance/transhumancelaw4.PathFinds", spec := "pathFinds", inPlace := ["internal/bytealg.IndexByteString", "internal/bytealg.IndexString"], named := ["internal/bytealg.MaxLen"], apart := false }
def PathFindsSaid : Prop := pathFindsRow.holds Try.pinned (OpenSpec.ofChange pathFindsSpec)

/-- ITS FALSE NEIGHBOUR: 'it returns false'. Refute it at one input. -/
def pathFindsWrong : ChangeSpec := { name := "pathFinds", fn := fun _ => fun
  | [d1, d2, d3, d4] => { results := [.lit (.bool false)], args := [d1, d2, d3, d4] }
  | _ => none }
def PathFindsWrongFalsely : Prop := pathFindsRow.holds Try.pinned (OpenSpec.ofChange pathFindsWrong)

/-- 'transhumancelaw4.PathKnown': WHATEVER THE INPUT: true; the input reads as it did. -/
def pathKnownSpec : ChangeSpec := { name := "pathKnown", fn := fun _ => fun
  | [d] => { results := [.lit (.bool true)], args := [d] }
  | _ => none }
def pathKnownRow : OpenClaim := { program := "ytelommablohfoaa", sum := "82c8adf423883779ddb5e90dcd214cc3962ba0007856550d2929b52fcf7d1cc8", func := "transhumance/transhumancelaw4.PathKnown", spec := "pathKnown", inPlace := ["internal/bytealg.IndexByteString", "internal/bytealg.IndexString"], named := ["internal/bytealg.MaxLen"], apart := false }
def PathKnownSaid : Prop := pathKnownRow.holds Try.pinned (OpenSpec.ofChange pathKnownSpec)

/-- ITS FALSE NEIGHBOUR: 'it returns false'. Refute it at one input. -/
def pathKnownWrong : ChangeSpec := { name := "pathKnown", fn := fun _ => fun
  | [d] => { results := [.lit (.bool false)], args := [d] }
  | _ => none }
def PathKnownWrongFalsely : Prop := pathKnownRow.holds Try.pinned (OpenSpec.ofChange pathKnownWrong)

/-- 'transhumancelaw4.PathLong': WHATEVER THE INPUT: true; the input reads as it did. -/
def pathLongSpec : ChangeSpec := { name := "pathLong", fn := fun _ => fun
  | [d1, d2] => { results := [.lit (.bool true)], args := [d1, d2] }
  | _ => none }
def pathLongRow : OpenClaim := { program := "ytelommablohfoaa", sum := "82c8adf423883779ddb5e90dcd214cc3962ba0007856550d2929b52fcf7d1cc8", func := "transhumance/transhumancelaw4.PathLong", spec := "pathLong", inPlace := ["internal/bytealg.IndexByteString", "internal/bytealg.IndexString"], named := ["internal/bytealg.MaxLen"], apart := false }
def PathLongSaid : Prop := pathLongRow.holds Try.pinned (OpenSpec.ofChange pathLongSpec)

/-- ITS FALSE NEIGHBOUR: 'it returns false'. Refute it at one input. -/
def pathLongWrong : ChangeSpec := { name := "pathLong", fn := fun _ => fun
  | [d1, d2] => { results := [.lit (.bool false)], args := [d1, d2] }
  | _ => none }
def PathLongWrongFalsely : Prop := pathLongRow.holds Try.pinned (OpenSpec.ofChange pathLongWrong)

/-- 'transhumancelaw4.PathOrder': WHATEVER THE INPUT: true; the input reads as it did. -/
def pathOrderSpec : ChangeSpec := { name := "pathOrder", fn := fun _ => fun
  | [d1, d2, d3, d4] => { results := [.lit (.bool true)], args := [d1, d2, d3, d4] }
  | _ => none }
def pathOrderRow : OpenClaim := { program := "ytelommablohfoaa", sum := "82c8adf423883779ddb5e90dcd214cc3962ba0007856550d2929b52fcf7d1cc8", func := "transhumance/transhumancelaw4.PathOrder", spec := "pathOrder", inPlace := ["internal/bytealg.IndexByteString", "internal/bytealg.IndexString"], named := ["internal/bytealg.MaxLen"], apart := false }
def PathOrderSaid : Prop := pathOrderRow.holds Try.pinned (OpenSpec.ofChange pathOrderSpec)

/-- ITS FALSE NEIGHBOUR: 'it returns false'. Refute it at one input. -/
def pathOrderWrong : ChangeSpec := { name := "pathOrder", fn := fun _ => fun
  | [d1, d2, d3, d4] => { results := [.lit (.bool false)], args := [d1, d2, d3, d4] }
  | _ => none }
def PathOrderWrongFalsely : Prop := pathOrderRow.holds Try.pinned (OpenSpec.ofChange pathOrderWrong)

/-- 'transhumancelaw4.PathMore': WHATEVER THE INPUT: true; the input reads as it did. -/
def pathMoreSpec : ChangeSpec := { name := "pathMore", fn := fun _ => fun
  | [d1, d2, d3] => { results := [.lit (.bool true)], args := [d1, d2, d3] }
  | _ => none }
def pathMoreRow : OpenClaim := { program := "ytelommablohfoaa", sum := "82c8adf423883779ddb5e90dcd214cc3962ba0007856550d2929b52fcf7d1cc8", func := "transhumance/transhumancelaw4.PathMore", spec := "pathMore", inPlace := ["internal/bytealg.IndexByteString", "internal/bytealg.IndexString"], named := ["internal/bytealg.MaxLen"], apart := false }
def PathMoreSaid : Prop := pathMoreRow.holds Try.pinned (OpenSpec.ofChange pathMoreSpec)

/-- ITS FALSE NEIGHBOUR: 'it returns false'. Refute it at one input. -/
def pathMoreWrong : ChangeSpec := { name := "pathMore", fn := fun _ => fun
  | [d1, d2, d3] => { results := [.lit (.bool false)], args := [d1, d2, d3] }
  | _ => none }
def PathMoreWrongFalsely : Prop := pathMoreRow.holds Try.pinned (OpenSpec.ofChange pathMoreWrong)

/- THE SECOND FORM. 'bulk': how many values and letters a reading holds, each counted each time it is reached (what is shared counts as often as it is met; a slice's spare places count too). A statement '..UptoSaid' is the law's where the arguments, and the package variables that the reading takes, are together of bulk at most 1048576: NARROWER than '..Said'. Prove '..Said' where nothing that the law and all that it calls make is longer than what came in: it says more and counts as full. Else prove '..UptoSaid'. A law counts once. -/
mutual
def uptoBulk {H : Type} : DataW H → Nat
  | .lit (.string bytes) => bytes.length + 1
  | .lit _ => 1
  | .nil => 1
  | .ptr d => uptoBulk d + 1
  | .slice elems spare => uptoBulkAll elems + uptoBulkAll spare + 1
  | .agg parts => uptoBulkAll parts + 1
  | .iface _ d => uptoBulk d + 1
  | .map entries => uptoBulkEntries entries + 1
  | .held _ => 1
def uptoBulkAll {H : Type} : List (DataW H) → Nat
  | [] => 0
  | d :: r => uptoBulk d + uptoBulkAll r
def uptoBulkEntries {H : Type} : List (Lit × DataW H) → Nat
  | [] => 0
  | x :: r => uptoBulkEntry x + uptoBulkEntries r
def uptoBulkEntry {H : Type} : Lit × DataW H → Nat
  | (.string bytes, d) => bytes.length + uptoBulk d + 1
  | (_, d) => uptoBulk d + 1
 end
def uptoSmall : (H : Type) → List (DataW H) → Bool := fun _ ds => decide (uptoBulkAll ds ≤ 1048576)
def OpenSpec.upto (s : _root_.Go.ChangeSpec) : _root_.Go.OpenSpec := { _root_.Go.OpenSpec.ofChange s with cond := some uptoSmall }

/-- 'transhumancelaw4.PathRight', WHERE WHAT IT READS IS OF BULK AT MOST 1048576: true; the input reads as it did. -/
def pathRightUptoRow : OpenClaim := { program := "ytelommablohfoaa", sum := "82c8adf423883779ddb5e90dcd214cc3962ba0007856550d2929b52fcf7d1cc8", func := "transhumance/transhumancelaw4.PathRight", spec := "pathRight", inPlace := ["internal/bytealg.IndexByteString", "internal/bytealg.IndexString"], named := ["internal/bytealg.MaxLen"], apart := false, narrowed := true }
def PathRightUptoSaid : Prop := pathRightUptoRow.holds Try.pinned (OpenSpec.upto pathRightSpec)

/-- 'transhumancelaw4.PathMajors', WHERE WHAT IT READS IS OF BULK AT MOST 1048576: true; the input reads as it did. -/
def pathMajorsUptoRow : OpenClaim := { program := "ytelommablohfoaa", sum := "82c8adf423883779ddb5e90dcd214cc3962ba0007856550d2929b52fcf7d1cc8", func := "transhumance/transhumancelaw4.PathMajors", spec := "pathMajors", inPlace := ["internal/bytealg.IndexByteString", "internal/bytealg.IndexString"], recurses := true, named := ["internal/bytealg.MaxLen"], apart := false, narrowed := true }
def PathMajorsUptoSaid : Prop := pathMajorsUptoRow.holds Try.pinned (OpenSpec.upto pathMajorsSpec)

/-- 'transhumancelaw4.PathFits', WHERE WHAT IT READS IS OF BULK AT MOST 1048576: true; the input reads as it did. -/
def pathFitsUptoRow : OpenClaim := { program := "ytelommablohfoaa", sum := "82c8adf423883779ddb5e90dcd214cc3962ba0007856550d2929b52fcf7d1cc8", func := "transhumance/transhumancelaw4.PathFits", spec := "pathFits", inPlace := ["internal/bytealg.IndexByteString", "internal/bytealg.IndexString"], named := ["internal/bytealg.MaxLen"], apart := false, narrowed := true }
def PathFitsUptoSaid : Prop := pathFitsUptoRow.holds Try.pinned (OpenSpec.upto pathFitsSpec)

/-- 'transhumancelaw4.PathWithin', WHERE WHAT IT READS IS OF BULK AT MOST 1048576: true; the input reads as it did. -/
def pathWithinUptoRow : OpenClaim := { program := "ytelommablohfoaa", sum := "82c8adf423883779ddb5e90dcd214cc3962ba0007856550d2929b52fcf7d1cc8", func := "transhumance/transhumancelaw4.PathWithin", spec := "pathWithin", inPlace := ["internal/bytealg.IndexByteString", "internal/bytealg.IndexString"], named := ["internal/bytealg.MaxLen"], apart := false, narrowed := true }
def PathWithinUptoSaid : Prop := pathWithinUptoRow.holds Try.pinned (OpenSpec.upto pathWithinSpec)

/-- 'transhumancelaw4.PathFinds', WHERE WHAT IT READS IS OF BULK AT MOST 1048576: true; the input reads as it did. -/
def pathFindsUptoRow : OpenClaim := { program := "ytelommablohfoaa", sum := "82c8adf423883779ddb5e90dcd214cc3962ba0007856550d2929b52fcf7d1cc8", func := "transhumance/transhumancelaw4.PathFinds", spec := "pathFinds", inPlace := ["internal/bytealg.IndexByteString", "internal/bytealg.IndexString"], named := ["internal/bytealg.MaxLen"], apart := false, narrowed := true }
def PathFindsUptoSaid : Prop := pathFindsUptoRow.holds Try.pinned (OpenSpec.upto pathFindsSpec)

/-- 'transhumancelaw4.PathKnown', WHERE WHAT IT READS IS OF BULK AT MOST 1048576: true; the input reads as it did. -/
def pathKnownUptoRow : OpenClaim := { program := "ytelommablohfoaa", sum := "82c8adf423883779ddb5e90dcd214cc3962ba0007856550d2929b52fcf7d1cc8", func := "transhumance/transhumancelaw4.PathKnown", spec := "pathKnown", inPlace := ["internal/bytealg.IndexByteString", "internal/bytealg.IndexString"], named := ["internal/bytealg.MaxLen"], apart := false, narrowed := true }
def PathKnownUptoSaid : Prop := pathKnownUptoRow.holds Try.pinned (OpenSpec.upto pathKnownSpec)

/-- 'transhumancelaw4.PathLong', WHERE WHAT IT READS IS OF BULK AT MOST 1048576: true; the input reads as it did. -/
def pathLongUptoRow : OpenClaim := { program := "ytelommablohfoaa", sum := "82c8adf423883779ddb5e90dcd214cc3962ba0007856550d2929b52fcf7d1cc8", func := "transhumance/transhumancelaw4.PathLong", spec := "pathLong", inPlace := ["internal/bytealg.IndexByteString", "internal/bytealg.IndexString"], named := ["internal/bytealg.MaxLen"], apart := false, narrowed := true }
def PathLongUptoSaid : Prop := pathLongUptoRow.holds Try.pinned (OpenSpec.upto pathLongSpec)

/-- 'transhumancelaw4.PathOrder', WHERE WHAT IT READS IS OF BULK AT MOST 1048576: true; the input reads as it did. -/
def pathOrderUptoRow : OpenClaim := { program := "ytelommablohfoaa", sum := "82c8adf423883779ddb5e90dcd214cc3962ba0007856550d2929b52fcf7d1cc8", func := "transhumance/transhumancelaw4.PathOrder", spec := "pathOrder", inPlace := ["internal/bytealg.IndexByteString", "internal/bytealg.IndexString"], named := ["internal/bytealg.MaxLen"], apart := false, narrowed := true }
def PathOrderUptoSaid : Prop := pathOrderUptoRow.holds Try.pinned (OpenSpec.upto pathOrderSpec)

/-- 'transhumancelaw4.PathMore', WHERE WHAT IT READS IS OF BULK AT MOST 1048576: true; the input reads as it did. -/
def pathMoreUptoRow : OpenClaim := { program := "ytelommablohfoaa", sum := "82c8adf423883779ddb5e90dcd214cc3962ba0007856550d2929b52fcf7d1cc8", func := "transhumance/transhumancelaw4.PathMore", spec := "pathMore", inPlace := ["internal/bytealg.IndexByteString", "internal/bytealg.IndexString"], named := ["internal/bytealg.MaxLen"], apart := false, narrowed := true }
def PathMoreUptoSaid : Prop := pathMoreUptoRow.holds Try.pinned (OpenSpec.upto pathMoreSpec)

end Rows
end Go.Proofs.Ytelommablohfoaa
