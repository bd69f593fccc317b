-- Laid by this session's own program (wip/xprint.py). Not trusted: Lean checks it.
import Derived.Test.YtelommablohfoaaProg
import Derived.Below
import Derived.Deep.Draws
import Derived.Deep.AppendLies
import Derived.Maps.AppendAt
import Derived.OwnWalk
import Derived.Laws.BytesArg
import Derived.Laws.MakeOwn
import Derived.Laws.OwnMore
import Derived.Deep.OwnRows
import Derived.Tactics
import Derived.Lib.ConvBytes
import Derived.Laws.Slices
import Derived.WalkKit
import Derived.KernelRfl
import Derived.RowKit3
import Derived.Deep.LoopGhost
import Derived.Deep.QuietTactic
import Derived.BigQuiet
import Derived.WideLaws
import Derived.Deep.DeepCutAuto
import Derived.Deep.CutBlock
import Derived.Deep.RegionHeld3
import Derived.Laws.Rows
import Derived.Lib.AppendStr
import Derived.ArgAppend
import Derived.Laws.IdiomCopy
import Derived.OrdersHeld
import Derived.Laws.BitsLemmas
import Derived.RowKit
import Derived.Test.YtelommablohfoaaShelf
import Derived.ScopeJumps
import Derived.WalkMore
import Derived.Test.YtelommablohfoaaWWords
import Derived.Test.YtelommablohfoaaWLast
import Derived.Test.YtelommablohfoaaWTab
import Derived.Test.YtelommablohfoaaWFour
import Derived.Test.YtelommablohfoaaWQPut
import Derived.Test.YtelommablohfoaaWApart
import Derived.Test.YtelommablohfoaaWArr
import Derived.Test.YtelommablohfoaaWZeros
import Derived.Test.YtelommablohfoaaWFoot
import Derived.Test.YtelommablohfoaaWKept
import Derived.Test.YtelommablohfoaaWShare
import Derived.Test.YtelommablohfoaaWN
import Derived.Test.YtelommablohfoaaWFootNe
import Derived.Test.YtelommablohfoaaWAt
import Derived.Test.YtelommablohfoaaWEqStruct
import Derived.Test.YtelommablohfoaaWRepsOne
import Derived.Test.YtelommablohfoaaWInv
import Derived.Test.YtelommablohfoaaWInvWords
import Derived.Test.YtelommablohfoaaWGuard
import Derived.Test.YtelommablohfoaaWNEv
import Derived.Test.YtelommablohfoaaWMore
namespace Go.Proofs.Ytelommablohfoaa.X
open Go.RowKit Go.Proofs.YtelommablohfoaaW.PrintWords Go.Proofs.YtelommablohfoaaW.PrintLast Go.Proofs.YtelommablohfoaaW.PrintMore
attribute [local go_sem] max2_int min2_int max_two min_two max_three min_three max_four min_four   -- for this text's walks alone
set_option linter.unusedVariables false
set_option linter.unusedSimpArgs false



def errW : Option Int → Value
  | none => .nilIface
  | some c => .iface 0 (.int .i64 c)
theorem errW_none : errW none = .nilIface := rfl
theorem errW_some (c : Int) : errW (some c) = .iface 0 (.int .i64 c) := rfl

theorem info3 : (Try.prog.info? 3).map (fun i => (i.zero, i.size, i.bytes)) = some (some (.int .i64 0), 1, 8) := by kernel_rfl
theorem info5 : (Try.prog.info? 5).map (fun i => (i.zero, i.size, i.bytes)) = some (some (.int .u8 0), 1, 1) := by kernel_rfl
theorem info9 : (Try.prog.info? 9).map (fun i => (i.zero, i.size, i.bytes)) = some (some (.string ⟨#[]⟩), 1, 16) := by kernel_rfl
-- the values' own types

end Go.Proofs.Ytelommablohfoaa.X
