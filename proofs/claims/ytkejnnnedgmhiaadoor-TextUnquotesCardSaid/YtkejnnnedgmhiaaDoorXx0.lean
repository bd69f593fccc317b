-- Laid by this session's own program (wip/xprint.py). Not trusted: Lean checks it.
import Derived.Test.YtkejnnnedgmhiaaDoorProg
import Derived.Below
import Derived.Deep.Draws
import Derived.Deep.AppendLies
import Derived.Maps.AppendAt
import Derived.OwnWalk
import Derived.Laws.BytesArg
import Derived.Laws.MakeOwn
import Derived.Laws.OwnMore
import Derived.Deep.OwnRows
import Derived.Tactics
import Derived.Lib.ConvBytes
import Derived.Laws.Slices
import Derived.WalkKit
import Derived.KernelRfl
import Derived.RowKit3
import Derived.Deep.LoopGhost
import Derived.Deep.QuietTactic
import Derived.BigQuiet
import Derived.WideLaws
import Derived.Deep.DeepCutAuto
import Derived.Deep.CutBlock
import Derived.Deep.RegionHeld3
import Derived.Laws.Rows
import Derived.Lib.AppendStr
import Derived.ArgAppend
import Derived.Laws.IdiomCopy
import Derived.OrdersHeld
import Derived.Laws.BitsLemmas
import Derived.RowKit
import Derived.Test.YtkejnnnedgmhiaaDoorShelf
import Derived.StillTailTactics
import Derived.Lib.Buffer
import Derived.Sort.OwnSorted
import Derived.Sort.Grow
import Derived.Lib.OwnBridge
import Derived.Test.YtkejnnnedgmhiaaDoorWWords
import Derived.Test.YtkejnnnedgmhiaaDoorWLast
import Derived.Test.YtkejnnnedgmhiaaDoorWTab
import Derived.Test.YtkejnnnedgmhiaaDoorWFour
import Derived.Test.YtkejnnnedgmhiaaDoorWQPut
import Derived.Test.YtkejnnnedgmhiaaDoorWApart
import Derived.Test.YtkejnnnedgmhiaaDoorWArr
import Derived.Test.YtkejnnnedgmhiaaDoorWZeros
import Derived.Test.YtkejnnnedgmhiaaDoorWFoot
import Derived.Test.YtkejnnnedgmhiaaDoorWKept
import Derived.Test.YtkejnnnedgmhiaaDoorWShare
import Derived.Test.YtkejnnnedgmhiaaDoorWN
import Derived.Test.YtkejnnnedgmhiaaDoorWFootNe
import Derived.Test.YtkejnnnedgmhiaaDoorWAt
import Derived.Test.YtkejnnnedgmhiaaDoorWEqStruct
import Derived.Test.YtkejnnnedgmhiaaDoorWRepsOne
import Derived.Test.YtkejnnnedgmhiaaDoorWInv
import Derived.Test.YtkejnnnedgmhiaaDoorWInvWords
import Derived.Test.YtkejnnnedgmhiaaDoorWGuard
import Derived.Test.YtkejnnnedgmhiaaDoorWNEv
import Derived.Test.YtkejnnnedgmhiaaDoorWMore
namespace Go.Proofs.YtkejnnnedgmhiaaDoor.X
open Go.RowKit Go.Proofs.YtkejnnnedgmhiaaDoorW.PrintWords Go.Proofs.YtkejnnnedgmhiaaDoorW.PrintLast Go.Proofs.YtkejnnnedgmhiaaDoorW.PrintMore
attribute [local go_sem] max2_int min2_int max_two min_two max_three min_three max_four min_four   -- for this text's walks alone
set_option linter.unusedVariables false
set_option linter.unusedSimpArgs false



def errW : Option Int → Value
  | none => .nilIface
  | some c => .iface 0 (.int .i64 c)
theorem errW_none : errW none = .nilIface := rfl
theorem errW_some (c : Int) : errW (some c) = .iface 0 (.int .i64 c) := rfl

theorem info5 : (Tryd.prog.info? 5).map (fun i => (i.zero, i.size, i.bytes)) = some (some (.int .u8 0), 1, 1) := by kernel_rfl
theorem info9 : (Tryd.prog.info? 9).map (fun i => (i.zero, i.size, i.bytes)) = some (some (.string ⟨#[]⟩), 1, 16) := by kernel_rfl
-- the values' own types

end Go.Proofs.YtkejnnnedgmhiaaDoor.X
