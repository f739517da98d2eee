-- written for this claim by a program of this session (wip/print-own.sh)
import Derived.Test.YtlhncceabneckaaProg
import Derived.Below
import Derived.Deep.Draws
import Derived.Deep.AppendLies
import Derived.Maps.AppendAt
import Derived.OwnWalk
import Derived.Laws.BytesArg
import Derived.Laws.MakeOwn
import Derived.Laws.OwnMore
import Derived.Deep.OwnRows
import Derived.Tactics
import Derived.Lib.ConvBytes
import Derived.Laws.Slices
import Derived.WalkKit
import Derived.KernelRfl
import Derived.RowKit3
import Derived.Deep.LoopGhost
import Derived.Deep.QuietTactic
import Derived.BigQuiet
import Derived.WideLaws
import Derived.Deep.DeepCutAuto
import Derived.Deep.CutBlock
import Derived.Deep.RegionHeld3
import Derived.Laws.Rows
import Derived.Lib.AppendStr
import Derived.ArgAppend
import Derived.Laws.IdiomCopy
import Derived.OrdersHeld
import Derived.Laws.BitsLemmas
import Derived.RowKit
import Derived.Test.YtlhncceabneckaaWWords
import Derived.Test.YtlhncceabneckaaWLast
import Derived.Test.YtlhncceabneckaaWTab
import Derived.Test.YtlhncceabneckaaWFour
import Derived.Test.YtlhncceabneckaaWQPut
import Derived.Test.YtlhncceabneckaaWApart
import Derived.Test.YtlhncceabneckaaWArr
import Derived.Test.YtlhncceabneckaaWZeros
import Derived.Test.YtlhncceabneckaaWFoot
import Derived.Test.YtlhncceabneckaaWKept
import Derived.Test.YtlhncceabneckaaWShare
import Derived.Test.YtlhncceabneckaaWN
import Derived.Test.YtlhncceabneckaaWFootNe
import Derived.Test.YtlhncceabneckaaWAt
import Derived.Test.YtlhncceabneckaaWEqStruct
import Derived.Test.YtlhncceabneckaaWRepsOne
import Derived.Test.YtlhncceabneckaaWInv
import Derived.Test.YtlhncceabneckaaWInvWords
import Derived.Test.YtlhncceabneckaaWGuard
import Derived.Test.YtlhncceabneckaaWNEv
import Derived.Test.YtlhncceabneckaaWMore
namespace Go.Proofs.Ytlhncceabneckaa.PFrameOpens
open Go.RowKit Go.Proofs.YtlhncceabneckaaW.PrintWords Go.Proofs.YtlhncceabneckaaW.PrintLast Go.Proofs.YtlhncceabneckaaW.PrintMore
attribute [local go_sem] max2_int min2_int max_two min_two max_three min_three max_four min_four   -- for this text's walks alone
set_option linter.unusedVariables false
set_option linter.unusedSimpArgs false



def errW : Option Int → Value
  | none => .nilIface
  | some c => .iface 0 (.int .i64 c)
theorem errW_none : errW none = .nilIface := rfl
theorem errW_some (c : Int) : errW (some c) = .iface 0 (.int .i64 c) := rfl

theorem info5 : (Try.prog.info? 5).map (fun i => (i.zero, i.size, i.bytes)) = some (some (.int .u8 0), 1, 1) := by kernel_rfl
-- the values' own types

end Go.Proofs.Ytlhncceabneckaa.PFrameOpens
