-- Printed by a program of this session's own (wip/tools: a turned copy of the kit's print).
import Derived.Test.YtcpinjdkgponnaaProg
import Derived.Below
import Derived.Deep.Draws
import Derived.Deep.AppendLies
import Derived.Maps.AppendAt
import Derived.OwnWalk
import Derived.Laws.BytesArg
import Derived.Laws.MakeOwn
import Derived.Laws.OwnMore
import Derived.Deep.OwnRows
import Derived.Tactics
import Derived.Lib.ConvBytes
import Derived.Laws.Slices
import Derived.WalkKit
import Derived.KernelRfl
import Derived.RowKit3
import Derived.Deep.LoopGhost
import Derived.Deep.QuietTactic
import Derived.BigQuiet
import Derived.WideLaws
import Derived.Deep.DeepCutAuto
import Derived.Deep.CutBlock
import Derived.Deep.RegionHeld3
import Derived.Laws.Rows
import Derived.Lib.AppendStr
import Derived.ArgAppend
import Derived.Laws.IdiomCopy
import Derived.OrdersHeld
import Derived.Laws.BitsLemmas
import Derived.RowKit
import Derived.Test.YtcpinjdkgponnaaWWords
import Derived.Test.YtcpinjdkgponnaaWLast
import Derived.Test.YtcpinjdkgponnaaWTab
import Derived.Test.YtcpinjdkgponnaaWFour
import Derived.Test.YtcpinjdkgponnaaWQPut
import Derived.Test.YtcpinjdkgponnaaWApart
import Derived.Test.YtcpinjdkgponnaaWArr
import Derived.Test.YtcpinjdkgponnaaWZeros
import Derived.Test.YtcpinjdkgponnaaWFoot
import Derived.Test.YtcpinjdkgponnaaWKept
import Derived.Test.YtcpinjdkgponnaaWShare
import Derived.Test.YtcpinjdkgponnaaWN
import Derived.Test.YtcpinjdkgponnaaWFootNe
import Derived.Test.YtcpinjdkgponnaaWAt
import Derived.Test.YtcpinjdkgponnaaWEqStruct
import Derived.Test.YtcpinjdkgponnaaWRepsOne
import Derived.Test.YtcpinjdkgponnaaWInv
import Derived.Test.YtcpinjdkgponnaaWInvWords
import Derived.Test.YtcpinjdkgponnaaWGuard
import Derived.Test.YtcpinjdkgponnaaWNEv
import Derived.Test.YtcpinjdkgponnaaWMore
namespace Go.Proofs.Ytcpinjdkgponnaa.PTrapCatches
open Go.RowKit Go.Proofs.YtcpinjdkgponnaaW.PrintWords Go.Proofs.YtcpinjdkgponnaaW.PrintLast Go.Proofs.YtcpinjdkgponnaaW.PrintMore
attribute [local go_sem] max2_int min2_int max_two min_two max_three min_three max_four min_four   -- for this text's walks alone
set_option linter.unusedVariables false
set_option linter.unusedSimpArgs false



def errW : Option Int → Value
  | none => .nilIface
  | some c => .iface 0 (.int .i64 c)
theorem am {p : Prop} (h : p) : Aside0 p := ⟨h⟩
theorem errW_none : errW none = .nilIface := rfl
theorem errW_some (c : Int) : errW (some c) = .iface 0 (.int .i64 c) := rfl

-- the values' own types

end Go.Proofs.Ytcpinjdkgponnaa.PTrapCatches
