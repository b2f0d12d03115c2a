-- Printed by a program of this session's own (wip/tools: a turned copy of the kit's print).
import Derived.Test.YtkcpnbllgpkejaaProg
import Derived.Below
import Derived.Deep.Draws
import Derived.Deep.AppendLies
import Derived.Maps.AppendAt
import Derived.OwnWalk
import Derived.Laws.BytesArg
import Derived.Laws.MakeOwn
import Derived.Laws.OwnMore
import Derived.Deep.OwnRows
import Derived.Tactics
import Derived.Lib.ConvBytes
import Derived.Laws.Slices
import Derived.WalkKit
import Derived.KernelRfl
import Derived.RowKit3
import Derived.Deep.LoopGhost
import Derived.Deep.QuietTactic
import Derived.BigQuiet
import Derived.WideLaws
import Derived.Deep.DeepCutAuto
import Derived.Deep.CutBlock
import Derived.Deep.RegionHeld3
import Derived.Laws.Rows
import Derived.Lib.AppendStr
import Derived.ArgAppend
import Derived.Laws.IdiomCopy
import Derived.OrdersHeld
import Derived.Laws.BitsLemmas
import Derived.RowKit
import Derived.Test.YtkcpnbllgpkejaaWWords
import Derived.Test.YtkcpnbllgpkejaaWLast
import Derived.Test.YtkcpnbllgpkejaaWTab
import Derived.Test.YtkcpnbllgpkejaaWFour
import Derived.Test.YtkcpnbllgpkejaaWQPut
import Derived.Test.YtkcpnbllgpkejaaWApart
import Derived.Test.YtkcpnbllgpkejaaWArr
import Derived.Test.YtkcpnbllgpkejaaWZeros
import Derived.Test.YtkcpnbllgpkejaaWFoot
import Derived.Test.YtkcpnbllgpkejaaWKept
import Derived.Test.YtkcpnbllgpkejaaWShare
import Derived.Test.YtkcpnbllgpkejaaWN
import Derived.Test.YtkcpnbllgpkejaaWFootNe
import Derived.Test.YtkcpnbllgpkejaaWAt
import Derived.Test.YtkcpnbllgpkejaaWEqStruct
import Derived.Test.YtkcpnbllgpkejaaWRepsOne
import Derived.Test.YtkcpnbllgpkejaaWInv
import Derived.Test.YtkcpnbllgpkejaaWInvWords
import Derived.Test.YtkcpnbllgpkejaaWGuard
import Derived.Test.YtkcpnbllgpkejaaWNEv
import Derived.Test.YtkcpnbllgpkejaaWMore
namespace Go.Proofs.Ytkcpnbllgpkejaa.PRuleFlags
open Go.RowKit Go.Proofs.YtkcpnbllgpkejaaW.PrintWords Go.Proofs.YtkcpnbllgpkejaaW.PrintLast Go.Proofs.YtkcpnbllgpkejaaW.PrintMore
attribute [local go_sem] max2_int min2_int max_two min_two max_three min_three max_four min_four   -- for this text's walks alone
set_option linter.unusedVariables false
set_option linter.unusedSimpArgs false



def errW : Option Int → Value
  | none => .nilIface
  | some c => .iface 0 (.int .i64 c)
theorem errW_none : errW none = .nilIface := rfl
theorem errW_some (c : Int) : errW (some c) = .iface 0 (.int .i64 c) := rfl

theorem info4 : (Try.prog.info? 4).map (fun i => (i.zero, i.size, i.bytes)) = some (some (.bool false), 1, 1) := by kernel_rfl
-- the values' own types

end Go.Proofs.Ytkcpnbllgpkejaa.PRuleFlags
