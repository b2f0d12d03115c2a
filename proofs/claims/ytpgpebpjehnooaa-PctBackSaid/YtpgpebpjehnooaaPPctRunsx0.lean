-- Printed by a program of this session's own (wip/tools: a turned copy of the kit's print).
import Derived.Test.YtpgpebpjehnooaaProg
import Derived.Below
import Derived.Deep.Draws
import Derived.Deep.AppendLies
import Derived.Maps.AppendAt
import Derived.OwnWalk
import Derived.Laws.BytesArg
import Derived.Laws.MakeOwn
import Derived.Laws.OwnMore
import Derived.Deep.OwnRows
import Derived.Tactics
import Derived.Lib.ConvBytes
import Derived.Laws.Slices
import Derived.WalkKit
import Derived.KernelRfl
import Derived.RowKit3
import Derived.Deep.LoopGhost
import Derived.Deep.QuietTactic
import Derived.BigQuiet
import Derived.WideLaws
import Derived.Deep.DeepCutAuto
import Derived.Deep.CutBlock
import Derived.Deep.RegionHeld3
import Derived.Laws.Rows
import Derived.Lib.AppendStr
import Derived.ArgAppend
import Derived.Laws.IdiomCopy
import Derived.OrdersHeld
import Derived.Laws.BitsLemmas
import Derived.RowKit
import Derived.Test.YtpgpebpjehnooaaWWords
import Derived.Test.YtpgpebpjehnooaaWLast
import Derived.Test.YtpgpebpjehnooaaWTab
import Derived.Test.YtpgpebpjehnooaaWFour
import Derived.Test.YtpgpebpjehnooaaWQPut
import Derived.Test.YtpgpebpjehnooaaWApart
import Derived.Test.YtpgpebpjehnooaaWArr
import Derived.Test.YtpgpebpjehnooaaWZeros
import Derived.Test.YtpgpebpjehnooaaWFoot
import Derived.Test.YtpgpebpjehnooaaWKept
import Derived.Test.YtpgpebpjehnooaaWShare
import Derived.Test.YtpgpebpjehnooaaWN
import Derived.Test.YtpgpebpjehnooaaWFootNe
import Derived.Test.YtpgpebpjehnooaaWAt
import Derived.Test.YtpgpebpjehnooaaWEqStruct
import Derived.Test.YtpgpebpjehnooaaWRepsOne
import Derived.Test.YtpgpebpjehnooaaWInv
import Derived.Test.YtpgpebpjehnooaaWInvWords
import Derived.Test.YtpgpebpjehnooaaWGuard
import Derived.Test.YtpgpebpjehnooaaWNEv
import Derived.Test.YtpgpebpjehnooaaWMore
import Derived.Test.YtpgpebpjehnooaaGiven
namespace Go.Proofs.Ytpgpebpjehnooaa.PPctRuns
open Go.Proofs.Ytpgpebpjehnooaa.Given
open Go.RowKit Go.Proofs.YtpgpebpjehnooaaW.PrintWords Go.Proofs.YtpgpebpjehnooaaW.PrintLast Go.Proofs.YtpgpebpjehnooaaW.PrintMore
attribute [local go_sem] max2_int min2_int max_two min_two max_three min_three max_four min_four   -- for this text's walks alone
set_option linter.unusedVariables false
set_option linter.unusedSimpArgs false



def errW : Option Int → Value
  | none => .nilIface
  | some c => .iface 0 (.int .i64 c)
theorem am {p : Prop} (h : p) : Aside0 p := ⟨h⟩
theorem errW_none : errW none = .nilIface := rfl
theorem errW_some (c : Int) : errW (some c) = .iface 0 (.int .i64 c) := rfl

-- the values' own types

end Go.Proofs.Ytpgpebpjehnooaa.PPctRuns
