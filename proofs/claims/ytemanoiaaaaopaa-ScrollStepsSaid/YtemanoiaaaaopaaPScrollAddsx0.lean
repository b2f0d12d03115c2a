-- Printed by a program of this session's own (wip/tools: a turned copy of the kit's print).
import Derived.Test.YtemanoiaaaaopaaProg
import Derived.Below
import Derived.Deep.Draws
import Derived.Deep.AppendLies
import Derived.Maps.AppendAt
import Derived.OwnWalk
import Derived.Laws.BytesArg
import Derived.Laws.MakeOwn
import Derived.Laws.OwnMore
import Derived.Deep.OwnRows
import Derived.Tactics
import Derived.Lib.ConvBytes
import Derived.Laws.Slices
import Derived.WalkKit
import Derived.KernelRfl
import Derived.RowKit3
import Derived.Deep.LoopGhost
import Derived.Deep.QuietTactic
import Derived.BigQuiet
import Derived.WideLaws
import Derived.Deep.DeepCutAuto
import Derived.Deep.CutBlock
import Derived.Deep.RegionHeld3
import Derived.Laws.Rows
import Derived.Lib.AppendStr
import Derived.ArgAppend
import Derived.Laws.IdiomCopy
import Derived.OrdersHeld
import Derived.Laws.BitsLemmas
import Derived.RowKit
import Derived.Test.YtemanoiaaaaopaaWWords
import Derived.Test.YtemanoiaaaaopaaWLast
import Derived.Test.YtemanoiaaaaopaaWTab
import Derived.Test.YtemanoiaaaaopaaWFour
import Derived.Test.YtemanoiaaaaopaaWQPut
import Derived.Test.YtemanoiaaaaopaaWApart
import Derived.Test.YtemanoiaaaaopaaWArr
import Derived.Test.YtemanoiaaaaopaaWZeros
import Derived.Test.YtemanoiaaaaopaaWFoot
import Derived.Test.YtemanoiaaaaopaaWKept
import Derived.Test.YtemanoiaaaaopaaWShare
import Derived.Test.YtemanoiaaaaopaaWN
import Derived.Test.YtemanoiaaaaopaaWFootNe
import Derived.Test.YtemanoiaaaaopaaWAt
import Derived.Test.YtemanoiaaaaopaaWEqStruct
import Derived.Test.YtemanoiaaaaopaaWRepsOne
import Derived.Test.YtemanoiaaaaopaaWInv
import Derived.Test.YtemanoiaaaaopaaWInvWords
import Derived.Test.YtemanoiaaaaopaaWGuard
import Derived.Test.YtemanoiaaaaopaaWNEv
import Derived.Test.YtemanoiaaaaopaaWMore
namespace Go.Proofs.Ytemanoiaaaaopaa.PScrollAdds
open Go.RowKit Go.Proofs.YtemanoiaaaaopaaW.PrintWords Go.Proofs.YtemanoiaaaaopaaW.PrintLast Go.Proofs.YtemanoiaaaaopaaW.PrintMore
attribute [local go_sem] max2_int min2_int max_two min_two max_three min_three max_four min_four   -- for this text's walks alone
set_option linter.unusedVariables false
set_option linter.unusedSimpArgs false



def errW : Option Int → Value
  | none => .nilIface
  | some c => .iface 0 (.int .i64 c)
theorem am {p : Prop} (h : p) : Aside0 p := ⟨h⟩
theorem errW_none : errW none = .nilIface := rfl
theorem errW_some (c : Int) : errW (some c) = .iface 0 (.int .i64 c) := rfl

-- the values' own types

end Go.Proofs.Ytemanoiaaaaopaa.PScrollAdds
