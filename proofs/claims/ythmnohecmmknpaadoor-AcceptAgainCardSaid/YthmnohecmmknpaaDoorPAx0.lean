/- A text of this claim. -/
import Derived.Test.YthmnohecmmknpaaDoorProg
import Derived.Below
import Derived.Deep.Draws
import Derived.Deep.AppendLies
import Derived.Maps.AppendAt
import Derived.OwnWalk
import Derived.Laws.BytesArg
import Derived.Laws.MakeOwn
import Derived.Laws.OwnMore
import Derived.Deep.OwnRows
import Derived.Tactics
import Derived.Lib.ConvBytes
import Derived.Laws.Slices
import Derived.WalkKit
import Derived.KernelRfl
import Derived.RowKit3
import Derived.Deep.LoopGhost
import Derived.Deep.QuietTactic
import Derived.BigQuiet
import Derived.WideLaws
import Derived.Deep.DeepCutAuto
import Derived.Deep.CutBlock
import Derived.Deep.RegionHeld3
import Derived.Laws.Rows
import Derived.Lib.AppendStr
import Derived.ArgAppend
import Derived.Laws.IdiomCopy
import Derived.OrdersHeld
import Derived.Laws.BitsLemmas
import Derived.RowKit
import Derived.Test.YthmnohecmmknpaaDoorGivenV
import Derived.Test.YthmnohecmmknpaaDoorWWords
import Derived.Test.YthmnohecmmknpaaDoorWLast
import Derived.Test.YthmnohecmmknpaaDoorWTab
import Derived.Test.YthmnohecmmknpaaDoorWFour
import Derived.Test.YthmnohecmmknpaaDoorWQPut
import Derived.Test.YthmnohecmmknpaaDoorWApart
import Derived.Test.YthmnohecmmknpaaDoorWArr
import Derived.Test.YthmnohecmmknpaaDoorWZeros
import Derived.Test.YthmnohecmmknpaaDoorWFoot
import Derived.Test.YthmnohecmmknpaaDoorWKept
import Derived.Test.YthmnohecmmknpaaDoorWShare
import Derived.Test.YthmnohecmmknpaaDoorWN
import Derived.Test.YthmnohecmmknpaaDoorWFootNe
import Derived.Test.YthmnohecmmknpaaDoorWAt
import Derived.Test.YthmnohecmmknpaaDoorWEqStruct
import Derived.Test.YthmnohecmmknpaaDoorWRepsOne
import Derived.Test.YthmnohecmmknpaaDoorWInv
import Derived.Test.YthmnohecmmknpaaDoorWInvWords
import Derived.Test.YthmnohecmmknpaaDoorWGuard
import Derived.Test.YthmnohecmmknpaaDoorWNEv
import Derived.Test.YthmnohecmmknpaaDoorWMore
namespace Go.Proofs.YthmnohecmmknpaaDoor.PA
open Go.RowKit Go.Proofs.YthmnohecmmknpaaDoor.Given Go.Proofs.YthmnohecmmknpaaDoorW.PrintWords Go.Proofs.YthmnohecmmknpaaDoorW.PrintLast Go.Proofs.YthmnohecmmknpaaDoorW.PrintMore
attribute [local go_sem] max2_int min2_int max_two min_two max_three min_three max_four min_four
set_option linter.unusedVariables false
set_option linter.unusedSimpArgs false
def errW : Option Int → Value
  | none => .nilIface
  | some c => .iface 0 (.int .i64 c)
theorem errW_none : errW none = .nilIface := rfl
theorem errW_some (c : Int) : errW (some c) = .iface 0 (.int .i64 c) := rfl
theorem info9 : (Tryd.prog.info? 9).map (fun i => (i.zero, i.size, i.bytes)) = some (some (.string ⟨#[]⟩), 1, 16) := by kernel_rfl
end Go.Proofs.YthmnohecmmknpaaDoor.PA
