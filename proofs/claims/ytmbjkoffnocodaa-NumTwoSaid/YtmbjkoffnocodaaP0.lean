-- printed by the session's own program wip/xprint.py (over the kit's printer); nothing here is trusted: Lean checks it
import Derived.Test.YtmbjkoffnocodaaProg
import Derived.Test.YtmbjkoffnocodaaHelp
import Derived.Test.YtmbjkoffnocodaaFl
import Derived.Below
import Derived.Deep.Draws
import Derived.Deep.AppendLies
import Derived.Maps.AppendAt
import Derived.OwnWalk
import Derived.Laws.BytesArg
import Derived.Laws.MakeOwn
import Derived.Laws.OwnMore
import Derived.Deep.OwnRows
import Derived.Tactics
import Derived.Lib.ConvBytes
import Derived.Laws.Slices
import Derived.WalkKit
import Derived.KernelRfl
import Derived.RowKit3
import Derived.Deep.LoopGhost
import Derived.Deep.QuietTactic
import Derived.BigQuiet
import Derived.WideLaws
import Derived.Deep.DeepCutAuto
import Derived.Deep.CutBlock
import Derived.Deep.RegionHeld3
import Derived.Laws.Rows
import Derived.Lib.AppendStr
import Derived.ArgAppend
import Derived.Laws.IdiomCopy
import Derived.OrdersHeld
import Derived.Laws.BitsLemmas
import Derived.RowKit
import Derived.Test.YtmbjkoffnocodaaWWords
import Derived.Test.YtmbjkoffnocodaaWLast
import Derived.Test.YtmbjkoffnocodaaWTab
import Derived.Test.YtmbjkoffnocodaaWFour
import Derived.Test.YtmbjkoffnocodaaWQPut
import Derived.Test.YtmbjkoffnocodaaWApart
import Derived.Test.YtmbjkoffnocodaaWArr
import Derived.Test.YtmbjkoffnocodaaWZeros
import Derived.Test.YtmbjkoffnocodaaWFoot
import Derived.Test.YtmbjkoffnocodaaWKept
import Derived.Test.YtmbjkoffnocodaaWShare
import Derived.Test.YtmbjkoffnocodaaWN
import Derived.Test.YtmbjkoffnocodaaWFootNe
import Derived.Test.YtmbjkoffnocodaaWAt
import Derived.Test.YtmbjkoffnocodaaWEqStruct
import Derived.Test.YtmbjkoffnocodaaWRepsOne
import Derived.Test.YtmbjkoffnocodaaWInv
import Derived.Test.YtmbjkoffnocodaaWInvWords
import Derived.Test.YtmbjkoffnocodaaWGuard
import Derived.Test.YtmbjkoffnocodaaWNEv
import Derived.Test.YtmbjkoffnocodaaWMore
namespace Go.Proofs.Ytmbjkoffnocodaa.P
open Go.Proofs.YtmbjkoffnocodaaR
open Go.RowKit Go.Proofs.YtmbjkoffnocodaaW.PrintWords Go.Proofs.YtmbjkoffnocodaaW.PrintLast Go.Proofs.YtmbjkoffnocodaaW.PrintMore
attribute [local go_sem] max2_int min2_int max_two min_two max_three min_three max_four min_four   -- for this text's walks alone
set_option linter.unusedVariables false
set_option linter.unusedSimpArgs false



def errW : Option Int → Value
  | none => .nilIface
  | some c => .iface 0 (.int .i64 c)
theorem errW_none : errW none = .nilIface := rfl
theorem errW_some (c : Int) : errW (some c) = .iface 0 (.int .i64 c) := rfl

theorem info2 : (Try.prog.info? 2).map (fun i => (i.zero, i.size, i.bytes)) = some (some (.int .i64 0), 1, 8) := by kernel_rfl
-- the values' own types

end Go.Proofs.Ytmbjkoffnocodaa.P
