-- printed by the session's own program wip/xprint.py (over the kit's printer); nothing here is trusted: Lean checks it
import Derived.Test.YtfhpppibiemhkaaDoorProg
import Derived.Test.YtfhpppibiemhkaaDoorHelp
import Derived.Below
import Derived.Deep.Draws
import Derived.Deep.AppendLies
import Derived.Maps.AppendAt
import Derived.OwnWalk
import Derived.Laws.BytesArg
import Derived.Laws.MakeOwn
import Derived.Laws.OwnMore
import Derived.Deep.OwnRows
import Derived.Tactics
import Derived.Lib.ConvBytes
import Derived.Laws.Slices
import Derived.WalkKit
import Derived.KernelRfl
import Derived.RowKit3
import Derived.Deep.LoopGhost
import Derived.Deep.QuietTactic
import Derived.BigQuiet
import Derived.WideLaws
import Derived.Deep.DeepCutAuto
import Derived.Deep.CutBlock
import Derived.Deep.RegionHeld3
import Derived.Laws.Rows
import Derived.Lib.AppendStr
import Derived.ArgAppend
import Derived.Laws.IdiomCopy
import Derived.OrdersHeld
import Derived.Laws.BitsLemmas
import Derived.RowKit
import Derived.Test.YtfhpppibiemhkaaDoorWWords
import Derived.Test.YtfhpppibiemhkaaDoorWLast
import Derived.Test.YtfhpppibiemhkaaDoorWTab
import Derived.Test.YtfhpppibiemhkaaDoorWFour
import Derived.Test.YtfhpppibiemhkaaDoorWQPut
import Derived.Test.YtfhpppibiemhkaaDoorWApart
import Derived.Test.YtfhpppibiemhkaaDoorWArr
import Derived.Test.YtfhpppibiemhkaaDoorWZeros
import Derived.Test.YtfhpppibiemhkaaDoorWFoot
import Derived.Test.YtfhpppibiemhkaaDoorWKept
import Derived.Test.YtfhpppibiemhkaaDoorWShare
import Derived.Test.YtfhpppibiemhkaaDoorWN
import Derived.Test.YtfhpppibiemhkaaDoorWFootNe
import Derived.Test.YtfhpppibiemhkaaDoorWAt
import Derived.Test.YtfhpppibiemhkaaDoorWEqStruct
import Derived.Test.YtfhpppibiemhkaaDoorWRepsOne
import Derived.Test.YtfhpppibiemhkaaDoorWInv
import Derived.Test.YtfhpppibiemhkaaDoorWInvWords
import Derived.Test.YtfhpppibiemhkaaDoorWGuard
import Derived.Test.YtfhpppibiemhkaaDoorWNEv
import Derived.Test.YtfhpppibiemhkaaDoorWMore
namespace Go.Proofs.YtfhpppibiemhkaaDoor.P
open Go.Proofs.YtfhpppibiemhkaaDoorR
open Go.RowKit Go.Proofs.YtfhpppibiemhkaaDoorW.PrintWords Go.Proofs.YtfhpppibiemhkaaDoorW.PrintLast Go.Proofs.YtfhpppibiemhkaaDoorW.PrintMore
attribute [local go_sem] max2_int min2_int max_two min_two max_three min_three max_four min_four   -- for this text's walks alone
set_option linter.unusedVariables false
set_option linter.unusedSimpArgs false



def errW : Option Int → Value
  | none => .nilIface
  | some c => .iface 0 (.int .i64 c)
theorem errW_none : errW none = .nilIface := rfl
theorem errW_some (c : Int) : errW (some c) = .iface 0 (.int .i64 c) := rfl

theorem info9 : (Tryd.prog.info? 9).map (fun i => (i.zero, i.size, i.bytes)) = some (some (.string ⟨#[]⟩), 1, 16) := by kernel_rfl
-- the values' own types

end Go.Proofs.YtfhpppibiemhkaaDoor.P
