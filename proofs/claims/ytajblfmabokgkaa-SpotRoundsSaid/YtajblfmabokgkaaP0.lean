-- printed by the session's own program wip/xprint.py (over the kit's printer); nothing here is trusted: Lean checks it
import Derived.Test.YtajblfmabokgkaaProg
import Derived.Test.YtajblfmabokgkaaHelp
import Derived.Below
import Derived.Deep.Draws
import Derived.Deep.AppendLies
import Derived.Maps.AppendAt
import Derived.OwnWalk
import Derived.Laws.BytesArg
import Derived.Laws.MakeOwn
import Derived.Laws.OwnMore
import Derived.Deep.OwnRows
import Derived.Tactics
import Derived.Lib.ConvBytes
import Derived.Laws.Slices
import Derived.WalkKit
import Derived.KernelRfl
import Derived.RowKit3
import Derived.Deep.LoopGhost
import Derived.Deep.QuietTactic
import Derived.BigQuiet
import Derived.WideLaws
import Derived.Deep.DeepCutAuto
import Derived.Deep.CutBlock
import Derived.Deep.RegionHeld3
import Derived.Laws.Rows
import Derived.Lib.AppendStr
import Derived.ArgAppend
import Derived.Laws.IdiomCopy
import Derived.OrdersHeld
import Derived.Laws.BitsLemmas
import Derived.RowKit
import Derived.Test.YtajblfmabokgkaaWWords
import Derived.Test.YtajblfmabokgkaaWLast
import Derived.Test.YtajblfmabokgkaaWTab
import Derived.Test.YtajblfmabokgkaaWFour
import Derived.Test.YtajblfmabokgkaaWQPut
import Derived.Test.YtajblfmabokgkaaWApart
import Derived.Test.YtajblfmabokgkaaWArr
import Derived.Test.YtajblfmabokgkaaWZeros
import Derived.Test.YtajblfmabokgkaaWFoot
import Derived.Test.YtajblfmabokgkaaWKept
import Derived.Test.YtajblfmabokgkaaWShare
import Derived.Test.YtajblfmabokgkaaWN
import Derived.Test.YtajblfmabokgkaaWFootNe
import Derived.Test.YtajblfmabokgkaaWAt
import Derived.Test.YtajblfmabokgkaaWEqStruct
import Derived.Test.YtajblfmabokgkaaWRepsOne
import Derived.Test.YtajblfmabokgkaaWInv
import Derived.Test.YtajblfmabokgkaaWInvWords
import Derived.Test.YtajblfmabokgkaaWGuard
import Derived.Test.YtajblfmabokgkaaWNEv
import Derived.Test.YtajblfmabokgkaaWMore
namespace Go.Proofs.Ytajblfmabokgkaa.P
open Go.Proofs.YtajblfmabokgkaaR
open Go.RowKit Go.Proofs.YtajblfmabokgkaaW.PrintWords Go.Proofs.YtajblfmabokgkaaW.PrintLast Go.Proofs.YtajblfmabokgkaaW.PrintMore
attribute [local go_sem] max2_int min2_int max_two min_two max_three min_three max_four min_four   -- for this text's walks alone
set_option linter.unusedVariables false
set_option linter.unusedSimpArgs false



def errW : Option Int → Value
  | none => .nilIface
  | some c => .iface 0 (.int .i64 c)
theorem errW_none : errW none = .nilIface := rfl
theorem errW_some (c : Int) : errW (some c) = .iface 0 (.int .i64 c) := rfl

-- the values' own types

end Go.Proofs.Ytajblfmabokgkaa.P
