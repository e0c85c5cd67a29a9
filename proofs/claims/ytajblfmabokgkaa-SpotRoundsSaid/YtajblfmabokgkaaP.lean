-- printed by the session's own program wip/xprint.py (over the kit's printer); nothing here is trusted: Lean checks it
import Derived.Test.YtajblfmabokgkaaP0
import Derived.Test.YtajblfmabokgkaaP1
namespace Go.Proofs.Ytajblfmabokgkaa.P
open Go.Proofs.YtajblfmabokgkaaR
open Go.RowKit Go.Proofs.YtajblfmabokgkaaW.PrintWords Go.Proofs.YtajblfmabokgkaaW.PrintLast Go.Proofs.YtajblfmabokgkaaW.PrintMore
attribute [local go_sem] max2_int min2_int max_two min_two max_three min_three max_four min_four   -- for this text's walks alone
set_option linter.unusedVariables false
set_option linter.unusedSimpArgs false

end Go.Proofs.Ytajblfmabokgkaa.P
