-- printed by the session's own program wip/xprint.py (over the kit's printer); nothing here is trusted: Lean checks it
import Derived.Test.YtlpjankfedhhjaaP0
import Derived.Test.YtlpjankfedhhjaaAlive
namespace Go.Proofs.Ytlpjankfedhhjaa.P
open Go.Proofs.YtlpjankfedhhjaaR
open Go.RowKit Go.Proofs.YtlpjankfedhhjaaW.PrintWords Go.Proofs.YtlpjankfedhhjaaW.PrintLast Go.Proofs.YtlpjankfedhhjaaW.PrintMore
attribute [local go_sem] max2_int min2_int max_two min_two max_three min_three max_four min_four   -- for this text's walks alone
set_option linter.unusedVariables false
set_option linter.unusedSimpArgs false

-- EXTERN 4 jitneylaw17_alive: by hand
def jitneylaw17_alive.f  : Option (Bool) := some true
theorem jitneylaw17_alive.calls  (r : Bool) (w : World) (h : jitneylaw17_alive.f  = some r) :
    Calls Try.prog 4 #[] w fun e w' => e = .returned (.bool r) ∧ Below w.heap.size w w' := by
  obtain rfl := Option.some.inj h
  exact jitneylaw17_alive.runs w

end Go.Proofs.Ytlpjankfedhhjaa.P
