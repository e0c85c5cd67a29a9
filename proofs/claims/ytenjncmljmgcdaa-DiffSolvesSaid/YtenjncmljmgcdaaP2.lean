-- printed by the session's own program wip/xprint.py (over the kit's printer); nothing here is trusted: Lean checks it
import Derived.Test.YtenjncmljmgcdaaIndex
import Derived.Test.YtenjncmljmgcdaaP0
namespace Go.Proofs.Ytenjncmljmgcdaa.P
open Go.Proofs.YtenjncmljmgcdaaR
open Go.RowKit Go.Proofs.YtenjncmljmgcdaaW.PrintWords Go.Proofs.YtenjncmljmgcdaaW.PrintLast Go.Proofs.YtenjncmljmgcdaaW.PrintMore
attribute [local go_sem] max2_int min2_int max_two min_two max_three min_three max_four min_four   -- for this text's walks alone
set_option linter.unusedVariables false
set_option linter.unusedSimpArgs false

-- EXTERN 11 diff_Right: by hand
def diff_Right.f (a0 : Int) (l1 : List (S42)) : Option (Bool) := some (rightB a0 l1)
theorem diff_Right.calls (a0 : Int) (A1 : Option Addr) (c1 : Nat) (l1 : List (S42)) (r : Bool) (w : World) (hr1 : Kd.C k42 w A1 l1.length l1) (hc1 : l1.length ≤ c1) (h : diff_Right.f a0 l1 = some r) :
    Calls Try.prog 11 #[.int .i64 a0, .slice A1 l1.length c1] w fun e w' => e = .returned (.bool r) ∧ Below w.heap.size w w'  := by
  obtain rfl := Option.some.inj h
  exact diff_Right.runs a0 A1 c1 l1 w hr1 hc1

end Go.Proofs.Ytenjncmljmgcdaa.P
