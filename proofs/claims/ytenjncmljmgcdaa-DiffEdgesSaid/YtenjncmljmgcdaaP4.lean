-- printed by the session's own program wip/xprint.py (over the kit's printer); nothing here is trusted: Lean checks it
import Derived.Test.YtenjncmljmgcdaaSolve
import Derived.Test.YtenjncmljmgcdaaP0
namespace Go.Proofs.Ytenjncmljmgcdaa.P
open Go.Proofs.YtenjncmljmgcdaaR
open Go.RowKit Go.Proofs.YtenjncmljmgcdaaW.PrintWords Go.Proofs.YtenjncmljmgcdaaW.PrintLast Go.Proofs.YtenjncmljmgcdaaW.PrintMore
attribute [local go_sem] max2_int min2_int max_two min_two max_three min_three max_four min_four   -- for this text's walks alone
set_option linter.unusedVariables false
set_option linter.unusedSimpArgs false

-- EXTERN 9 diff_Solve: by hand
def diff_Solve.f (a0 : Int) (l1 : List (S42)) (a2 : Int) : Option (List Int × List Int × Int) := solveF a0 l1 a2
theorem diff_Solve.calls (a0 : Int) (A1 : Option Addr) (c1 : Nat) (l1 : List (S42)) (a2 : Int) (r1 : List Int) (r2 : List Int) (r3 : Int) (w : World) (hr1 : Kd.C k42 w A1 l1.length l1) (hc1 : l1.length ≤ c1) (h : diff_Solve.f a0 l1 a2 = some (r1, r2, r3)) :
    Calls Try.prog 9 #[.int .i64 a0, .slice A1 l1.length c1, .int .i64 a2] w fun e w' => ∃ v0_ v1_ : Value, e = .returned (.tuple #[v0_, v1_, .int .i64 r3]) ∧ Kd.R (Kd.int .i64) 2 w' w.heap.size (fun _ => True) v0_ r1 ∧ Kd.R (Kd.int .i64) 3 w' w.heap.size (fun _ => True) v1_ r2 ∧ Below w.heap.size w w'  :=
  diff_Solve.runs a0 A1 c1 l1 a2 r1 r2 r3 w hr1 hc1 h

end Go.Proofs.Ytenjncmljmgcdaa.P
