/-
  No cell of these rows narrows 'for every input' (looked for: loops, veiled, ifaces, maps, wideKeys, modest, calm, conditions, laid).
  DERIVED. THE GIVEN ROWS OF THIS SEAT. 5 by the template 'for every input the law returns true; each argument reads behind the call as it read before'; 0 by the template 'total and deterministic' (their statements: YtenjncmljmgcdaaTotals.lean).
  GIVEN WITH THE SEED: the statements are not yours to turn. If you find one false, say at which input.
  Laid BY PROGRAM, IN A SANDBOX (cutbox-rows.mjs): the forced cells as the released guide's own fill.sh prints them over the translation f614394bc8bfcd93… (all of the seat's roots in one cut). By AI agents, Wed Nov 11 2026. No macro, syntax, notation, axiom, sorry.
-/
import Derived.Test.YtenjncmljmgcdaaChecked
import GoSem.Claim
import GoSem.ClaimJoined
import GoSem.ClaimMapViews
import Derived.JoinedTies
import Derived.KernelRfl
namespace Go.Proofs.Ytenjncmljmgcdaa
/- THE CELL 'sum', in the pinned program and in every row, IS THE sha256 OF THE DUMP (.gsa) THAT YtenjncmljmgcdaaProg.lean LOADS. Nothing in Lean hashes anything: it is a label: what it is worth is what the hold of that sum in a sandbox is worth. -/
noncomputable def Try.pinned : Pinned := { name := "ytenjncmljmgcdaa", sum := "f614394bc8bfcd9303d15b5637fef2b3acb8ad433add27efa628a11167de0afe", checked := Try.checked }
namespace Rows
def none {H : Type} : Left H := { results := [], args := [] }

/-- 'jitneylaw07.DiffSolves': WHATEVER THE INPUT: true; the input reads as it did. -/
def diffSolvesSpec : ChangeSpec := { name := "diffSolves", fn := fun _ => fun
  | [d1, d2, d3] => { results := [.lit (.bool true)], args := [d1, d2, d3] }
  | _ => none }
def diffSolvesRow : OpenClaim := { program := "ytenjncmljmgcdaa", sum := "f614394bc8bfcd9303d15b5637fef2b3acb8ad433add27efa628a11167de0afe", func := "jitney/jitneylaw07.DiffSolves", spec := "diffSolves", unfollowed := true, recurses := true, apart := false }
def DiffSolvesSaid : Prop := diffSolvesRow.holds Try.pinned (OpenSpec.ofChange diffSolvesSpec)

/-- ITS FALSE NEIGHBOUR: 'it returns false'. Refute it at one input. -/
def diffSolvesWrong : ChangeSpec := { name := "diffSolves", fn := fun _ => fun
  | [d1, d2, d3] => { results := [.lit (.bool false)], args := [d1, d2, d3] }
  | _ => none }
def DiffSolvesWrongFalsely : Prop := diffSolvesRow.holds Try.pinned (OpenSpec.ofChange diffSolvesWrong)

/-- 'jitneylaw07.DiffWays': WHATEVER THE INPUT: true; the input reads as it did. -/
def diffWaysSpec : ChangeSpec := { name := "diffWays", fn := fun _ => fun
  | [d1, d2, d3, d4] => { results := [.lit (.bool true)], args := [d1, d2, d3, d4] }
  | _ => none }
def diffWaysRow : OpenClaim := { program := "ytenjncmljmgcdaa", sum := "f614394bc8bfcd9303d15b5637fef2b3acb8ad433add27efa628a11167de0afe", func := "jitney/jitneylaw07.DiffWays", spec := "diffWays", unfollowed := true, recurses := true, apart := false }
def DiffWaysSaid : Prop := diffWaysRow.holds Try.pinned (OpenSpec.ofChange diffWaysSpec)

/-- ITS FALSE NEIGHBOUR: 'it returns false'. Refute it at one input. -/
def diffWaysWrong : ChangeSpec := { name := "diffWays", fn := fun _ => fun
  | [d1, d2, d3, d4] => { results := [.lit (.bool false)], args := [d1, d2, d3, d4] }
  | _ => none }
def DiffWaysWrongFalsely : Prop := diffWaysRow.holds Try.pinned (OpenSpec.ofChange diffWaysWrong)

/-- 'jitneylaw07.DiffHolds': WHATEVER THE INPUT: true; the input reads as it did. -/
def diffHoldsSpec : ChangeSpec := { name := "diffHolds", fn := fun _ => fun
  | [d1, d2, d3, d4] => { results := [.lit (.bool true)], args := [d1, d2, d3, d4] }
  | _ => none }
def diffHoldsRow : OpenClaim := { program := "ytenjncmljmgcdaa", sum := "f614394bc8bfcd9303d15b5637fef2b3acb8ad433add27efa628a11167de0afe", func := "jitney/jitneylaw07.DiffHolds", spec := "diffHolds", unfollowed := true, recurses := true, apart := false }
def DiffHoldsSaid : Prop := diffHoldsRow.holds Try.pinned (OpenSpec.ofChange diffHoldsSpec)

/-- ITS FALSE NEIGHBOUR: 'it returns false'. Refute it at one input. -/
def diffHoldsWrong : ChangeSpec := { name := "diffHolds", fn := fun _ => fun
  | [d1, d2, d3, d4] => { results := [.lit (.bool false)], args := [d1, d2, d3, d4] }
  | _ => none }
def DiffHoldsWrongFalsely : Prop := diffHoldsRow.holds Try.pinned (OpenSpec.ofChange diffHoldsWrong)

/-- 'jitneylaw07.DiffEdges': WHATEVER THE INPUT: true; the input reads as it did. -/
def diffEdgesSpec : ChangeSpec := { name := "diffEdges", fn := fun _ => fun
  | [d1, d2, d3, d4] => { results := [.lit (.bool true)], args := [d1, d2, d3, d4] }
  | _ => none }
def diffEdgesRow : OpenClaim := { program := "ytenjncmljmgcdaa", sum := "f614394bc8bfcd9303d15b5637fef2b3acb8ad433add27efa628a11167de0afe", func := "jitney/jitneylaw07.DiffEdges", spec := "diffEdges", unfollowed := true, recurses := true, apart := false }
def DiffEdgesSaid : Prop := diffEdgesRow.holds Try.pinned (OpenSpec.ofChange diffEdgesSpec)

/-- ITS FALSE NEIGHBOUR: 'it returns false'. Refute it at one input. -/
def diffEdgesWrong : ChangeSpec := { name := "diffEdges", fn := fun _ => fun
  | [d1, d2, d3, d4] => { results := [.lit (.bool false)], args := [d1, d2, d3, d4] }
  | _ => none }
def DiffEdgesWrongFalsely : Prop := diffEdgesRow.holds Try.pinned (OpenSpec.ofChange diffEdgesWrong)

/-- 'jitneylaw07.DiffShifts': WHATEVER THE INPUT: true; the input reads as it did. -/
def diffShiftsSpec : ChangeSpec := { name := "diffShifts", fn := fun _ => fun
  | [d1, d2, d3, d4] => { results := [.lit (.bool true)], args := [d1, d2, d3, d4] }
  | _ => none }
def diffShiftsRow : OpenClaim := { program := "ytenjncmljmgcdaa", sum := "f614394bc8bfcd9303d15b5637fef2b3acb8ad433add27efa628a11167de0afe", func := "jitney/jitneylaw07.DiffShifts", spec := "diffShifts", unfollowed := true, recurses := true, apart := false }
def DiffShiftsSaid : Prop := diffShiftsRow.holds Try.pinned (OpenSpec.ofChange diffShiftsSpec)

/-- ITS FALSE NEIGHBOUR: 'it returns false'. Refute it at one input. -/
def diffShiftsWrong : ChangeSpec := { name := "diffShifts", fn := fun _ => fun
  | [d1, d2, d3, d4] => { results := [.lit (.bool false)], args := [d1, d2, d3, d4] }
  | _ => none }
def DiffShiftsWrongFalsely : Prop := diffShiftsRow.holds Try.pinned (OpenSpec.ofChange diffShiftsWrong)

/- THE SECOND FORM. 'bulk': how many values and letters a reading holds, each counted each time it is reached (what is shared counts as often as it is met; a slice's spare places count too). A statement '..UptoSaid' is the law's where the arguments, and the package variables that the reading takes, are together of bulk at most 1048576: NARROWER than '..Said'. Prove '..Said' where nothing that the law and all that it calls make is longer than what came in: it says more and counts as full. Else prove '..UptoSaid'. A law counts once. -/
mutual
def uptoBulk {H : Type} : DataW H → Nat
  | .lit (.string bytes) => bytes.length + 1
  | .lit _ => 1
  | .nil => 1
  | .ptr d => uptoBulk d + 1
  | .slice elems spare => uptoBulkAll elems + uptoBulkAll spare + 1
  | .agg parts => uptoBulkAll parts + 1
  | .iface _ d => uptoBulk d + 1
  | .map entries => uptoBulkEntries entries + 1
  | .held _ => 1
def uptoBulkAll {H : Type} : List (DataW H) → Nat
  | [] => 0
  | d :: r => uptoBulk d + uptoBulkAll r
def uptoBulkEntries {H : Type} : List (Lit × DataW H) → Nat
  | [] => 0
  | x :: r => uptoBulkEntry x + uptoBulkEntries r
def uptoBulkEntry {H : Type} : Lit × DataW H → Nat
  | (.string bytes, d) => bytes.length + uptoBulk d + 1
  | (_, d) => uptoBulk d + 1
 end
def uptoSmall : (H : Type) → List (DataW H) → Bool := fun _ ds => decide (uptoBulkAll ds ≤ 1048576)
def OpenSpec.upto (s : _root_.Go.ChangeSpec) : _root_.Go.OpenSpec := { _root_.Go.OpenSpec.ofChange s with cond := some uptoSmall }

/-- 'jitneylaw07.DiffSolves', WHERE WHAT IT READS IS OF BULK AT MOST 1048576: true; the input reads as it did. -/
def diffSolvesUptoRow : OpenClaim := { program := "ytenjncmljmgcdaa", sum := "f614394bc8bfcd9303d15b5637fef2b3acb8ad433add27efa628a11167de0afe", func := "jitney/jitneylaw07.DiffSolves", spec := "diffSolves", unfollowed := true, recurses := true, apart := false, narrowed := true }
def DiffSolvesUptoSaid : Prop := diffSolvesUptoRow.holds Try.pinned (OpenSpec.upto diffSolvesSpec)

/-- 'jitneylaw07.DiffWays', WHERE WHAT IT READS IS OF BULK AT MOST 1048576: true; the input reads as it did. -/
def diffWaysUptoRow : OpenClaim := { program := "ytenjncmljmgcdaa", sum := "f614394bc8bfcd9303d15b5637fef2b3acb8ad433add27efa628a11167de0afe", func := "jitney/jitneylaw07.DiffWays", spec := "diffWays", unfollowed := true, recurses := true, apart := false, narrowed := true }
def DiffWaysUptoSaid : Prop := diffWaysUptoRow.holds Try.pinned (OpenSpec.upto diffWaysSpec)

/-- 'jitneylaw07.DiffHolds', WHERE WHAT IT READS IS OF BULK AT MOST 1048576: true; the input reads as it did. -/
def diffHoldsUptoRow : OpenClaim := { program := "ytenjncmljmgcdaa", sum := "f614394bc8bfcd9303d15b5637fef2b3acb8ad433add27efa628a11167de0afe", func := "jitney/jitneylaw07.DiffHolds", spec := "diffHolds", unfollowed := true, recurses := true, apart := false, narrowed := true }
def DiffHoldsUptoSaid : Prop := diffHoldsUptoRow.holds Try.pinned (OpenSpec.upto diffHoldsSpec)

/-- 'jitneylaw07.DiffEdges', WHERE WHAT IT READS IS OF BULK AT MOST 1048576: true; the input reads as it did. -/
def diffEdgesUptoRow : OpenClaim := { program := "ytenjncmljmgcdaa", sum := "f614394bc8bfcd9303d15b5637fef2b3acb8ad433add27efa628a11167de0afe", func := "jitney/jitneylaw07.DiffEdges", spec := "diffEdges", unfollowed := true, recurses := true, apart := false, narrowed := true }
def DiffEdgesUptoSaid : Prop := diffEdgesUptoRow.holds Try.pinned (OpenSpec.upto diffEdgesSpec)

/-- 'jitneylaw07.DiffShifts', WHERE WHAT IT READS IS OF BULK AT MOST 1048576: true; the input reads as it did. -/
def diffShiftsUptoRow : OpenClaim := { program := "ytenjncmljmgcdaa", sum := "f614394bc8bfcd9303d15b5637fef2b3acb8ad433add27efa628a11167de0afe", func := "jitney/jitneylaw07.DiffShifts", spec := "diffShifts", unfollowed := true, recurses := true, apart := false, narrowed := true }
def DiffShiftsUptoSaid : Prop := diffShiftsUptoRow.holds Try.pinned (OpenSpec.upto diffShiftsSpec)

end Rows
end Go.Proofs.Ytenjncmljmgcdaa
