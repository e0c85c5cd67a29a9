/-
  No cell of these rows narrows 'for every input' (looked for: loops, veiled, ifaces, maps, wideKeys, modest, calm, conditions, laid).
  DERIVED. THE GIVEN ROWS OF THIS SEAT. 4 by the template 'for every input the law returns true; each argument reads behind the call as it read before'; 0 by the template 'total and deterministic' (their statements: YtajblfmabokgkaaTotals.lean).
  GIVEN WITH THE SEED: the statements are not yours to turn. If you find one false, say at which input.
  Laid BY PROGRAM, IN A SANDBOX (cutbox-rows.mjs): the forced cells as the released guide's own fill.sh prints them over the translation 5f039d2b67551870… (all of the seat's roots in one cut). By AI agents, Wed Nov 11 2026. No macro, syntax, notation, axiom, sorry.
-/
import Derived.Test.YtajblfmabokgkaaChecked
import GoSem.Claim
import GoSem.ClaimJoined
import GoSem.ClaimMapViews
import Derived.JoinedTies
import Derived.KernelRfl
namespace Go.Proofs.Ytajblfmabokgkaa
/- THE CELL 'sum', in the pinned program and in every row, IS THE sha256 OF THE DUMP (.gsa) THAT YtajblfmabokgkaaProg.lean LOADS. Nothing in Lean hashes anything: it is a label: what it is worth is what the hold of that sum in a sandbox is worth. -/
noncomputable def Try.pinned : Pinned := { name := "ytajblfmabokgkaa", sum := "5f039d2b675518700e61a4f2a1e1b630b69122f1ff96d955ea88dbd6def29a60", checked := Try.checked }
namespace Rows
def none {H : Type} : Left H := { results := [], args := [] }

/-- 'jitneylaw02.SpotWays': WHATEVER THE INPUT: true; the input reads as it did. -/
def spotWaysSpec : ChangeSpec := { name := "spotWays", fn := fun _ => fun
  | [d1, d2, d3, d4, d5, d6] => { results := [.lit (.bool true)], args := [d1, d2, d3, d4, d5, d6] }
  | _ => none }
def spotWaysRow : OpenClaim := { program := "ytajblfmabokgkaa", sum := "5f039d2b675518700e61a4f2a1e1b630b69122f1ff96d955ea88dbd6def29a60", func := "jitney/jitneylaw02.SpotWays", spec := "spotWays", inPlace := ["math.Float64bits", "math.Float64frombits", "math.archTrunc", "math.sqrt"], unfollowed := true, recurses := true, apart := false }
def SpotWaysSaid : Prop := spotWaysRow.holds Try.pinned (OpenSpec.ofChange spotWaysSpec)

/-- ITS FALSE NEIGHBOUR: 'it returns false'. Refute it at one input. -/
def spotWaysWrong : ChangeSpec := { name := "spotWays", fn := fun _ => fun
  | [d1, d2, d3, d4, d5, d6] => { results := [.lit (.bool false)], args := [d1, d2, d3, d4, d5, d6] }
  | _ => none }
def SpotWaysWrongFalsely : Prop := spotWaysRow.holds Try.pinned (OpenSpec.ofChange spotWaysWrong)

/-- 'jitneylaw02.SpotRounds': WHATEVER THE INPUT: true; the input reads as it did. -/
def spotRoundsSpec : ChangeSpec := { name := "spotRounds", fn := fun _ => fun
  | [d1, d2, d3, d4] => { results := [.lit (.bool true)], args := [d1, d2, d3, d4] }
  | _ => none }
def spotRoundsRow : OpenClaim := { program := "ytajblfmabokgkaa", sum := "5f039d2b675518700e61a4f2a1e1b630b69122f1ff96d955ea88dbd6def29a60", func := "jitney/jitneylaw02.SpotRounds", spec := "spotRounds", inPlace := ["math.Float64bits", "math.Float64frombits", "math.archTrunc", "math.sqrt"], unfollowed := true, recurses := true, apart := false }
def SpotRoundsSaid : Prop := spotRoundsRow.holds Try.pinned (OpenSpec.ofChange spotRoundsSpec)

/-- ITS FALSE NEIGHBOUR: 'it returns false'. Refute it at one input. -/
def spotRoundsWrong : ChangeSpec := { name := "spotRounds", fn := fun _ => fun
  | [d1, d2, d3, d4] => { results := [.lit (.bool false)], args := [d1, d2, d3, d4] }
  | _ => none }
def SpotRoundsWrongFalsely : Prop := spotRoundsRow.holds Try.pinned (OpenSpec.ofChange spotRoundsWrong)

/-- 'jitneylaw02.SpotTurns': WHATEVER THE INPUT: true; the input reads as it did. -/
def spotTurnsSpec : ChangeSpec := { name := "spotTurns", fn := fun _ => fun
  | [d1, d2, d3, d4, d5, d6] => { results := [.lit (.bool true)], args := [d1, d2, d3, d4, d5, d6] }
  | _ => none }
def spotTurnsRow : OpenClaim := { program := "ytajblfmabokgkaa", sum := "5f039d2b675518700e61a4f2a1e1b630b69122f1ff96d955ea88dbd6def29a60", func := "jitney/jitneylaw02.SpotTurns", spec := "spotTurns", inPlace := ["math.Float64bits", "math.Float64frombits", "math.archTrunc", "math.sqrt"], unfollowed := true, recurses := true, apart := false }
def SpotTurnsSaid : Prop := spotTurnsRow.holds Try.pinned (OpenSpec.ofChange spotTurnsSpec)

/-- ITS FALSE NEIGHBOUR: 'it returns false'. Refute it at one input. -/
def spotTurnsWrong : ChangeSpec := { name := "spotTurns", fn := fun _ => fun
  | [d1, d2, d3, d4, d5, d6] => { results := [.lit (.bool false)], args := [d1, d2, d3, d4, d5, d6] }
  | _ => none }
def SpotTurnsWrongFalsely : Prop := spotTurnsRow.holds Try.pinned (OpenSpec.ofChange spotTurnsWrong)

/-- 'jitneylaw02.SpotRoots': WHATEVER THE INPUT: true; the input reads as it did. -/
def spotRootsSpec : ChangeSpec := { name := "spotRoots", fn := fun _ => fun
  | [d1, d2] => { results := [.lit (.bool true)], args := [d1, d2] }
  | _ => none }
def spotRootsRow : OpenClaim := { program := "ytajblfmabokgkaa", sum := "5f039d2b675518700e61a4f2a1e1b630b69122f1ff96d955ea88dbd6def29a60", func := "jitney/jitneylaw02.SpotRoots", spec := "spotRoots", inPlace := ["math.Float64bits", "math.Float64frombits", "math.archTrunc", "math.sqrt"], unfollowed := true, recurses := true, apart := false }
def SpotRootsSaid : Prop := spotRootsRow.holds Try.pinned (OpenSpec.ofChange spotRootsSpec)

/-- ITS FALSE NEIGHBOUR: 'it returns false'. Refute it at one input. -/
def spotRootsWrong : ChangeSpec := { name := "spotRoots", fn := fun _ => fun
  | [d1, d2] => { results := [.lit (.bool false)], args := [d1, d2] }
  | _ => none }
def SpotRootsWrongFalsely : Prop := spotRootsRow.holds Try.pinned (OpenSpec.ofChange spotRootsWrong)

/- THE SECOND FORM. 'bulk': how many values and letters a reading holds, each counted each time it is reached (what is shared counts as often as it is met; a slice's spare places count too). A statement '..UptoSaid' is the law's where the arguments, and the package variables that the reading takes, are together of bulk at most 1048576: NARROWER than '..Said'. Prove '..Said' where nothing that the law and all that it calls make is longer than what came in: it says more and counts as full. Else prove '..UptoSaid'. A law counts once. -/
mutual
def uptoBulk {H : Type} : DataW H → Nat
  | .lit (.string bytes) => bytes.length + 1
  | .lit _ => 1
  | .nil => 1
  | .ptr d => uptoBulk d + 1
  | .slice elems spare => uptoBulkAll elems + uptoBulkAll spare + 1
  | .agg parts => uptoBulkAll parts + 1
  | .iface _ d => uptoBulk d + 1
  | .map entries => uptoBulkEntries entries + 1
  | .held _ => 1
def uptoBulkAll {H : Type} : List (DataW H) → Nat
  | [] => 0
  | d :: r => uptoBulk d + uptoBulkAll r
def uptoBulkEntries {H : Type} : List (Lit × DataW H) → Nat
  | [] => 0
  | x :: r => uptoBulkEntry x + uptoBulkEntries r
def uptoBulkEntry {H : Type} : Lit × DataW H → Nat
  | (.string bytes, d) => bytes.length + uptoBulk d + 1
  | (_, d) => uptoBulk d + 1
 end
def uptoSmall : (H : Type) → List (DataW H) → Bool := fun _ ds => decide (uptoBulkAll ds ≤ 1048576)
def OpenSpec.upto (s : _root_.Go.ChangeSpec) : _root_.Go.OpenSpec := { _root_.Go.OpenSpec.ofChange s with cond := some uptoSmall }

/-- 'jitneylaw02.SpotWays', WHERE WHAT IT READS IS OF BULK AT MOST 1048576: true; the input reads as it did. -/
def spotWaysUptoRow : OpenClaim := { program := "ytajblfmabokgkaa", sum := "5f039d2b675518700e61a4f2a1e1b630b69122f1ff96d955ea88dbd6def29a60", func := "jitney/jitneylaw02.SpotWays", spec := "spotWays", inPlace := ["math.Float64bits", "math.Float64frombits", "math.archTrunc", "math.sqrt"], unfollowed := true, recurses := true, apart := false, narrowed := true }
def SpotWaysUptoSaid : Prop := spotWaysUptoRow.holds Try.pinned (OpenSpec.upto spotWaysSpec)

/-- 'jitneylaw02.SpotRounds', WHERE WHAT IT READS IS OF BULK AT MOST 1048576: true; the input reads as it did. -/
def spotRoundsUptoRow : OpenClaim := { program := "ytajblfmabokgkaa", sum := "5f039d2b675518700e61a4f2a1e1b630b69122f1ff96d955ea88dbd6def29a60", func := "jitney/jitneylaw02.SpotRounds", spec := "spotRounds", inPlace := ["math.Float64bits", "math.Float64frombits", "math.archTrunc", "math.sqrt"], unfollowed := true, recurses := true, apart := false, narrowed := true }
def SpotRoundsUptoSaid : Prop := spotRoundsUptoRow.holds Try.pinned (OpenSpec.upto spotRoundsSpec)

/-- 'jitneylaw02.SpotTurns', WHERE WHAT IT READS IS OF BULK AT MOST 1048576: true; the input reads as it did. -/
def spotTurnsUptoRow : OpenClaim := { program := "ytajblfmabokgkaa", sum := "5f039d2b675518700e61a4f2a1e1b630b69122f1ff96d955ea88dbd6def29a60", func := "jitney/jitneylaw02.SpotTurns", spec := "spotTurns", inPlace := ["math.Float64bits", "math.Float64frombits", "math.archTrunc", "math.sqrt"], unfollowed := true, recurses := true, apart := false, narrowed := true }
def SpotTurnsUptoSaid : Prop := spotTurnsUptoRow.holds Try.pinned (OpenSpec.upto spotTurnsSpec)

/-- 'jitneylaw02.SpotRoots', WHERE WHAT IT READS IS OF BULK AT MOST 1048576: true; the input reads as it did. -/
def spotRootsUptoRow : OpenClaim := { program := "ytajblfmabokgkaa", sum := "5f039d2b675518700e61a4f2a1e1b630b69122f1ff96d955ea88dbd6def29a60", func := "jitney/jitneylaw02.SpotRoots", spec := "spotRoots", inPlace := ["math.Float64bits", "math.Float64frombits", "math.archTrunc", "math.sqrt"], unfollowed := true, recurses := true, apart := false, narrowed := true }
def SpotRootsUptoSaid : Prop := spotRootsUptoRow.holds Try.pinned (OpenSpec.upto spotRootsSpec)

end Rows
end Go.Proofs.Ytajblfmabokgkaa
