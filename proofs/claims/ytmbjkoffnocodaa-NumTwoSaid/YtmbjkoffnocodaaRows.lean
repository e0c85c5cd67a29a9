/-
  No cell of these rows narrows 'for every input' (looked for: loops, veiled, ifaces, maps, wideKeys, modest, calm, conditions, laid).
  DERIVED. THE GIVEN ROWS OF THIS SEAT. 6 by the template 'for every input the law returns true; each argument reads behind the call as it read before'; 0 by the template 'total and deterministic' (their statements: YtmbjkoffnocodaaTotals.lean).
  GIVEN WITH THE SEED: the statements are not yours to turn. If you find one false, say at which input.
  Laid BY PROGRAM, IN A SANDBOX (cutbox-rows.mjs): the forced cells as the released guide's own fill.sh prints them over the translation 31d1d01133474d61… (all of the seat's roots in one cut). By AI agents, Wed Nov 11 2026. No macro, syntax, notation, axiom, sorry.
-/
import Derived.Test.YtmbjkoffnocodaaChecked
import GoSem.Claim
import GoSem.ClaimJoined
import GoSem.ClaimMapViews
import Derived.JoinedTies
import Derived.KernelRfl
namespace Go.Proofs.Ytmbjkoffnocodaa
/- THE CELL 'sum', in the pinned program and in every row, IS THE sha256 OF THE DUMP (.gsa) THAT YtmbjkoffnocodaaProg.lean LOADS. Nothing in Lean hashes anything: it is a label: what it is worth is what the hold of that sum in a sandbox is worth. -/
noncomputable def Try.pinned : Pinned := { name := "ytmbjkoffnocodaa", sum := "31d1d01133474d618f2486fb7a79668dec1181b34ac535fa03bc5dfcf27bb498", checked := Try.checked }
namespace Rows
def none {H : Type} : Left H := { results := [], args := [] }

/-- 'jitneylaw01.NumTwo': WHATEVER THE INPUT: true; the input reads as it did. -/
def numTwoSpec : ChangeSpec := { name := "numTwo", fn := fun _ => fun
  | [d1, d2, d3] => { results := [.lit (.bool true)], args := [d1, d2, d3] }
  | _ => none }
def numTwoRow : OpenClaim := { program := "ytmbjkoffnocodaa", sum := "31d1d01133474d618f2486fb7a79668dec1181b34ac535fa03bc5dfcf27bb498", func := "jitney/jitneylaw01.NumTwo", spec := "numTwo", inPlace := ["math.sqrt"], apart := false }
def NumTwoSaid : Prop := numTwoRow.holds Try.pinned (OpenSpec.ofChange numTwoSpec)

/-- ITS FALSE NEIGHBOUR: 'it returns false'. Refute it at one input. -/
def numTwoWrong : ChangeSpec := { name := "numTwo", fn := fun _ => fun
  | [d1, d2, d3] => { results := [.lit (.bool false)], args := [d1, d2, d3] }
  | _ => none }
def NumTwoWrongFalsely : Prop := numTwoRow.holds Try.pinned (OpenSpec.ofChange numTwoWrong)

/-- 'jitneylaw01.NumSums': WHATEVER THE INPUT: true; the input reads as it did. -/
def numSumsSpec : ChangeSpec := { name := "numSums", fn := fun _ => fun
  | [d] => { results := [.lit (.bool true)], args := [d] }
  | _ => none }
def numSumsRow : OpenClaim := { program := "ytmbjkoffnocodaa", sum := "31d1d01133474d618f2486fb7a79668dec1181b34ac535fa03bc5dfcf27bb498", func := "jitney/jitneylaw01.NumSums", spec := "numSums", inPlace := ["math.sqrt"], apart := false }
def NumSumsSaid : Prop := numSumsRow.holds Try.pinned (OpenSpec.ofChange numSumsSpec)

/-- ITS FALSE NEIGHBOUR: 'it returns false'. Refute it at one input. -/
def numSumsWrong : ChangeSpec := { name := "numSums", fn := fun _ => fun
  | [d] => { results := [.lit (.bool false)], args := [d] }
  | _ => none }
def NumSumsWrongFalsely : Prop := numSumsRow.holds Try.pinned (OpenSpec.ofChange numSumsWrong)

/-- 'jitneylaw01.NumCeils': WHATEVER THE INPUT: true; the input reads as it did. -/
def numCeilsSpec : ChangeSpec := { name := "numCeils", fn := fun _ => fun
  | [d1, d2] => { results := [.lit (.bool true)], args := [d1, d2] }
  | _ => none }
def numCeilsRow : OpenClaim := { program := "ytmbjkoffnocodaa", sum := "31d1d01133474d618f2486fb7a79668dec1181b34ac535fa03bc5dfcf27bb498", func := "jitney/jitneylaw01.NumCeils", spec := "numCeils", inPlace := ["math.sqrt"], apart := false }
def NumCeilsSaid : Prop := numCeilsRow.holds Try.pinned (OpenSpec.ofChange numCeilsSpec)

/-- ITS FALSE NEIGHBOUR: 'it returns false'. Refute it at one input. -/
def numCeilsWrong : ChangeSpec := { name := "numCeils", fn := fun _ => fun
  | [d1, d2] => { results := [.lit (.bool false)], args := [d1, d2] }
  | _ => none }
def NumCeilsWrongFalsely : Prop := numCeilsRow.holds Try.pinned (OpenSpec.ofChange numCeilsWrong)

/-- 'jitneylaw01.NumOrders': WHATEVER THE INPUT: true; the input reads as it did. -/
def numOrdersSpec : ChangeSpec := { name := "numOrders", fn := fun _ => fun
  | [d1, d2, d3] => { results := [.lit (.bool true)], args := [d1, d2, d3] }
  | _ => none }
def numOrdersRow : OpenClaim := { program := "ytmbjkoffnocodaa", sum := "31d1d01133474d618f2486fb7a79668dec1181b34ac535fa03bc5dfcf27bb498", func := "jitney/jitneylaw01.NumOrders", spec := "numOrders", inPlace := ["math.sqrt"], apart := false }
def NumOrdersSaid : Prop := numOrdersRow.holds Try.pinned (OpenSpec.ofChange numOrdersSpec)

/-- ITS FALSE NEIGHBOUR: 'it returns false'. Refute it at one input. -/
def numOrdersWrong : ChangeSpec := { name := "numOrders", fn := fun _ => fun
  | [d1, d2, d3] => { results := [.lit (.bool false)], args := [d1, d2, d3] }
  | _ => none }
def NumOrdersWrongFalsely : Prop := numOrdersRow.holds Try.pinned (OpenSpec.ofChange numOrdersWrong)

/-- 'jitneylaw01.NumHolds': WHATEVER THE INPUT: true; the input reads as it did. -/
def numHoldsSpec : ChangeSpec := { name := "numHolds", fn := fun _ => fun
  | [d1, d2, d3, d4] => { results := [.lit (.bool true)], args := [d1, d2, d3, d4] }
  | _ => none }
def numHoldsRow : OpenClaim := { program := "ytmbjkoffnocodaa", sum := "31d1d01133474d618f2486fb7a79668dec1181b34ac535fa03bc5dfcf27bb498", func := "jitney/jitneylaw01.NumHolds", spec := "numHolds", inPlace := ["math.sqrt"], apart := false }
def NumHoldsSaid : Prop := numHoldsRow.holds Try.pinned (OpenSpec.ofChange numHoldsSpec)

/-- ITS FALSE NEIGHBOUR: 'it returns false'. Refute it at one input. -/
def numHoldsWrong : ChangeSpec := { name := "numHolds", fn := fun _ => fun
  | [d1, d2, d3, d4] => { results := [.lit (.bool false)], args := [d1, d2, d3, d4] }
  | _ => none }
def NumHoldsWrongFalsely : Prop := numHoldsRow.holds Try.pinned (OpenSpec.ofChange numHoldsWrong)

/-- 'jitneylaw01.NumCeilSums': WHATEVER THE INPUT: true; the input reads as it did. -/
def numCeilSumsSpec : ChangeSpec := { name := "numCeilSums", fn := fun _ => fun
  | [d1, d2, d3] => { results := [.lit (.bool true)], args := [d1, d2, d3] }
  | _ => none }
def numCeilSumsRow : OpenClaim := { program := "ytmbjkoffnocodaa", sum := "31d1d01133474d618f2486fb7a79668dec1181b34ac535fa03bc5dfcf27bb498", func := "jitney/jitneylaw01.NumCeilSums", spec := "numCeilSums", inPlace := ["math.sqrt"], apart := false }
def NumCeilSumsSaid : Prop := numCeilSumsRow.holds Try.pinned (OpenSpec.ofChange numCeilSumsSpec)

/-- ITS FALSE NEIGHBOUR: 'it returns false'. Refute it at one input. -/
def numCeilSumsWrong : ChangeSpec := { name := "numCeilSums", fn := fun _ => fun
  | [d1, d2, d3] => { results := [.lit (.bool false)], args := [d1, d2, d3] }
  | _ => none }
def NumCeilSumsWrongFalsely : Prop := numCeilSumsRow.holds Try.pinned (OpenSpec.ofChange numCeilSumsWrong)

/- THE SECOND FORM. 'bulk': how many values and letters a reading holds, each counted each time it is reached (what is shared counts as often as it is met; a slice's spare places count too). A statement '..UptoSaid' is the law's where the arguments, and the package variables that the reading takes, are together of bulk at most 1048576: NARROWER than '..Said'. Prove '..Said' where nothing that the law and all that it calls make is longer than what came in: it says more and counts as full. Else prove '..UptoSaid'. A law counts once. -/
mutual
def uptoBulk {H : Type} : DataW H → Nat
  | .lit (.string bytes) => bytes.length + 1
  | .lit _ => 1
  | .nil => 1
  | .ptr d => uptoBulk d + 1
  | .slice elems spare => uptoBulkAll elems + uptoBulkAll spare + 1
  | .agg parts => uptoBulkAll parts + 1
  | .iface _ d => uptoBulk d + 1
  | .map entries => uptoBulkEntries entries + 1
  | .held _ => 1
def uptoBulkAll {H : Type} : List (DataW H) → Nat
  | [] => 0
  | d :: r => uptoBulk d + uptoBulkAll r
def uptoBulkEntries {H : Type} : List (Lit × DataW H) → Nat
  | [] => 0
  | x :: r => uptoBulkEntry x + uptoBulkEntries r
def uptoBulkEntry {H : Type} : Lit × DataW H → Nat
  | (.string bytes, d) => bytes.length + uptoBulk d + 1
  | (_, d) => uptoBulk d + 1
 end
def uptoSmall : (H : Type) → List (DataW H) → Bool := fun _ ds => decide (uptoBulkAll ds ≤ 1048576)
def OpenSpec.upto (s : _root_.Go.ChangeSpec) : _root_.Go.OpenSpec := { _root_.Go.OpenSpec.ofChange s with cond := some uptoSmall }

/-- 'jitneylaw01.NumTwo', WHERE WHAT IT READS IS OF BULK AT MOST 1048576: true; the input reads as it did. -/
def numTwoUptoRow : OpenClaim := { program := "ytmbjkoffnocodaa", sum := "31d1d01133474d618f2486fb7a79668dec1181b34ac535fa03bc5dfcf27bb498", func := "jitney/jitneylaw01.NumTwo", spec := "numTwo", inPlace := ["math.sqrt"], apart := false, narrowed := true }
def NumTwoUptoSaid : Prop := numTwoUptoRow.holds Try.pinned (OpenSpec.upto numTwoSpec)

/-- 'jitneylaw01.NumSums', WHERE WHAT IT READS IS OF BULK AT MOST 1048576: true; the input reads as it did. -/
def numSumsUptoRow : OpenClaim := { program := "ytmbjkoffnocodaa", sum := "31d1d01133474d618f2486fb7a79668dec1181b34ac535fa03bc5dfcf27bb498", func := "jitney/jitneylaw01.NumSums", spec := "numSums", inPlace := ["math.sqrt"], apart := false, narrowed := true }
def NumSumsUptoSaid : Prop := numSumsUptoRow.holds Try.pinned (OpenSpec.upto numSumsSpec)

/-- 'jitneylaw01.NumCeils', WHERE WHAT IT READS IS OF BULK AT MOST 1048576: true; the input reads as it did. -/
def numCeilsUptoRow : OpenClaim := { program := "ytmbjkoffnocodaa", sum := "31d1d01133474d618f2486fb7a79668dec1181b34ac535fa03bc5dfcf27bb498", func := "jitney/jitneylaw01.NumCeils", spec := "numCeils", inPlace := ["math.sqrt"], apart := false, narrowed := true }
def NumCeilsUptoSaid : Prop := numCeilsUptoRow.holds Try.pinned (OpenSpec.upto numCeilsSpec)

/-- 'jitneylaw01.NumOrders', WHERE WHAT IT READS IS OF BULK AT MOST 1048576: true; the input reads as it did. -/
def numOrdersUptoRow : OpenClaim := { program := "ytmbjkoffnocodaa", sum := "31d1d01133474d618f2486fb7a79668dec1181b34ac535fa03bc5dfcf27bb498", func := "jitney/jitneylaw01.NumOrders", spec := "numOrders", inPlace := ["math.sqrt"], apart := false, narrowed := true }
def NumOrdersUptoSaid : Prop := numOrdersUptoRow.holds Try.pinned (OpenSpec.upto numOrdersSpec)

/-- 'jitneylaw01.NumHolds', WHERE WHAT IT READS IS OF BULK AT MOST 1048576: true; the input reads as it did. -/
def numHoldsUptoRow : OpenClaim := { program := "ytmbjkoffnocodaa", sum := "31d1d01133474d618f2486fb7a79668dec1181b34ac535fa03bc5dfcf27bb498", func := "jitney/jitneylaw01.NumHolds", spec := "numHolds", inPlace := ["math.sqrt"], apart := false, narrowed := true }
def NumHoldsUptoSaid : Prop := numHoldsUptoRow.holds Try.pinned (OpenSpec.upto numHoldsSpec)

/-- 'jitneylaw01.NumCeilSums', WHERE WHAT IT READS IS OF BULK AT MOST 1048576: true; the input reads as it did. -/
def numCeilSumsUptoRow : OpenClaim := { program := "ytmbjkoffnocodaa", sum := "31d1d01133474d618f2486fb7a79668dec1181b34ac535fa03bc5dfcf27bb498", func := "jitney/jitneylaw01.NumCeilSums", spec := "numCeilSums", inPlace := ["math.sqrt"], apart := false, narrowed := true }
def NumCeilSumsUptoSaid : Prop := numCeilSumsUptoRow.holds Try.pinned (OpenSpec.upto numCeilSumsSpec)

end Rows
end Go.Proofs.Ytmbjkoffnocodaa
