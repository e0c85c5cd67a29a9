/-
  No cell of these rows narrows 'for every input' (looked for: loops, veiled, ifaces, maps, wideKeys, modest, calm, conditions, laid).
  DERIVED. THE GIVEN ROWS OF THIS SEAT. 5 by the template 'for every input the law returns true; each argument reads behind the call as it read before'; 0 by the template 'total and deterministic' (their statements: YtocoapfnkkmkiaaTotals.lean).
  GIVEN WITH THE SEED: the statements are not yours to turn. If you find one false, say at which input.
  Laid BY PROGRAM, IN A SANDBOX (cutbox-rows.mjs): the forced cells as the released guide's own fill.sh prints them over the translation ec864b0d8da6e46b… (all of the seat's roots in one cut). By AI agents, Wed Nov 11 2026. No macro, syntax, notation, axiom, sorry.
-/
import Derived.Test.YtocoapfnkkmkiaaChecked
import GoSem.Claim
import GoSem.ClaimJoined
import GoSem.ClaimMapViews
import Derived.JoinedTies
import Derived.KernelRfl
namespace Go.Proofs.Ytocoapfnkkmkiaa
/- THE CELL 'sum', in the pinned program and in every row, IS THE sha256 OF THE DUMP (.gsa) THAT YtocoapfnkkmkiaaProg.lean LOADS. Nothing in Lean hashes anything: it is a label: what it is worth is what the hold of that sum in a sandbox is worth. -/
noncomputable def Try.pinned : Pinned := { name := "ytocoapfnkkmkiaa", sum := "ec864b0d8da6e46b63caccbecd2628c68f99a356d8d1f36813e0799b4791084c", checked := Try.checked }
namespace Rows
def none {H : Type} : Left H := { results := [], args := [] }

/-- 'jitneylaw04.LoadTwo': WHATEVER THE INPUT: true; the input reads as it did. -/
def loadTwoSpec : ChangeSpec := { name := "loadTwo", fn := fun _ => fun
  | [d1, d2] => { results := [.lit (.bool true)], args := [d1, d2] }
  | _ => none }
def loadTwoRow : OpenClaim := { program := "ytocoapfnkkmkiaa", sum := "ec864b0d8da6e46b63caccbecd2628c68f99a356d8d1f36813e0799b4791084c", func := "jitney/jitneylaw04.LoadTwo", spec := "loadTwo", unfollowed := true, recurses := true, apart := false }
def LoadTwoSaid : Prop := loadTwoRow.holds Try.pinned (OpenSpec.ofChange loadTwoSpec)

/-- ITS FALSE NEIGHBOUR: 'it returns false'. Refute it at one input. -/
def loadTwoWrong : ChangeSpec := { name := "loadTwo", fn := fun _ => fun
  | [d1, d2] => { results := [.lit (.bool false)], args := [d1, d2] }
  | _ => none }
def LoadTwoWrongFalsely : Prop := loadTwoRow.holds Try.pinned (OpenSpec.ofChange loadTwoWrong)

/-- 'jitneylaw04.LoadRows': WHATEVER THE INPUT: true; the input reads as it did. -/
def loadRowsSpec : ChangeSpec := { name := "loadRows", fn := fun _ => fun
  | [d1, d2] => { results := [.lit (.bool true)], args := [d1, d2] }
  | _ => none }
def loadRowsRow : OpenClaim := { program := "ytocoapfnkkmkiaa", sum := "ec864b0d8da6e46b63caccbecd2628c68f99a356d8d1f36813e0799b4791084c", func := "jitney/jitneylaw04.LoadRows", spec := "loadRows", unfollowed := true, recurses := true, apart := false }
def LoadRowsSaid : Prop := loadRowsRow.holds Try.pinned (OpenSpec.ofChange loadRowsSpec)

/-- ITS FALSE NEIGHBOUR: 'it returns false'. Refute it at one input. -/
def loadRowsWrong : ChangeSpec := { name := "loadRows", fn := fun _ => fun
  | [d1, d2] => { results := [.lit (.bool false)], args := [d1, d2] }
  | _ => none }
def LoadRowsWrongFalsely : Prop := loadRowsRow.holds Try.pinned (OpenSpec.ofChange loadRowsWrong)

/-- 'jitneylaw04.LoadBack': WHATEVER THE INPUT: true; the input reads as it did. -/
def loadBackSpec : ChangeSpec := { name := "loadBack", fn := fun _ => fun
  | [d1, d2, d3] => { results := [.lit (.bool true)], args := [d1, d2, d3] }
  | _ => none }
def loadBackRow : OpenClaim := { program := "ytocoapfnkkmkiaa", sum := "ec864b0d8da6e46b63caccbecd2628c68f99a356d8d1f36813e0799b4791084c", func := "jitney/jitneylaw04.LoadBack", spec := "loadBack", unfollowed := true, recurses := true, apart := false }
def LoadBackSaid : Prop := loadBackRow.holds Try.pinned (OpenSpec.ofChange loadBackSpec)

/-- ITS FALSE NEIGHBOUR: 'it returns false'. Refute it at one input. -/
def loadBackWrong : ChangeSpec := { name := "loadBack", fn := fun _ => fun
  | [d1, d2, d3] => { results := [.lit (.bool false)], args := [d1, d2, d3] }
  | _ => none }
def LoadBackWrongFalsely : Prop := loadBackRow.holds Try.pinned (OpenSpec.ofChange loadBackWrong)

/-- 'jitneylaw04.LoadAdds': WHATEVER THE INPUT: true; the input reads as it did. -/
def loadAddsSpec : ChangeSpec := { name := "loadAdds", fn := fun _ => fun
  | [d1, d2, d3, d4] => { results := [.lit (.bool true)], args := [d1, d2, d3, d4] }
  | _ => none }
def loadAddsRow : OpenClaim := { program := "ytocoapfnkkmkiaa", sum := "ec864b0d8da6e46b63caccbecd2628c68f99a356d8d1f36813e0799b4791084c", func := "jitney/jitneylaw04.LoadAdds", spec := "loadAdds", unfollowed := true, recurses := true, apart := false }
def LoadAddsSaid : Prop := loadAddsRow.holds Try.pinned (OpenSpec.ofChange loadAddsSpec)

/-- ITS FALSE NEIGHBOUR: 'it returns false'. Refute it at one input. -/
def loadAddsWrong : ChangeSpec := { name := "loadAdds", fn := fun _ => fun
  | [d1, d2, d3, d4] => { results := [.lit (.bool false)], args := [d1, d2, d3, d4] }
  | _ => none }
def LoadAddsWrongFalsely : Prop := loadAddsRow.holds Try.pinned (OpenSpec.ofChange loadAddsWrong)

/-- 'jitneylaw04.LoadPeaks': WHATEVER THE INPUT: true; the input reads as it did. -/
def loadPeaksSpec : ChangeSpec := { name := "loadPeaks", fn := fun _ => fun
  | [d] => { results := [.lit (.bool true)], args := [d] }
  | _ => none }
def loadPeaksRow : OpenClaim := { program := "ytocoapfnkkmkiaa", sum := "ec864b0d8da6e46b63caccbecd2628c68f99a356d8d1f36813e0799b4791084c", func := "jitney/jitneylaw04.LoadPeaks", spec := "loadPeaks", unfollowed := true, recurses := true, apart := false }
def LoadPeaksSaid : Prop := loadPeaksRow.holds Try.pinned (OpenSpec.ofChange loadPeaksSpec)

/-- ITS FALSE NEIGHBOUR: 'it returns false'. Refute it at one input. -/
def loadPeaksWrong : ChangeSpec := { name := "loadPeaks", fn := fun _ => fun
  | [d] => { results := [.lit (.bool false)], args := [d] }
  | _ => none }
def LoadPeaksWrongFalsely : Prop := loadPeaksRow.holds Try.pinned (OpenSpec.ofChange loadPeaksWrong)

/- THE SECOND FORM. 'bulk': how many values and letters a reading holds, each counted each time it is reached (what is shared counts as often as it is met; a slice's spare places count too). A statement '..UptoSaid' is the law's where the arguments, and the package variables that the reading takes, are together of bulk at most 1048576: NARROWER than '..Said'. Prove '..Said' where nothing that the law and all that it calls make is longer than what came in: it says more and counts as full. Else prove '..UptoSaid'. A law counts once. -/
mutual
def uptoBulk {H : Type} : DataW H → Nat
  | .lit (.string bytes) => bytes.length + 1
  | .lit _ => 1
  | .nil => 1
  | .ptr d => uptoBulk d + 1
  | .slice elems spare => uptoBulkAll elems + uptoBulkAll spare + 1
  | .agg parts => uptoBulkAll parts + 1
  | .iface _ d => uptoBulk d + 1
  | .map entries => uptoBulkEntries entries + 1
  | .held _ => 1
def uptoBulkAll {H : Type} : List (DataW H) → Nat
  | [] => 0
  | d :: r => uptoBulk d + uptoBulkAll r
def uptoBulkEntries {H : Type} : List (Lit × DataW H) → Nat
  | [] => 0
  | x :: r => uptoBulkEntry x + uptoBulkEntries r
def uptoBulkEntry {H : Type} : Lit × DataW H → Nat
  | (.string bytes, d) => bytes.length + uptoBulk d + 1
  | (_, d) => uptoBulk d + 1
 end
def uptoSmall : (H : Type) → List (DataW H) → Bool := fun _ ds => decide (uptoBulkAll ds ≤ 1048576)
def OpenSpec.upto (s : _root_.Go.ChangeSpec) : _root_.Go.OpenSpec := { _root_.Go.OpenSpec.ofChange s with cond := some uptoSmall }

/-- 'jitneylaw04.LoadTwo', WHERE WHAT IT READS IS OF BULK AT MOST 1048576: true; the input reads as it did. -/
def loadTwoUptoRow : OpenClaim := { program := "ytocoapfnkkmkiaa", sum := "ec864b0d8da6e46b63caccbecd2628c68f99a356d8d1f36813e0799b4791084c", func := "jitney/jitneylaw04.LoadTwo", spec := "loadTwo", unfollowed := true, recurses := true, apart := false, narrowed := true }
def LoadTwoUptoSaid : Prop := loadTwoUptoRow.holds Try.pinned (OpenSpec.upto loadTwoSpec)

/-- 'jitneylaw04.LoadRows', WHERE WHAT IT READS IS OF BULK AT MOST 1048576: true; the input reads as it did. -/
def loadRowsUptoRow : OpenClaim := { program := "ytocoapfnkkmkiaa", sum := "ec864b0d8da6e46b63caccbecd2628c68f99a356d8d1f36813e0799b4791084c", func := "jitney/jitneylaw04.LoadRows", spec := "loadRows", unfollowed := true, recurses := true, apart := false, narrowed := true }
def LoadRowsUptoSaid : Prop := loadRowsUptoRow.holds Try.pinned (OpenSpec.upto loadRowsSpec)

/-- 'jitneylaw04.LoadBack', WHERE WHAT IT READS IS OF BULK AT MOST 1048576: true; the input reads as it did. -/
def loadBackUptoRow : OpenClaim := { program := "ytocoapfnkkmkiaa", sum := "ec864b0d8da6e46b63caccbecd2628c68f99a356d8d1f36813e0799b4791084c", func := "jitney/jitneylaw04.LoadBack", spec := "loadBack", unfollowed := true, recurses := true, apart := false, narrowed := true }
def LoadBackUptoSaid : Prop := loadBackUptoRow.holds Try.pinned (OpenSpec.upto loadBackSpec)

/-- 'jitneylaw04.LoadAdds', WHERE WHAT IT READS IS OF BULK AT MOST 1048576: true; the input reads as it did. -/
def loadAddsUptoRow : OpenClaim := { program := "ytocoapfnkkmkiaa", sum := "ec864b0d8da6e46b63caccbecd2628c68f99a356d8d1f36813e0799b4791084c", func := "jitney/jitneylaw04.LoadAdds", spec := "loadAdds", unfollowed := true, recurses := true, apart := false, narrowed := true }
def LoadAddsUptoSaid : Prop := loadAddsUptoRow.holds Try.pinned (OpenSpec.upto loadAddsSpec)

/-- 'jitneylaw04.LoadPeaks', WHERE WHAT IT READS IS OF BULK AT MOST 1048576: true; the input reads as it did. -/
def loadPeaksUptoRow : OpenClaim := { program := "ytocoapfnkkmkiaa", sum := "ec864b0d8da6e46b63caccbecd2628c68f99a356d8d1f36813e0799b4791084c", func := "jitney/jitneylaw04.LoadPeaks", spec := "loadPeaks", unfollowed := true, recurses := true, apart := false, narrowed := true }
def LoadPeaksUptoSaid : Prop := loadPeaksUptoRow.holds Try.pinned (OpenSpec.upto loadPeaksSpec)

end Rows
end Go.Proofs.Ytocoapfnkkmkiaa
