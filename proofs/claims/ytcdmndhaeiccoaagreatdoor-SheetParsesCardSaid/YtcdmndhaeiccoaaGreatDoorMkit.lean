/- Small laws that the texts below lean on: cells behind new memory, max and min of two, and the gates by which an arm names a call. -/
import Derived.Test.YtcdmndhaeiccoaaGreatDoorWWords
import Derived.Test.YtcdmndhaeiccoaaGreatDoorWLast
import Derived.Test.YtcdmndhaeiccoaaGreatDoorWEqStruct
import Derived.Test.YtcdmndhaeiccoaaGreatDoorProg
import Derived.ArgAppend
import Derived.Below
import Derived.BigQuiet
import Derived.Calls
import Derived.Deep.AppendLies
import Derived.Deep.CutBlock
import Derived.Deep.DeepCutAuto
import Derived.Deep.Draws
import Derived.Deep.LoopGhost
import Derived.Deep.OwnRows
import Derived.Deep.QuietTactic
import Derived.Deep.RegionHeld3
import Derived.KernelRfl
import Derived.Laws.BitsLemmas
import Derived.Laws.BytesArg
import Derived.Laws.IdiomCopy
import Derived.Laws.MakeOwn
import Derived.Laws.OwnMore
import Derived.Laws.Rows
import Derived.Laws.Slices
import Derived.Lib.AppendStr
import Derived.Lib.ConvBytes
import Derived.Maps.AppendAt
import Derived.Orders
import Derived.OrdersHeld
import Derived.OwnWalk
import Derived.RowKit
import Derived.RowKit3
import Derived.Shelf.Abstract
import Derived.Tactics
import Derived.WalkKit
import Derived.WideLaws
namespace Go.Proofs.YtcdmndhaeiccoaaGreatDoorR
open Go Go.RowKit
theorem cell_below {w w1 : World} (h : Below w.heap.size w w1) {a : Addr} {v : Value} (hc : w.cell? a = some v) : w1.cell? a = some v := (h.cell (World.block_lt_of_cell? w a hc)).trans hc
theorem max2_int (k k' : IntKind) (x y : Int) : Builtin.max2 (.int k x) (.int k' y) = pure (.int k (if x < y then y else x)) := by
  unfold Builtin.max2
  simp only [gt_iff_lt]
theorem min2_int (k k' : IntKind) (x y : Int) : Builtin.min2 (.int k x) (.int k' y) = pure (.int k (if y < x then y else x)) := by
  unfold Builtin.min2
  rfl
theorem max_two (ats : Array TypeId) (ty : TypeId) (a b : Value) : Builtin.max_ ats ty #[a, b] = (Builtin.max2 a b >>= fun s => pure s) := by
  unfold Builtin.max_
  simp only [List.foldlM_cons, List.foldlM_nil]
theorem min_two (ats : Array TypeId) (ty : TypeId) (a b : Value) : Builtin.min_ ats ty #[a, b] = (Builtin.min2 a b >>= fun s => pure s) := by
  unfold Builtin.min_
  simp only [List.foldlM_cons, List.foldlM_nil]
section
variable {P : Program} {ops : Array Oper} {Q : Exit → Act → World → Prop} {rest : List Oper} {a : Act} {w : World} {o : Oper}
theorem gate_callee {f : FuncId} {us : Array Operand} {ts : Array TypeId} (_ho : o.op = .call { callee := .value (.func f), args := us, argTypes := ts }) (h : wpList P ops Q (o :: rest) a w) : wpList P ops Q (o :: rest) a w := h
theorem gate_builtin {b : Builtin} {xs : Array Operand} {ts : Array TypeId} (_ho : o.op = .call { callee := .builtin b, args := xs, argTypes := ts }) (h : wpList P ops Q (o :: rest) a w) : wpList P ops Q (o :: rest) a w := h
end
end Go.Proofs.YtcdmndhaeiccoaaGreatDoorR
