/- The order that spot.Sweep hands to the sort. -/
import Derived.Test.YtajblfmabokgkaaSorts
namespace Go.Proofs.Ytajblfmabokgkaa.P
open Go.Proofs.YtajblfmabokgkaaR
open Go.Shelf Go.Sort
open Go.RowKit Go.Proofs.YtajblfmabokgkaaW.PrintWords Go.Proofs.YtajblfmabokgkaaW.PrintLast Go.Proofs.YtajblfmabokgkaaW.PrintMore
set_option linter.unusedVariables false
set_option linter.unusedSimpArgs false
set_option maxHeartbeats 8000000
set_option maxRecDepth 100000
theorem sort_other {α : Type} [Inhabited α] (enc : α → Value) (w : World) (blk m : Nat) (dk : Array α) (os : Array Obj) (b o : Nat) (hb : b < w.heap.size) (hne : b ≠ blk) :
    (sortWorld enc w blk 0 m dk os).cell? ⟨b, o, none⟩ = w.cell? ⟨b, o, none⟩ := by
  unfold sortWorld
  rw [cell?_grow _ _ _ (by show b < (putRow enc (Sort.ahead w m) blk 0 dk).heap.size; rw [Go.Proofs.size_putRow]; exact hb)]
  refine World.cell?_of_block ?_
  show (putRow enc (Sort.ahead w m) blk 0 dk).heap[b]? = w.heap[b]?
  unfold putRow mapBlock Sort.ahead
  simp [Array.getElem?_modify, hne.symm]
theorem cell_lt {w : World} {b o : Nat} {v : Value} (h : w.cell? ⟨b, o, none⟩ = some v) : b < w.heap.size := by
  refine Nat.lt_of_not_le fun hc => ?_
  unfold World.cell? at h
  simp [Array.getElem?_eq_none hc] at h
theorem cell_grown {w : World} {b o : Nat} {v : Value} (h : w.cell? ⟨b, o, none⟩ = some v) (n : Nat) (os : Array Obj) : (grow (w.drewN n) os).cell? ⟨b, o, none⟩ = some v := by
  rw [cell?_grow _ _ _ (show b < (w.drewN n).heap.size from cell_lt h)]
  exact h
/-- A row of spots in memory, and the whole numbers that they stand for. -/
structure SpotsAt (w : World) (g n : Nat) (X Y : Nat → Nat) (A B : Nat → Int) : Prop where
  lt : g < w.heap.size
  cell : ∀ i, i < n → w.cell? ⟨g, i, none⟩ = some (.complex .f64 (X i) (Y i))
  spot : ∀ i, i < n → Spot (X i) (Y i) (A i) (B i)
def enF (n : Nat) (i : Fin n) : Value := .int .i64 (i.val : Int)
def cfS (o1 o2 : Int) (A B : Nat → Int) {n : Nat} (i j : Fin n) : Int := ordS o1 o2 (A i.val) (B i.val) (A j.val) (B j.val)
theorem spot_Sweep_1.calls {w : World} {g n : Nat} {X Y : Nat → Nat} {A B : Nat → Int} (hL : SpotsAt w g n X Y A B) (c b2 b3 : Nat) {s t : Nat} {o1 o2 : Int} (hO : Spot s t o1 o2)
    (h2 : w.cell? ⟨b2, 0, none⟩ = some (.complex .f64 s t)) (h3 : w.cell? ⟨b3, 0, none⟩ = some (.slice (some ⟨g, 0, none⟩) n c)) (i j : Fin n) :
    Calls Try.prog 21 #[enF n i, enF n j, .pointer (some ⟨b2, 0, none⟩), .pointer (some ⟨b3, 0, none⟩)] w fun e w' => e = .returned (.int .i64 (cfS o1 o2 A B i j)) ∧ ∃ q os', w' = grow (w.drewN q) os' := by
  obtain ⟨i, hi⟩ := i
  obtain ⟨j, hj⟩ := j
  have ci := hL.cell i hi
  have cj := hL.cell j hj
  have C1 := Aside0.mk (spot_order.calls hO (hL.spot i hi) (hL.spot j hj))
  show Calls Try.prog 21 #[.int .i64 (i : Int), .int .i64 (j : Int), .pointer (some ⟨b2, 0, none⟩), .pointer (some ⟨b3, 0, none⟩)] w fun e w' => e = .returned (.int .i64 (ordS o1 o2 (A i) (B i) (A j) (B j))) ∧ ∃ q os', w' = grow (w.drewN q) os'
  generalize ordS o1 o2 (A i) (B i) (A j) (B j) = z at C1 ⊢
  generalize X i = x at ci C1
  generalize Y i = y at ci C1
  generalize X j = u at cj C1
  generalize Y j = v at cj C1
  have p1 : (0 : Int) ≤ (i : Int) := by omega
  have p2 : (i : Int) < (n : Int) := by omega
  have p3 : (0 : Int) ≤ (j : Int) := by omega
  have p4 : (j : Int) < (n : Int) := by omega
  have d1 := cell_grown ci
  have d2 := cell_grown cj
  have d3 := cell_grown h2
  have d4 := cell_grown h3
  clear hL hO hi hj ci cj h2 h3
  go_enter Try.func21, Try.ntmps21
  have mixed : Try.prog.follows .mixedOrders = true := by kernel_rfl
  go_wp2_with fail
  go_quiet_grown (first | (go_at_call 22; refine Calls.grown_of (C1.out _)))
  go_wp2
  go_ret
  exact ⟨rfl, _, _, rfl⟩
/-- What a slices.SortStableFunc leaves of a short row. -/
theorem slices_SortStableFunc.small {α : Type} [Inhabited α] (enc : α → Value) (cf : α → α → Int) (cb : Array Value) (blk cap : Nat) (d : Array α) (w : World)
    (hcmp : CmpLays1 Try.prog 21 cb enc cf blk 0 d.size w) (R : Row1 enc w blk 0 d) (hs : d.size < 20) :
    Calls Try.prog 20 #[.slice (some ⟨blk, 0, none⟩) d.size cap, .func (.func 21) #[] cb] w fun e w' => e = .returned (.tuple #[]) ∧ SW enc w blk 0 (Sort.insertionSort (ltOf cf) d 0 d.size) w' := by
  have C1 := Aside0.mk (slices_stableCmpFunc.small enc cf 21 cb blk cap d w (enters_of Try.func21 (by kernel_rfl) rfl) hcmp R hs)
  clear hcmp R hs
  generalize d.size = n at C1 ⊢
  go_enter Try.func20, Try.ntmps20
  go_wp2_with (first | (go_at_call 27; refine C1.out.mono ?_; rintro e w1 ⟨rfl, hS⟩; have S1 := Aside0.mk hS; clear hS))
  go_end0
  exact ⟨rfl, S1.out⟩
end Go.Proofs.Ytajblfmabokgkaa.P
