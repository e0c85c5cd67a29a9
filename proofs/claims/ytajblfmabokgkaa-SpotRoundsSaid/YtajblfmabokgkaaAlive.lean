/- The document's examples of layer 2 hold. -/
import Derived.Test.YtajblfmabokgkaaSweepA
namespace Go.Proofs.Ytajblfmabokgkaa.P
open Go.Proofs.YtajblfmabokgkaaR
open Go.Shelf Go.Sort
open Go.RowKit Go.Proofs.YtajblfmabokgkaaW.PrintWords Go.Proofs.YtajblfmabokgkaaW.PrintLast Go.Proofs.YtajblfmabokgkaaW.PrintMore
set_option linter.unusedVariables false
set_option linter.unusedSimpArgs false
set_option maxHeartbeats 8000000
set_option maxRecDepth 100000
theorem fis_neg1 : FIs 13830554455654793216 (-1) := by
  have h := nearest_exact (-1) (by decide)
  exact (show FloatKind.f64.nearest (-1) = 13830554455654793216 by decide) ▸ h
theorem float3 : floatOfInt .f64 3 = 4613937818241073152 := by decide
theorem float4 : floatOfInt .f64 4 = 4616189618054758400 := by decide
theorem spot_34 : Spot 4613937818241073152 4616189618054758400 3 4 := by
  refine ⟨?_, ?_, ⟨by decide, by decide⟩, ⟨by decide, by decide⟩⟩
  · rw [← float3]; exact nearest_exact 3 (by decide)
  · rw [← float4]; exact nearest_exact 4 (by decide)
theorem spot_1 : Spot 4607182418800017408 0 1 0 := ⟨fis_one, fis_zero, ⟨by decide, by decide⟩, ⟨by decide, by decide⟩⟩
theorem spot_i : Spot 0 4607182418800017408 0 1 := ⟨fis_zero, fis_one, ⟨by decide, by decide⟩, ⟨by decide, by decide⟩⟩
theorem spot_m1 : Spot 13830554455654793216 0 (-1) 0 := ⟨fis_neg1, fis_zero, ⟨by decide, by decide⟩, ⟨by decide, by decide⟩⟩
theorem spot_mi : Spot 0 13830554455654793216 0 (-1) := ⟨fis_zero, fis_neg1, ⟨by decide, by decide⟩, ⟨by decide, by decide⟩⟩
theorem spot_At.far (w : World) : Calls Try.prog 8 #[.int .i64 16777217, .int .i64 0] w fun e w' => e = .returned (.tuple #[.complex .f64 0 0, .bool false]) ∧ w' = w := by
  go_enter Try.func8, Try.ntmps8
  go_wp2
  go_ret2
  exact ⟨rfl, rfl⟩
theorem spot_whole.not_half (w : World) : Calls Try.prog 23 #[.float .f64 4602678819172646912] w fun e w' => e = .returned (.bool false) ∧ w' = w :=
  spot_whole.walk 4602678819172646912 4602678819172646912 0 .lt .gt (by decide) (by decide) (fun w => by
    have h := math_archTrunc.runs 4602678819172646912 false 4503599627370496 (-53) (by decide) w
    have e : FloatKind.f64.encode ((Ieee.Datum.number false 4503599627370496 (-53)).integral .zero) = 0 := by decide
    rw [e] at h
    exact h) (by decide) (by decide) w
theorem spot_Good.not_half (w : World) : Calls Try.prog 16 #[.complex .f64 4602678819172646912 0] w fun e w' => e = .returned (.bool false) ∧ w' = w := by
  go_enter Try.func16, Try.ntmps16
  go_wp2_with (first | (go_at_call 23; with_reducible refine (spot_whole.not_half _).mono ?_; rintro e w1 ⟨rfl, rfl⟩))
  go_ret
  exact ⟨rfl, rfl⟩
def exA (i : Nat) : Int := [0, 1, 0, -1, 0].getD i 0
def exB (i : Nat) : Int := [-1, 0, 0, 0, 1].getD i 0
def exX (i : Nat) : Nat := [0, 4607182418800017408, 0, 13830554455654793216, 0].getD i 0
def exY (i : Nat) : Nat := [13830554455654793216, 0, 0, 0, 4607182418800017408].getD i 0
theorem ex_swept : swept 0 0 exA exB 5 = #[2, 1, 4, 3, 0] := by
  unfold swept Sort.insertionSort
  decide +kernel
theorem dist_ex : far 0 0 3 4 = 5 := by decide +kernel
theorem turn_ex1 : sgn (crs 0 0 1 0 0 1) = 1 := by decide
theorem turn_ex2 : sgn (crs 0 0 0 1 1 0) = -1 := by decide
theorem square_ex : sqd 0 0 3 4 = 25 := by decide
theorem ord_ex : ordS 0 0 1 0 0 1 = -1 := by decide
theorem same_ex : jitneyref01_SameInts.f 6 [2, 1, 4, 3, 0] [2, 1, 4, 3, 0] = some true := by decide +kernel
theorem ex_spots (w : World) : SpotsAt (w.alloc (.cells #[.complex .f64 0 13830554455654793216, .complex .f64 4607182418800017408 0, .complex .f64 0 0, .complex .f64 13830554455654793216 0, .complex .f64 0 4607182418800017408] 23 (0, 0))) w.heap.size 5 exX exY exA exB := by
  refine ⟨by simp, fun i hi => ?_, fun i hi => ?_⟩
  · have hr := rowAt_new w #[.complex .f64 0 13830554455654793216, .complex .f64 4607182418800017408 0, .complex .f64 0 0, .complex .f64 13830554455654793216 0, .complex .f64 0 4607182418800017408] 23
    refine hr i _ ?_
    match i, hi with
    | 0, _ => rfl
    | 1, _ => rfl
    | 2, _ => rfl
    | 3, _ => rfl
    | 4, _ => rfl
  · match i, hi with
    | 0, _ => exact spot_mi
    | 1, _ => exact spot_1
    | 2, _ => exact spot_zero
    | 3, _ => exact spot_m1
    | 4, _ => exact spot_i
theorem row_sweep {w' : World} {g2 : Nat} (h : ∀ i, i < 5 → w'.cell? ⟨g2, i, none⟩ = some (enF 5 (swept 0 0 exA exB 5)[i]!)) : Kd.C (Kd.int .i64) w' (some ⟨g2, 0, none⟩) 5 [2, 1, 4, 3, 0] := by
  rw [ex_swept] at h
  refine C_of_rowAt (Kd.int .i64) (fun n => [.int .i64 n]) (fun _ => rfl) (fun _ _ => rfl) (xs := [2, 1, 4, 3, 0]) (by decide) ?_
  intro i v hv
  match i with
  | 0 => cases hv; exact h 0 (by decide)
  | 1 => cases hv; exact h 1 (by decide)
  | 2 => cases hv; exact h 2 (by decide)
  | 3 => cases hv; exact h 3 (by decide)
  | 4 => cases hv; exact h 4 (by decide)
  | i + 5 => cases hv
theorem row_want (w : World) : Kd.C (Kd.int .i64) (w.alloc (.cells #[.int .i64 2, .int .i64 1, .int .i64 4, .int .i64 3, .int .i64 0] 3 (0, 0))) (some ⟨w.heap.size, 0, none⟩) 5 [2, 1, 4, 3, 0] := row_new w 0 3 [2, 1, 4, 3, 0] (by decide)
theorem jitneylaw02_alive.calls (w : World) : Calls Try.prog 7 #[] w fun e w' => e = .returned (.bool true) ∧ Below w.heap.size w w' := by
  have C1 := Aside0.mk (spot_At.calls 3 4 ⟨by decide, by decide⟩ ⟨by decide, by decide⟩)
  rw [float3, float4] at C1
  have C2 := Aside0.mk (spot_XY.calls spot_34)
  have C3 := Aside0.mk (spot_Dist.calls spot_zero spot_34)
  rw [dist_ex] at C3
  have C4 := Aside0.mk (spot_Square.calls spot_zero spot_34)
  rw [square_ex] at C4
  have C5 := Aside0.mk (spot_Good.calls spot_34)
  have C6 := Aside0.mk (spot_Turn.calls spot_zero spot_1 spot_i)
  rw [turn_ex1] at C6
  have C7 := Aside0.mk (spot_Turn.calls spot_zero spot_i spot_1)
  rw [turn_ex2] at C7
  have C8 := Aside0.mk (spot_Before.calls spot_zero spot_1 spot_i)
  rw [ord_ex] at C8
  go_enter Try.func7, Try.ntmps7
  go_wp2_with (first
    | (go_at_call 8; with_reducible refine (C1.out _).mono ?_; rintro e w1 ⟨rfl, rfl⟩)
    | (go_at_call 8; with_reducible refine (spot_At.far _).mono ?_; rintro e w1 ⟨rfl, rfl⟩)
    | (go_at_call 15; with_reducible refine (C2.out _).mono ?_; rintro e w1 ⟨rfl, rfl⟩)
    | (go_at_call 9; with_reducible refine (C3.out _).mono ?_; rintro e w1 ⟨rfl, hb⟩; have B1 := Aside0.mk hb; clear hb)
    | (go_at_call 11; with_reducible refine (C4.out _).mono ?_; rintro e w1 ⟨rfl, rfl⟩)
    | (go_at_call 16; with_reducible refine (C5.out _).mono ?_; rintro e w1 ⟨rfl, rfl⟩)
    | (go_at_call 16; with_reducible refine (spot_Good.not_half _).mono ?_; rintro e w1 ⟨rfl, rfl⟩)
    | (go_at_call 10; with_reducible refine (C6.out _).mono ?_; rintro e w1 ⟨rfl, rfl⟩)
    | (go_at_call 10; with_reducible refine (C7.out _).mono ?_; rintro e w1 ⟨rfl, rfl⟩)
    | (go_at_call 13; with_reducible refine (C8.out _).mono ?_; rintro e w2 ⟨rfl, hb⟩; have B2 := Aside0.mk hb; clear hb)
    | (go_at_call 12; refine (spot_Sweep.calls (c := 5) (ex_spots _) spot_zero (by decide) (by decide)).mono ?_; rintro e w3 ⟨g2, c2, rfl, hc2, hg2, hrow, hb⟩; have B3 := Aside0.mk hb; have R3 := Aside0.mk (row_sweep hrow); have L3 := Aside0.mk hc2; clear hb hrow hg2 hc2)
    | (go_at_call 14; go_loud (refine (jitneyref01_SameInts.calls 6 _ c2 [2, 1, 4, 3, 0] _ 5 [2, 1, 4, 3, 0] true _ (Kd.C_alloc R3.out _) L3.out (row_want _) (Nat.le_refl 5) same_ex).mono ?_); rintro e w4 ⟨rfl, ⟨n4, rfl⟩⟩))
  go_ret
  refine ⟨rfl, ?_⟩
  have h2 := B1.out.trans (B2.out.mono B1.out.size)
  have h3 := (below_alloc h2 _).trans (B3.out.mono (by have := h2.size; simp; omega))
  exact pw_below_drewN (below_alloc h3 _) _
end Go.Proofs.Ytajblfmabokgkaa.P
