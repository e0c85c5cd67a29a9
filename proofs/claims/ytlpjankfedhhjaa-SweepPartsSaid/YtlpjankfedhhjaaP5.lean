-- printed by the session's own program wip/xprint.py (over the kit's printer); nothing here is trusted: Lean checks it
import Derived.Test.YtlpjankfedhhjaaP0
namespace Go.Proofs.Ytlpjankfedhhjaa.P
open Go.Proofs.YtlpjankfedhhjaaR
open Go.RowKit Go.Proofs.YtlpjankfedhhjaaW.PrintWords Go.Proofs.YtlpjankfedhhjaaW.PrintLast Go.Proofs.YtlpjankfedhhjaaW.PrintMore
attribute [local go_sem] max2_int min2_int max_two min_two max_three min_three max_four min_four   -- for this text's walks alone
set_option linter.unusedVariables false
set_option linter.unusedSimpArgs false

-- NOT PRINTED: function 63 (slices_siftDownOrdered_int)

-- NOT PRINTED: function 44 (slices_heapSortOrdered_int)

-- NOT PRINTED: function 52 (bits_Len32)

-- NOT PRINTED: function 53 (bits_Len64)

-- NOT PRINTED: function 33 (bits_Len)

-- NOT PRINTED: function 64 (slices_nextPowerOfTwo)

-- NOT PRINTED: function 65 (slices_xorshift_Next)

-- NOT PRINTED: function 45 (slices_breakPatternsOrdered_int)

-- NOT PRINTED: function 75 (slices_order2Ordered_int)

-- NOT PRINTED: function 67 (slices_medianOrdered_int)

-- NOT PRINTED: function 66 (slices_medianAdjacentOrdered_int)

-- NOT PRINTED: function 46 (slices_choosePivotOrdered_int)

-- NOT PRINTED: function 47 (slices_reverseRangeOrdered_int)

-- NOT PRINTED: function 48 (slices_partialInsertionSortOrdered_int)

-- NOT PRINTED: function 50 (slices_partitionEqualOrdered_int)

-- NOT PRINTED: function 51 (slices_partitionOrdered_int)

-- NOT PRINTED: function 32 (slices_pdqsortOrdered_int)

-- NOT PRINTED: function 23 (slices_Sort_int_int)

-- NOT PRINTED: function 24 (slices_Compact_int_int)

-- NOT PRINTED: function 14 (sweep_some)

-- NOT PRINTED: function 15 (sweep_at)

-- NOT PRINTED: function 56 (slices_insertionSortCmpFunc_int)

-- NOT PRINTED: function 77 (slices_swapRangeCmpFunc_int)

-- NOT PRINTED: function 72 (slices_rotateCmpFunc_int)

-- NOT PRINTED: function 57 (slices_symMergeCmpFunc_int)

-- NOT PRINTED: function 35 (slices_stableCmpFunc_int)

-- NOT PRINTED: function 26 (slices_SortStableFunc_int_int)

-- NOT PRINTED: function 16 (spot_Sweep)

-- NOT PRINTED: function 10 (sweep_Order)

-- NOT PRINTED: function 11 (sweep_Clusters)

/-! ### num_Held: function 20 -/
def num_Held.f (a0 : Int) (a1 : Int) (a2 : Int) : Option (Int) := some (mx (mn a0 a2) a1)
set_option maxHeartbeats 8000000 in
set_option maxRecDepth 100000 in
theorem num_Held.calls (a0 : Int) (a1 : Int) (a2 : Int) (r : Int) (w : World) (h : num_Held.f a0 a1 a2 = some r) :
    Calls Try.prog 20 #[.int .i64 a0, .int .i64 a1, .int .i64 a2] w fun e w' => e = .returned (.int .i64 r) ∧ Below w.heap.size w w' := by
  have HB := Aside0.mk (Below.refl w.heap.size w)
  have H : (some (mx (mn a0 a2) a1)) = some r := h
  clear h
  obtain ⟨ji4, hji4⟩ : ∃ j_ : Int, (mn a0 a2) = j_ := ⟨_, rfl⟩
  replace H : (some (mx (ji4) a1)) = some r := by first | (rw [hji4] at H; exact H) | (simp only [hji4] at H ⊢; exact H)
  have hji4_ : (if a2 < a0 then a2 else a0) = ji4 := hji4
  obtain ⟨ji5, hji5⟩ : ∃ j_ : Int, (mx (ji4) a1) = j_ := ⟨_, rfl⟩
  replace H : (some ji5) = some r := by first | (rw [hji5] at H; exact H) | (simp only [hji5] at H ⊢; exact H)
  have hji5_ : (if (ji4) < a1 then a1 else (ji4)) = ji5 := hji5
  obtain rfl := Option.some.inj H
  go_enter Try.func20, Try.ntmps20
  go_wp2
  go_ret
  exact ⟨by first | rfl | (simp [errW_none, errW_some] <;> rfl) | (simp only [← hji4, ← hji5]; first | rfl | (simp [errW_none, errW_some] <;> rfl)) | (simp [*, errW_none, errW_some] <;> rfl), by repeat (first | (with_reducible first | exact HB.out | apply below_alloc | apply pw_below_drewN | apply below_drew1) | exact HB.out)⟩

-- NOT PRINTED: function 74 (math_sqrt)

-- NOT PRINTED: function 62 (math_Sqrt)

-- NOT PRINTED: function 42 (num_Root)

-- NOT PRINTED: function 31 (spot_Dist)

-- NOT PRINTED: function 21 (inst_Travel)

-- NOT PRINTED: function 12 (sweep_Spread)

end Go.Proofs.Ytlpjankfedhhjaa.P
