-- printed by the session's own program wip/xprint.py (over the kit's printer); nothing here is trusted: Lean checks it
import Derived.Test.YtocoapfnkkmkiaaP0
import Derived.Test.YtocoapfnkkmkiaaP6
namespace Go.Proofs.Ytocoapfnkkmkiaa.P
open Go.Proofs.YtocoapfnkkmkiaaR
open Go.RowKit Go.Proofs.YtocoapfnkkmkiaaW.PrintWords Go.Proofs.YtocoapfnkkmkiaaW.PrintLast Go.Proofs.YtocoapfnkkmkiaaW.PrintMore
attribute [local go_sem] max2_int min2_int max_two min_two max_three min_three max_four min_four   -- for this text's walks alone
set_option linter.unusedVariables false
set_option linter.unusedSimpArgs false

-- EXTERN 10 jitneyref04_Add: by hand
def jitneyref04_Add.ok (a0_0 a0_1 a1_0 a1_1 : Int) : Bool := decide (-1073741824 ≤ a0_0 ∧ a0_0 ≤ 1073741824 ∧ -1073741824 ≤ a0_1 ∧ a0_1 ≤ 1073741824 ∧ -1073741824 ≤ a1_0 ∧ a1_0 ≤ 1073741824 ∧ -1073741824 ≤ a1_1 ∧ a1_1 ≤ 1073741824 ∧ -1073741824 ≤ wrap64 (a0_0 + a1_0) ∧ wrap64 (a0_0 + a1_0) ≤ 1073741824 ∧ -1073741824 ≤ wrap64 (a0_1 + a1_1) ∧ wrap64 (a0_1 + a1_1) ≤ 1073741824)
def jitneyref04_Add.f (a0_0 : Int) (a0_1 : Int) (a1_0 : Int) (a1_1 : Int) : Option (Int × Int × Bool) := if jitneyref04_Add.ok a0_0 a0_1 a1_0 a1_1 = true then some (wrap64 (a0_0 + a1_0), wrap64 (a0_1 + a1_1), true) else some (0, 0, false)
theorem jitneyref04_may.is (n : Int) : jitneyref04_may.f n = some (decide (-1073741824 ≤ n ∧ n ≤ 1073741824)) := by
  unfold jitneyref04_may.f
  by_cases h : n ≥ (-1073741824)
  · rw [if_pos h]
    by_cases h2 : n ≤ 1073741824
    · simp [h2]; omega
    · simp [h2]
  · rw [if_neg h]
    simp; omega
theorem jitneyref04_May.is (a b : Int) : jitneyref04_May.f a b = some (decide (-1073741824 ≤ a ∧ a ≤ 1073741824) && decide (-1073741824 ≤ b ∧ b ≤ 1073741824)) := by
  unfold jitneyref04_May.f
  simp only [jitneyref04_may.is, Option.bind_some]
  by_cases h : (-1073741824 ≤ a ∧ a ≤ 1073741824)
  · simp [h]
  · simp [h]
set_option maxHeartbeats 8000000 in
set_option maxRecDepth 100000 in
theorem jitneyref04_Add.way0 (a0_0 a0_1 a1_0 a1_1 : Int) (w : World) (h1 : jitneyref04_May.f a0_0 a0_1 = some false) :
    Calls Try.prog 10 #[.agg #[.int .i64 a0_0, .int .i64 a0_1], .agg #[.int .i64 a1_0, .int .i64 a1_1]] w fun e w' => e = .returned (.tuple #[.agg #[.int .i64 0, .int .i64 0], .bool false]) ∧ Below w.heap.size w w' := by
  have hu23 := Try.underlying23
  have H1 := Aside0.mk h1
  clear h1
  go_enter Try.func10, Try.ntmps10
  go_wp2_with (first | (go_at_call 12; (with_reducible refine (jitneyref04_May.calls a0_0 a0_1 false _ H1.out).mono ?_); rintro e w1 ⟨rfl, hb0⟩; have hb := hb0; clear hb0; have b1 := blk_below (blk_alloc (blk_alloc (blk_new w _) _) _) hb; have b2 := blk_below (blk_alloc (heap_alloc2_new w _ _) _) hb; have b3 := blk_below (heap_alloc3_new w _ _ _) hb; have HB := Aside0.mk (((below_alloc (below_alloc (below_alloc (Below.refl w.heap.size w) _) _) _)).trans (hb.mono (by simp; omega))); have B1 := Aside0.mk b1; have B2 := Aside0.mk b2; have B3 := Aside0.mk b3; obtain ⟨p10, p11, p12, p13⟩ := two b1; obtain ⟨p20, p21, p22, p23⟩ := two b2; obtain ⟨p30, p31, p32, p33⟩ := two b3; have l1 := blk_lt b1; have l2 := blk_lt b2; have l3 := blk_lt b3; clear b1 b2 b3 hb))
  refine bodyPost_ret (results_ct rfl _ _ (w.heap.size + 1 + 1) 23 #[.int .i64 0, .int .i64 0] (0, 0) _ rfl ?_ Try.underlying23 rfl (by kernel_rfl)) rfl ?_
  · exact blk_put (cs := #[.int .i64 0, .int .i64 0]) (blk_put (cs := #[.int .i64 0, .int .i64 0]) B3.out 0 _ rfl) 1 _ rfl
  · exact ⟨rfl, below_set (below_set HB.out (Nat.le_trans (Nat.le_succ _) (Nat.le_succ _))) (Nat.le_trans (Nat.le_succ _) (Nat.le_succ _))⟩
set_option maxHeartbeats 8000000 in
set_option maxRecDepth 100000 in
theorem jitneyref04_Add.way1 (a0_0 a0_1 a1_0 a1_1 : Int) (w : World) (h1 : jitneyref04_May.f a0_0 a0_1 = some true) (h2 : jitneyref04_May.f a1_0 a1_1 = some false) :
    Calls Try.prog 10 #[.agg #[.int .i64 a0_0, .int .i64 a0_1], .agg #[.int .i64 a1_0, .int .i64 a1_1]] w fun e w' => e = .returned (.tuple #[.agg #[.int .i64 0, .int .i64 0], .bool false]) ∧ Below w.heap.size w w' := by
  have hu23 := Try.underlying23
  have H1 := Aside0.mk h1
  have H2 := Aside0.mk h2
  clear h1 h2
  go_enter Try.func10, Try.ntmps10
  go_wp2_with (first | (go_at_call 12; (with_reducible refine (jitneyref04_May.calls a0_0 a0_1 true _ H1.out).mono ?_); rintro e w1 ⟨rfl, hb0⟩; have hb := hb0; clear hb0; have b1 := blk_below (blk_alloc (blk_alloc (blk_new w _) _) _) hb; have b2 := blk_below (blk_alloc (heap_alloc2_new w _ _) _) hb; have b3 := blk_below (heap_alloc3_new w _ _ _) hb; have HB := Aside0.mk (((below_alloc (below_alloc (below_alloc (Below.refl w.heap.size w) _) _) _)).trans (hb.mono (by simp; omega))); have B1 := Aside0.mk b1; have B2 := Aside0.mk b2; have B3 := Aside0.mk b3; obtain ⟨p10, p11, p12, p13⟩ := two b1; obtain ⟨p20, p21, p22, p23⟩ := two b2; obtain ⟨p30, p31, p32, p33⟩ := two b3; have l1 := blk_lt b1; have l2 := blk_lt b2; have l3 := blk_lt b3; clear b1 b2 b3 hb) | (go_at_call 12; (with_reducible refine (jitneyref04_May.calls a1_0 a1_1 false _ H2.out).mono ?_); rintro e w2 ⟨rfl, hb0⟩; have hb := hb0; clear hb0; have b1 := blk_below B1.out hb; have b2 := blk_below B2.out hb; have b3 := blk_below B3.out hb; have HB0 := Aside0.mk (HB.out.trans (hb.mono HB.out.size)); clear HB; have HB := HB0; clear HB0; clear p10 p11 p12 p13 p20 p21 p22 p23 p30 p31 p32 p33 l1 l2 l3 B1 B2 B3; have B1 := Aside0.mk b1; have B2 := Aside0.mk b2; have B3 := Aside0.mk b3; obtain ⟨p10, p11, p12, p13⟩ := two b1; obtain ⟨p20, p21, p22, p23⟩ := two b2; obtain ⟨p30, p31, p32, p33⟩ := two b3; have l1 := blk_lt b1; have l2 := blk_lt b2; have l3 := blk_lt b3; clear b1 b2 b3 hb))
  refine bodyPost_ret (results_ct rfl _ _ (w.heap.size + 1 + 1) 23 #[.int .i64 0, .int .i64 0] (0, 0) _ rfl ?_ Try.underlying23 rfl (by kernel_rfl)) rfl ?_
  · exact blk_put (cs := #[.int .i64 0, .int .i64 0]) (blk_put (cs := #[.int .i64 0, .int .i64 0]) B3.out 0 _ rfl) 1 _ rfl
  · exact ⟨rfl, below_set (below_set HB.out (Nat.le_trans (Nat.le_succ _) (Nat.le_succ _))) (Nat.le_trans (Nat.le_succ _) (Nat.le_succ _))⟩
set_option maxHeartbeats 8000000 in
set_option maxRecDepth 100000 in
theorem jitneyref04_Add.way2 (a0_0 a0_1 a1_0 a1_1 : Int) (w : World) (h1 : jitneyref04_May.f a0_0 a0_1 = some true) (h2 : jitneyref04_May.f a1_0 a1_1 = some true) (h3 : jitneyref04_may.f (wrap64 (a0_0 + a1_0)) = some false) :
    Calls Try.prog 10 #[.agg #[.int .i64 a0_0, .int .i64 a0_1], .agg #[.int .i64 a1_0, .int .i64 a1_1]] w fun e w' => e = .returned (.tuple #[.agg #[.int .i64 0, .int .i64 0], .bool false]) ∧ Below w.heap.size w w' := by
  have hu23 := Try.underlying23
  have H1 := Aside0.mk h1
  have H2 := Aside0.mk h2
  have H3 := Aside0.mk h3
  clear h1 h2 h3
  go_enter Try.func10, Try.ntmps10
  go_wp2_with (first | (go_at_call 12; (with_reducible refine (jitneyref04_May.calls a0_0 a0_1 true _ H1.out).mono ?_); rintro e w1 ⟨rfl, hb0⟩; have hb := hb0; clear hb0; have b1 := blk_below (blk_alloc (blk_alloc (blk_new w _) _) _) hb; have b2 := blk_below (blk_alloc (heap_alloc2_new w _ _) _) hb; have b3 := blk_below (heap_alloc3_new w _ _ _) hb; have HB := Aside0.mk (((below_alloc (below_alloc (below_alloc (Below.refl w.heap.size w) _) _) _)).trans (hb.mono (by simp; omega))); have B1 := Aside0.mk b1; have B2 := Aside0.mk b2; have B3 := Aside0.mk b3; obtain ⟨p10, p11, p12, p13⟩ := two b1; obtain ⟨p20, p21, p22, p23⟩ := two b2; obtain ⟨p30, p31, p32, p33⟩ := two b3; have l1 := blk_lt b1; have l2 := blk_lt b2; have l3 := blk_lt b3; clear b1 b2 b3 hb) | (go_at_call 12; (with_reducible refine (jitneyref04_May.calls a1_0 a1_1 true _ H2.out).mono ?_); rintro e w2 ⟨rfl, hb0⟩; have hb := hb0; clear hb0; have b1 := blk_below B1.out hb; have b2 := blk_below B2.out hb; have b3 := blk_below B3.out hb; have HB0 := Aside0.mk (HB.out.trans (hb.mono HB.out.size)); clear HB; have HB := HB0; clear HB0; clear p10 p11 p12 p13 p20 p21 p22 p23 p30 p31 p32 p33 l1 l2 l3 B1 B2 B3; have B1 := Aside0.mk b1; have B2 := Aside0.mk b2; have B3 := Aside0.mk b3; obtain ⟨p10, p11, p12, p13⟩ := two b1; obtain ⟨p20, p21, p22, p23⟩ := two b2; obtain ⟨p30, p31, p32, p33⟩ := two b3; have l1 := blk_lt b1; have l2 := blk_lt b2; have l3 := blk_lt b3; clear b1 b2 b3 hb) | (go_at_call 23; (with_reducible refine (jitneyref04_may.calls (wrap64 (a0_0 + a1_0)) false _ H3.out).mono ?_); rintro e w3 ⟨rfl, hb0⟩; have hb := hb0.below; clear hb0; have b1 := blk_below B1.out hb; have b2 := blk_below B2.out hb; have b3 := blk_below B3.out hb; have HB0 := Aside0.mk (HB.out.trans (hb.mono HB.out.size)); clear HB; have HB := HB0; clear HB0; clear p10 p11 p12 p13 p20 p21 p22 p23 p30 p31 p32 p33 l1 l2 l3 B1 B2 B3; have B1 := Aside0.mk b1; have B2 := Aside0.mk b2; have B3 := Aside0.mk b3; obtain ⟨p10, p11, p12, p13⟩ := two b1; obtain ⟨p20, p21, p22, p23⟩ := two b2; obtain ⟨p30, p31, p32, p33⟩ := two b3; have l1 := blk_lt b1; have l2 := blk_lt b2; have l3 := blk_lt b3; clear b1 b2 b3 hb))
  refine bodyPost_ret (results_ct rfl _ _ (w.heap.size + 1 + 1) 23 #[.int .i64 0, .int .i64 0] (0, 0) _ rfl ?_ Try.underlying23 rfl (by kernel_rfl)) rfl ?_
  · exact blk_put (cs := #[.int .i64 0, .int .i64 0]) (blk_put (cs := #[.int .i64 0, .int .i64 0]) B3.out 0 _ rfl) 1 _ rfl
  · exact ⟨rfl, below_set (below_set HB.out (Nat.le_trans (Nat.le_succ _) (Nat.le_succ _))) (Nat.le_trans (Nat.le_succ _) (Nat.le_succ _))⟩
set_option maxHeartbeats 8000000 in
set_option maxRecDepth 100000 in
theorem jitneyref04_Add.way3 (a0_0 a0_1 a1_0 a1_1 : Int) (w : World) (h1 : jitneyref04_May.f a0_0 a0_1 = some true) (h2 : jitneyref04_May.f a1_0 a1_1 = some true) (h3 : jitneyref04_may.f (wrap64 (a0_0 + a1_0)) = some true) (h4 : jitneyref04_may.f (wrap64 (a0_1 + a1_1)) = some false) :
    Calls Try.prog 10 #[.agg #[.int .i64 a0_0, .int .i64 a0_1], .agg #[.int .i64 a1_0, .int .i64 a1_1]] w fun e w' => e = .returned (.tuple #[.agg #[.int .i64 0, .int .i64 0], .bool false]) ∧ Below w.heap.size w w' := by
  have hu23 := Try.underlying23
  have H1 := Aside0.mk h1
  have H2 := Aside0.mk h2
  have H3 := Aside0.mk h3
  have H4 := Aside0.mk h4
  clear h1 h2 h3 h4
  go_enter Try.func10, Try.ntmps10
  go_wp2_with (first | (go_at_call 12; (with_reducible refine (jitneyref04_May.calls a0_0 a0_1 true _ H1.out).mono ?_); rintro e w1 ⟨rfl, hb0⟩; have hb := hb0; clear hb0; have b1 := blk_below (blk_alloc (blk_alloc (blk_new w _) _) _) hb; have b2 := blk_below (blk_alloc (heap_alloc2_new w _ _) _) hb; have b3 := blk_below (heap_alloc3_new w _ _ _) hb; have HB := Aside0.mk (((below_alloc (below_alloc (below_alloc (Below.refl w.heap.size w) _) _) _)).trans (hb.mono (by simp; omega))); have B1 := Aside0.mk b1; have B2 := Aside0.mk b2; have B3 := Aside0.mk b3; obtain ⟨p10, p11, p12, p13⟩ := two b1; obtain ⟨p20, p21, p22, p23⟩ := two b2; obtain ⟨p30, p31, p32, p33⟩ := two b3; have l1 := blk_lt b1; have l2 := blk_lt b2; have l3 := blk_lt b3; clear b1 b2 b3 hb) | (go_at_call 12; (with_reducible refine (jitneyref04_May.calls a1_0 a1_1 true _ H2.out).mono ?_); rintro e w2 ⟨rfl, hb0⟩; have hb := hb0; clear hb0; have b1 := blk_below B1.out hb; have b2 := blk_below B2.out hb; have b3 := blk_below B3.out hb; have HB0 := Aside0.mk (HB.out.trans (hb.mono HB.out.size)); clear HB; have HB := HB0; clear HB0; clear p10 p11 p12 p13 p20 p21 p22 p23 p30 p31 p32 p33 l1 l2 l3 B1 B2 B3; have B1 := Aside0.mk b1; have B2 := Aside0.mk b2; have B3 := Aside0.mk b3; obtain ⟨p10, p11, p12, p13⟩ := two b1; obtain ⟨p20, p21, p22, p23⟩ := two b2; obtain ⟨p30, p31, p32, p33⟩ := two b3; have l1 := blk_lt b1; have l2 := blk_lt b2; have l3 := blk_lt b3; clear b1 b2 b3 hb) | (go_at_call 23; (with_reducible refine (jitneyref04_may.calls (wrap64 (a0_0 + a1_0)) true _ H3.out).mono ?_); rintro e w3 ⟨rfl, hb0⟩; have hb := hb0.below; clear hb0; have b1 := blk_below B1.out hb; have b2 := blk_below B2.out hb; have b3 := blk_below B3.out hb; have HB0 := Aside0.mk (HB.out.trans (hb.mono HB.out.size)); clear HB; have HB := HB0; clear HB0; clear p10 p11 p12 p13 p20 p21 p22 p23 p30 p31 p32 p33 l1 l2 l3 B1 B2 B3; have B1 := Aside0.mk b1; have B2 := Aside0.mk b2; have B3 := Aside0.mk b3; obtain ⟨p10, p11, p12, p13⟩ := two b1; obtain ⟨p20, p21, p22, p23⟩ := two b2; obtain ⟨p30, p31, p32, p33⟩ := two b3; have l1 := blk_lt b1; have l2 := blk_lt b2; have l3 := blk_lt b3; clear b1 b2 b3 hb) | (go_at_call 23; (with_reducible refine (jitneyref04_may.calls (wrap64 (a0_1 + a1_1)) false _ H4.out).mono ?_); rintro e w4 ⟨rfl, hb0⟩; have hb := hb0.below; clear hb0; have b1 := blk_below B1.out hb; have b2 := blk_below B2.out hb; have b3 := blk_below B3.out hb; have HB0 := Aside0.mk (HB.out.trans (hb.mono HB.out.size)); clear HB; have HB := HB0; clear HB0; clear p10 p11 p12 p13 p20 p21 p22 p23 p30 p31 p32 p33 l1 l2 l3 B1 B2 B3; have B1 := Aside0.mk b1; have B2 := Aside0.mk b2; have B3 := Aside0.mk b3; obtain ⟨p10, p11, p12, p13⟩ := two b1; obtain ⟨p20, p21, p22, p23⟩ := two b2; obtain ⟨p30, p31, p32, p33⟩ := two b3; have l1 := blk_lt b1; have l2 := blk_lt b2; have l3 := blk_lt b3; clear b1 b2 b3 hb))
  refine bodyPost_ret (results_ct rfl _ _ (w.heap.size + 1 + 1) 23 #[.int .i64 0, .int .i64 0] (0, 0) _ rfl ?_ Try.underlying23 rfl (by kernel_rfl)) rfl ?_
  · exact blk_put (cs := #[.int .i64 0, .int .i64 0]) (blk_put (cs := #[.int .i64 0, .int .i64 0]) B3.out 0 _ rfl) 1 _ rfl
  · exact ⟨rfl, below_set (below_set HB.out (Nat.le_trans (Nat.le_succ _) (Nat.le_succ _))) (Nat.le_trans (Nat.le_succ _) (Nat.le_succ _))⟩
set_option maxHeartbeats 8000000 in
set_option maxRecDepth 100000 in
theorem jitneyref04_Add.way4 (a0_0 a0_1 a1_0 a1_1 : Int) (w : World) (h1 : jitneyref04_May.f a0_0 a0_1 = some true) (h2 : jitneyref04_May.f a1_0 a1_1 = some true) (h3 : jitneyref04_may.f (wrap64 (a0_0 + a1_0)) = some true) (h4 : jitneyref04_may.f (wrap64 (a0_1 + a1_1)) = some true) :
    Calls Try.prog 10 #[.agg #[.int .i64 a0_0, .int .i64 a0_1], .agg #[.int .i64 a1_0, .int .i64 a1_1]] w fun e w' => e = .returned (.tuple #[.agg #[.int .i64 (wrap64 (a0_0 + a1_0)), .int .i64 (wrap64 (a0_1 + a1_1))], .bool true]) ∧ Below w.heap.size w w' := by
  have hu23 := Try.underlying23
  have H1 := Aside0.mk h1
  have H2 := Aside0.mk h2
  have H3 := Aside0.mk h3
  have H4 := Aside0.mk h4
  clear h1 h2 h3 h4
  go_enter Try.func10, Try.ntmps10
  go_wp2_with (first | (go_at_call 12; (with_reducible refine (jitneyref04_May.calls a0_0 a0_1 true _ H1.out).mono ?_); rintro e w1 ⟨rfl, hb0⟩; have hb := hb0; clear hb0; have b1 := blk_below (blk_alloc (blk_alloc (blk_new w _) _) _) hb; have b2 := blk_below (blk_alloc (heap_alloc2_new w _ _) _) hb; have b3 := blk_below (heap_alloc3_new w _ _ _) hb; have HB := Aside0.mk (((below_alloc (below_alloc (below_alloc (Below.refl w.heap.size w) _) _) _)).trans (hb.mono (by simp; omega))); have B1 := Aside0.mk b1; have B2 := Aside0.mk b2; have B3 := Aside0.mk b3; obtain ⟨p10, p11, p12, p13⟩ := two b1; obtain ⟨p20, p21, p22, p23⟩ := two b2; obtain ⟨p30, p31, p32, p33⟩ := two b3; have l1 := blk_lt b1; have l2 := blk_lt b2; have l3 := blk_lt b3; clear b1 b2 b3 hb) | (go_at_call 12; (with_reducible refine (jitneyref04_May.calls a1_0 a1_1 true _ H2.out).mono ?_); rintro e w2 ⟨rfl, hb0⟩; have hb := hb0; clear hb0; have b1 := blk_below B1.out hb; have b2 := blk_below B2.out hb; have b3 := blk_below B3.out hb; have HB0 := Aside0.mk (HB.out.trans (hb.mono HB.out.size)); clear HB; have HB := HB0; clear HB0; clear p10 p11 p12 p13 p20 p21 p22 p23 p30 p31 p32 p33 l1 l2 l3 B1 B2 B3; have B1 := Aside0.mk b1; have B2 := Aside0.mk b2; have B3 := Aside0.mk b3; obtain ⟨p10, p11, p12, p13⟩ := two b1; obtain ⟨p20, p21, p22, p23⟩ := two b2; obtain ⟨p30, p31, p32, p33⟩ := two b3; have l1 := blk_lt b1; have l2 := blk_lt b2; have l3 := blk_lt b3; clear b1 b2 b3 hb) | (go_at_call 23; (with_reducible refine (jitneyref04_may.calls (wrap64 (a0_0 + a1_0)) true _ H3.out).mono ?_); rintro e w3 ⟨rfl, hb0⟩; have hb := hb0.below; clear hb0; have b1 := blk_below B1.out hb; have b2 := blk_below B2.out hb; have b3 := blk_below B3.out hb; have HB0 := Aside0.mk (HB.out.trans (hb.mono HB.out.size)); clear HB; have HB := HB0; clear HB0; clear p10 p11 p12 p13 p20 p21 p22 p23 p30 p31 p32 p33 l1 l2 l3 B1 B2 B3; have B1 := Aside0.mk b1; have B2 := Aside0.mk b2; have B3 := Aside0.mk b3; obtain ⟨p10, p11, p12, p13⟩ := two b1; obtain ⟨p20, p21, p22, p23⟩ := two b2; obtain ⟨p30, p31, p32, p33⟩ := two b3; have l1 := blk_lt b1; have l2 := blk_lt b2; have l3 := blk_lt b3; clear b1 b2 b3 hb) | (go_at_call 23; (with_reducible refine (jitneyref04_may.calls (wrap64 (a0_1 + a1_1)) true _ H4.out).mono ?_); rintro e w4 ⟨rfl, hb0⟩; have hb := hb0.below; clear hb0; have b1 := blk_below B1.out hb; have b2 := blk_below B2.out hb; have b3 := blk_below B3.out hb; have HB0 := Aside0.mk (HB.out.trans (hb.mono HB.out.size)); clear HB; have HB := HB0; clear HB0; clear p10 p11 p12 p13 p20 p21 p22 p23 p30 p31 p32 p33 l1 l2 l3 B1 B2 B3; have B1 := Aside0.mk b1; have B2 := Aside0.mk b2; have B3 := Aside0.mk b3; obtain ⟨p10, p11, p12, p13⟩ := two b1; obtain ⟨p20, p21, p22, p23⟩ := two b2; obtain ⟨p30, p31, p32, p33⟩ := two b3; have l1 := blk_lt b1; have l2 := blk_lt b2; have l3 := blk_lt b3; clear b1 b2 b3 hb))
  refine bodyPost_ret (results_ct rfl _ _ (w.heap.size + 1 + 1) 23 #[.int .i64 (wrap64 (a0_0 + a1_0)), .int .i64 (wrap64 (a0_1 + a1_1))] (0, 0) _ rfl ?_ Try.underlying23 rfl (by kernel_rfl)) rfl ?_
  · exact blk_put (cs := #[.int .i64 (wrap64 (a0_0 + a1_0)), .int .i64 0]) (blk_put (cs := #[.int .i64 0, .int .i64 0]) B3.out 0 _ rfl) 1 _ rfl
  · exact ⟨rfl, below_set (below_set HB.out (Nat.le_trans (Nat.le_succ _) (Nat.le_succ _))) (Nat.le_trans (Nat.le_succ _) (Nat.le_succ _))⟩
theorem jitneyref04_Add.calls (a0_0 : Int) (a0_1 : Int) (a1_0 : Int) (a1_1 : Int) (r1 : Int) (r2 : Int) (r3 : Bool) (w : World) (h : jitneyref04_Add.f a0_0 a0_1 a1_0 a1_1 = some (r1, r2, r3)) :
    Calls Try.prog 10 #[.agg #[.int .i64 a0_0, .int .i64 a0_1], .agg #[.int .i64 a1_0, .int .i64 a1_1]] w fun e w' => e = .returned (.tuple #[.agg #[.int .i64 r1, .int .i64 r2], .bool r3]) ∧ Below w.heap.size w w' := by
  have e1 := jitneyref04_May.is a0_0 a0_1
  have e2 := jitneyref04_May.is a1_0 a1_1
  have e3 := jitneyref04_may.is (wrap64 (a0_0 + a1_0))
  have e4 := jitneyref04_may.is (wrap64 (a0_1 + a1_1))
  unfold jitneyref04_Add.f at h
  cases hok : jitneyref04_Add.ok a0_0 a0_1 a1_0 a1_1 with
  | true =>
    rw [hok, if_pos rfl] at h
    simp only [Option.some.injEq, Prod.mk.injEq] at h
    obtain ⟨rfl, rfl, rfl⟩ := h
    simp only [jitneyref04_Add.ok, decide_eq_true_eq] at hok
    refine jitneyref04_Add.way4 a0_0 a0_1 a1_0 a1_1 w (e1.trans ?_) (e2.trans ?_) (e3.trans ?_) (e4.trans ?_)
    all_goals (simp; omega)
  | false =>
    rw [hok, if_neg (by decide)] at h
    simp only [Option.some.injEq, Prod.mk.injEq] at h
    obtain ⟨rfl, rfl, rfl⟩ := h
    simp only [jitneyref04_Add.ok, decide_eq_false_iff_not] at hok
    cases h1 : (decide (-1073741824 ≤ a0_0 ∧ a0_0 ≤ 1073741824) && decide (-1073741824 ≤ a0_1 ∧ a0_1 ≤ 1073741824)) with
    | false => exact jitneyref04_Add.way0 a0_0 a0_1 a1_0 a1_1 w (e1.trans (by rw [h1]))
    | true =>
      cases h2 : (decide (-1073741824 ≤ a1_0 ∧ a1_0 ≤ 1073741824) && decide (-1073741824 ≤ a1_1 ∧ a1_1 ≤ 1073741824)) with
      | false => exact jitneyref04_Add.way1 a0_0 a0_1 a1_0 a1_1 w (e1.trans (by rw [h1])) (e2.trans (by rw [h2]))
      | true =>
        cases h3 : decide (-1073741824 ≤ wrap64 (a0_0 + a1_0) ∧ wrap64 (a0_0 + a1_0) ≤ 1073741824) with
        | false => exact jitneyref04_Add.way2 a0_0 a0_1 a1_0 a1_1 w (e1.trans (by rw [h1])) (e2.trans (by rw [h2])) (e3.trans (by rw [h3]))
        | true =>
          refine jitneyref04_Add.way3 a0_0 a0_1 a1_0 a1_1 w (e1.trans (by rw [h1])) (e2.trans (by rw [h2])) (e3.trans (by rw [h3])) (e4.trans ?_)
          simp only [Bool.and_eq_true, decide_eq_true_eq] at h1 h2 h3
          simp only [Option.some.injEq, decide_eq_false_iff_not]
          omega

end Go.Proofs.Ytocoapfnkkmkiaa.P
