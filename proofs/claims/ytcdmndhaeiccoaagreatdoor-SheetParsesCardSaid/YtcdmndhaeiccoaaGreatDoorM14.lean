/- P9 What the closures of inst say; the ranges. The ranges of an instance. The times of an instance. Sizes, requests. P1 -/
import Derived.Test.YtcdmndhaeiccoaaGreatDoorMkit
import Derived.Test.YtcdmndhaeiccoaaGreatDoorM00
import Derived.Test.YtcdmndhaeiccoaaGreatDoorM02
import Derived.Test.YtcdmndhaeiccoaaGreatDoorM13
import Derived.Test.YtcdmndhaeiccoaaGreatDoorM06
import Derived.Shelf.SlSortCmp.QuietGrown
import Derived.Lib.AppendIntMem
namespace Go.Proofs.YtcdmndhaeiccoaaGreatDoor.P
open Go.Proofs.YtcdmndhaeiccoaaGreatDoorR
open Go.RowKit Go.Proofs.YtcdmndhaeiccoaaGreatDoorW.PrintWords Go.Proofs.YtcdmndhaeiccoaaGreatDoorW.PrintLast
attribute [local go_sem] max2_int min2_int max_two min_two   -- for this text's walks alone
set_option linter.unusedVariables false
set_option linter.unusedSimpArgs false

/-! ### load_within: function 101 -/
def load_within.f (a0_0 : Int) (a0_1 : Int) (a1 : Int) (a2 : Int) : Option (Bool) := if a0_0 ≥ a1 then (if a0_0 ≤ a2 then (if a0_1 ≥ a1 then (some (decide (a0_1 ≤ a2))) else (some false)) else (some false)) else (some false)
set_option maxHeartbeats 8000000 in
set_option maxRecDepth 100000 in
theorem load_within.calls (a0_0 : Int) (a0_1 : Int) (a1 : Int) (a2 : Int) (r : Bool) (w : World) (h : load_within.f a0_0 a0_1 a1 a2 = some r) :
    Calls Tryz.prog 101 #[.agg #[.int .i64 a0_0, .int .i64 a0_1], .int .i64 a1, .int .i64 a2] w fun e w' => e = .returned (.bool r) ∧ Below w.heap.size w w' := by
  have hu58 := Tryz.underlying58
  have HB := Aside0.mk (Below.refl w.heap.size w)
  have H : (if a0_0 ≥ a1 then (if a0_0 ≤ a2 then (if a0_1 ≥ a1 then (some (decide (a0_1 ≤ a2))) else (some false)) else (some false)) else (some false)) = some r := h
  clear h
  by_cases c4 : a0_0 ≥ a1
  · rw [if_pos c4] at H
    have c4b0 : decide (a1 ≤ a0_0) = true := decide_eq_true c4
    clear c4
    by_cases c5 : a0_0 ≤ a2
    · rw [if_pos c5] at H
      have c5b0 : decide (a0_0 ≤ a2) = true := decide_eq_true c5
      clear c5
      by_cases c6 : a0_1 ≥ a1
      · rw [if_pos c6] at H
        have c6b0 : decide (a1 ≤ a0_1) = true := decide_eq_true c6
        clear c6
        obtain rfl := Option.some.inj H
        go_enter Tryz.func101, Tryz.ntmps101
        go_wp2_with (first | ((with_reducible refine gate_dst (N := 3) rfl ?_); refine box_event ?hg (N := 3) ?hd (cs := #[.int .i64 a0_0, .int .i64 a0_1]) (t := 58) ?hr ?_; (case hd => rfl); (case hg => rfl); (case hr => first | (go_simp; done) | (go_simp; rfl)); intro gb155 hg w7 hbox hb; have n0_ := Aside0.mk (below_step (by repeat (first | (with_reducible first | exact HB.out | apply below_alloc | apply pw_below_drewN | apply below_drew1) | exact HB.out)) hb); have n1_ := Aside0.mk (hbox); have n2_ := Aside0.mk ((by rw [hg]; exact (below_size (by repeat (first | (with_reducible first | exact HB.out | apply below_alloc | apply pw_below_drewN | apply below_drew1) | exact HB.out))) : w.heap.size ≤ gb155)); have n3_ := Aside0.mk ((by rw [hg]; exact (below_size (by repeat (first | (with_reducible first | exact HB.out | apply below_alloc | apply pw_below_drewN | apply below_drew1) | exact HB.out))) : w.heap.size ≤ gb155)); clear HB; have HB := n0_; have BK155 := n1_; have GW155 := n2_; have GE155 := n3_; clear n0_ n1_ n2_ n3_; clear hb hbox hg; have hcz8_0 : w7.cell? ⟨gb155, 0, none⟩ = some (.int .i64 a0_0) := (blk_cell BK155.out 0).trans rfl; have hcz8_1 : w7.cell? ⟨gb155, 1, none⟩ = some (.int .i64 a0_1) := (blk_cell BK155.out 1).trans rfl; have hfz8_0 := blk_frozen BK155.out 0; have hfz8_1 := blk_frozen BK155.out 1))
        go_ret
        exact ⟨by first | rfl | (simp [errW_none, errW_some] <;> rfl) | (simp [*, errW_none, errW_some] <;> rfl), by repeat (first | (with_reducible first | exact HB.out | apply below_alloc | apply pw_below_drewN | apply below_drew1 | refine below_set ?_ GE155.out) | exact HB.out)⟩
      · rw [if_neg c6] at H
        have c6b0 : decide (a1 ≤ a0_1) = false := decide_eq_false c6
        clear c6
        obtain rfl := Option.some.inj H
        go_enter Tryz.func101, Tryz.ntmps101
        go_wp2_with (first | ((with_reducible refine gate_dst (N := 3) rfl ?_); refine box_event ?hg (N := 3) ?hd (cs := #[.int .i64 a0_0, .int .i64 a0_1]) (t := 58) ?hr ?_; (case hd => rfl); (case hg => rfl); (case hr => first | (go_simp; done) | (go_simp; rfl)); intro gb155 hg w9 hbox hb; have n0_ := Aside0.mk (below_step (by repeat (first | (with_reducible first | exact HB.out | apply below_alloc | apply pw_below_drewN | apply below_drew1) | exact HB.out)) hb); have n1_ := Aside0.mk (hbox); have n2_ := Aside0.mk ((by rw [hg]; exact (below_size (by repeat (first | (with_reducible first | exact HB.out | apply below_alloc | apply pw_below_drewN | apply below_drew1) | exact HB.out))) : w.heap.size ≤ gb155)); have n3_ := Aside0.mk ((by rw [hg]; exact (below_size (by repeat (first | (with_reducible first | exact HB.out | apply below_alloc | apply pw_below_drewN | apply below_drew1) | exact HB.out))) : w.heap.size ≤ gb155)); clear HB; have HB := n0_; have BK155 := n1_; have GW155 := n2_; have GE155 := n3_; clear n0_ n1_ n2_ n3_; clear hb hbox hg; have hcz10_0 : w9.cell? ⟨gb155, 0, none⟩ = some (.int .i64 a0_0) := (blk_cell BK155.out 0).trans rfl; have hcz10_1 : w9.cell? ⟨gb155, 1, none⟩ = some (.int .i64 a0_1) := (blk_cell BK155.out 1).trans rfl; have hfz10_0 := blk_frozen BK155.out 0; have hfz10_1 := blk_frozen BK155.out 1))
        go_ret
        exact ⟨by first | rfl | (simp [errW_none, errW_some] <;> rfl) | (simp [*, errW_none, errW_some] <;> rfl), by repeat (first | (with_reducible first | exact HB.out | apply below_alloc | apply pw_below_drewN | apply below_drew1 | refine below_set ?_ GE155.out) | exact HB.out)⟩
    · rw [if_neg c5] at H
      have c5b0 : decide (a0_0 ≤ a2) = false := decide_eq_false c5
      clear c5
      obtain rfl := Option.some.inj H
      go_enter Tryz.func101, Tryz.ntmps101
      go_wp2_with (first | ((with_reducible refine gate_dst (N := 3) rfl ?_); refine box_event ?hg (N := 3) ?hd (cs := #[.int .i64 a0_0, .int .i64 a0_1]) (t := 58) ?hr ?_; (case hd => rfl); (case hg => rfl); (case hr => first | (go_simp; done) | (go_simp; rfl)); intro gb155 hg w11 hbox hb; have n0_ := Aside0.mk (below_step (by repeat (first | (with_reducible first | exact HB.out | apply below_alloc | apply pw_below_drewN | apply below_drew1) | exact HB.out)) hb); have n1_ := Aside0.mk (hbox); have n2_ := Aside0.mk ((by rw [hg]; exact (below_size (by repeat (first | (with_reducible first | exact HB.out | apply below_alloc | apply pw_below_drewN | apply below_drew1) | exact HB.out))) : w.heap.size ≤ gb155)); have n3_ := Aside0.mk ((by rw [hg]; exact (below_size (by repeat (first | (with_reducible first | exact HB.out | apply below_alloc | apply pw_below_drewN | apply below_drew1) | exact HB.out))) : w.heap.size ≤ gb155)); clear HB; have HB := n0_; have BK155 := n1_; have GW155 := n2_; have GE155 := n3_; clear n0_ n1_ n2_ n3_; clear hb hbox hg; have hcz12_0 : w11.cell? ⟨gb155, 0, none⟩ = some (.int .i64 a0_0) := (blk_cell BK155.out 0).trans rfl; have hcz12_1 : w11.cell? ⟨gb155, 1, none⟩ = some (.int .i64 a0_1) := (blk_cell BK155.out 1).trans rfl; have hfz12_0 := blk_frozen BK155.out 0; have hfz12_1 := blk_frozen BK155.out 1))
      go_ret
      exact ⟨by first | rfl | (simp [errW_none, errW_some] <;> rfl) | (simp [*, errW_none, errW_some] <;> rfl), by repeat (first | (with_reducible first | exact HB.out | apply below_alloc | apply pw_below_drewN | apply below_drew1 | refine below_set ?_ GE155.out) | exact HB.out)⟩
  · rw [if_neg c4] at H
    have c4b0 : decide (a1 ≤ a0_0) = false := decide_eq_false c4
    clear c4
    obtain rfl := Option.some.inj H
    go_enter Tryz.func101, Tryz.ntmps101
    go_wp2_with (first | ((with_reducible refine gate_dst (N := 3) rfl ?_); refine box_event ?hg (N := 3) ?hd (cs := #[.int .i64 a0_0, .int .i64 a0_1]) (t := 58) ?hr ?_; (case hd => rfl); (case hg => rfl); (case hr => first | (go_simp; done) | (go_simp; rfl)); intro gb155 hg w13 hbox hb; have n0_ := Aside0.mk (below_step (by repeat (first | (with_reducible first | exact HB.out | apply below_alloc | apply pw_below_drewN | apply below_drew1) | exact HB.out)) hb); have n1_ := Aside0.mk (hbox); have n2_ := Aside0.mk ((by rw [hg]; exact (below_size (by repeat (first | (with_reducible first | exact HB.out | apply below_alloc | apply pw_below_drewN | apply below_drew1) | exact HB.out))) : w.heap.size ≤ gb155)); have n3_ := Aside0.mk ((by rw [hg]; exact (below_size (by repeat (first | (with_reducible first | exact HB.out | apply below_alloc | apply pw_below_drewN | apply below_drew1) | exact HB.out))) : w.heap.size ≤ gb155)); clear HB; have HB := n0_; have BK155 := n1_; have GW155 := n2_; have GE155 := n3_; clear n0_ n1_ n2_ n3_; clear hb hbox hg; have hcz14_0 : w13.cell? ⟨gb155, 0, none⟩ = some (.int .i64 a0_0) := (blk_cell BK155.out 0).trans rfl; have hcz14_1 : w13.cell? ⟨gb155, 1, none⟩ = some (.int .i64 a0_1) := (blk_cell BK155.out 1).trans rfl; have hfz14_0 := blk_frozen BK155.out 0; have hfz14_1 := blk_frozen BK155.out 1))
    go_ret
    exact ⟨by first | rfl | (simp [errW_none, errW_some] <;> rfl) | (simp [*, errW_none, errW_some] <;> rfl), by repeat (first | (with_reducible first | exact HB.out | apply below_alloc | apply pw_below_drewN | apply below_drew1 | refine below_set ?_ GE155.out) | exact HB.out)⟩

/-! ### load_Right: function 65 -/
def load_Right.f (a0_0 : Int) (a0_1 : Int) : Option (Bool) := (load_within.f a0_0 a0_1 0 1000).bind fun t157 => (some t157)
set_option maxHeartbeats 8000000 in
set_option maxRecDepth 100000 in
theorem load_Right.calls (a0_0 : Int) (a0_1 : Int) (r : Bool) (w : World) (h : load_Right.f a0_0 a0_1 = some r) :
    Calls Tryz.prog 65 #[.agg #[.int .i64 a0_0, .int .i64 a0_1]] w fun e w' => e = .returned (.bool r) ∧ Below w.heap.size w w' := by
  have hu58 := Tryz.underlying58
  have HB := Aside0.mk (Below.refl w.heap.size w)
  have H : ((load_within.f a0_0 a0_1 0 1000).bind fun t157 => (some t157)) = some r := h
  clear h
  replace H := Option.bind_eq_some_iff.mp H
  obtain ⟨t157, A20, H⟩ := H
  replace H : (some t157) = some r := H
  have A2 := Aside0.mk A20
  clear A20
  obtain rfl := Option.some.inj H
  go_enter Tryz.func65, Tryz.ntmps65
  go_wp2_with (first | ((with_reducible refine gate_dst (N := 1) rfl ?_); refine box_event ?hg (N := 1) ?hd (cs := #[.int .i64 a0_0, .int .i64 a0_1]) (t := 58) ?hr ?_; (case hd => rfl); (case hg => rfl); (case hr => first | (go_simp; done) | (go_simp; rfl)); intro gb156 hg w3 hbox hb; have n0_ := Aside0.mk (below_step (by repeat (first | (with_reducible first | exact HB.out | apply below_alloc | apply pw_below_drewN | apply below_drew1) | exact HB.out)) hb); have n1_ := Aside0.mk (hbox); have n2_ := Aside0.mk ((by rw [hg]; exact (below_size (by repeat (first | (with_reducible first | exact HB.out | apply below_alloc | apply pw_below_drewN | apply below_drew1) | exact HB.out))) : w.heap.size ≤ gb156)); have n3_ := Aside0.mk ((by rw [hg]; exact (below_size (by repeat (first | (with_reducible first | exact HB.out | apply below_alloc | apply pw_below_drewN | apply below_drew1) | exact HB.out))) : w.heap.size ≤ gb156)); clear HB; have HB := n0_; have BK156 := n1_; have GW156 := n2_; have GE156 := n3_; clear n0_ n1_ n2_ n3_; clear hb hbox hg; have hcz4_0 : w3.cell? ⟨gb156, 0, none⟩ = some (.int .i64 a0_0) := (blk_cell BK156.out 0).trans rfl; have hcz4_1 : w3.cell? ⟨gb156, 1, none⟩ = some (.int .i64 a0_1) := (blk_cell BK156.out 1).trans rfl; have hfz4_0 := blk_frozen BK156.out 0; have hfz4_1 := blk_frozen BK156.out 1) | ((with_reducible refine gate_callee (f := 101) rfl ?_); refine goesL_ (some 4) rfl rfl Tryz.func101 (by kernel_rfl) rfl #[.agg #[.int .i64 a0_0, .int .i64 a0_1], .int .i64 0, .int .i64 1000] rfl (by (try simp only [List.map_toArray, List.map_cons, List.map_nil]); first | done | rfl | (simp only [List.length_drop, List.length_take]; rfl)) ?_; (with_reducible refine (load_within.calls a0_0 a0_1 0 1000 t157 _ A2.out).mono ?_); rintro e w5 ⟨rfl, hb⟩; refine ⟨_, rfl, ?_⟩; have n0_ := Aside0.mk (blk_below (g := gb156) (o := .cells #[.int .i64 a0_0, .int .i64 a0_1] 58 (0, 0)) (by (with_reducible repeat (first | refine blk_drewN ?_ _ | refine blk_drew ?_ | refine blk_alloc ?_ _)); exact BK156.out) hb); have n1_ := Aside0.mk (below_step (by repeat (first | (with_reducible first | exact HB.out | apply below_alloc | apply pw_below_drewN | apply below_drew1 | refine below_set ?_ GE156.out) | exact HB.out)) hb); clear BK156; clear HB; have BK156 := n0_; have HB := n1_; clear n0_ n1_; (try clear hb); (try clear hb2); (try clear hk); (try clear hi)))
  go_ret
  exact ⟨by first | rfl | (simp [errW_none, errW_some] <;> rfl) | (simp [*, errW_none, errW_some] <;> rfl), by repeat (first | (with_reducible first | exact HB.out | apply below_alloc | apply pw_below_drewN | apply below_drew1 | refine below_set ?_ GE156.out) | exact HB.out)⟩

/-! ### load_may: function 103 -/
def load_may.f (a0_0 : Int) (a0_1 : Int) : Option (Bool) := (load_within.f a0_0 a0_1 (-1073741824) 1073741824).bind fun t161 => (some t161)
set_option maxHeartbeats 8000000 in
set_option maxRecDepth 100000 in
theorem load_may.calls (a0_0 : Int) (a0_1 : Int) (r : Bool) (w : World) (h : load_may.f a0_0 a0_1 = some r) :
    Calls Tryz.prog 103 #[.agg #[.int .i64 a0_0, .int .i64 a0_1]] w fun e w' => e = .returned (.bool r) ∧ Below w.heap.size w w' := by
  have hu58 := Tryz.underlying58
  have HB := Aside0.mk (Below.refl w.heap.size w)
  have H : ((load_within.f a0_0 a0_1 (-1073741824) 1073741824).bind fun t161 => (some t161)) = some r := h
  clear h
  replace H := Option.bind_eq_some_iff.mp H
  obtain ⟨t161, A20, H⟩ := H
  replace H : (some t161) = some r := H
  have A2 := Aside0.mk A20
  clear A20
  obtain rfl := Option.some.inj H
  go_enter Tryz.func103, Tryz.ntmps103
  go_wp2_with (first | ((with_reducible refine gate_dst (N := 1) rfl ?_); refine box_event ?hg (N := 1) ?hd (cs := #[.int .i64 a0_0, .int .i64 a0_1]) (t := 58) ?hr ?_; (case hd => rfl); (case hg => rfl); (case hr => first | (go_simp; done) | (go_simp; rfl)); intro gb160 hg w3 hbox hb; have n0_ := Aside0.mk (below_step (by repeat (first | (with_reducible first | exact HB.out | apply below_alloc | apply pw_below_drewN | apply below_drew1) | exact HB.out)) hb); have n1_ := Aside0.mk (hbox); have n2_ := Aside0.mk ((by rw [hg]; exact (below_size (by repeat (first | (with_reducible first | exact HB.out | apply below_alloc | apply pw_below_drewN | apply below_drew1) | exact HB.out))) : w.heap.size ≤ gb160)); have n3_ := Aside0.mk ((by rw [hg]; exact (below_size (by repeat (first | (with_reducible first | exact HB.out | apply below_alloc | apply pw_below_drewN | apply below_drew1) | exact HB.out))) : w.heap.size ≤ gb160)); clear HB; have HB := n0_; have BK160 := n1_; have GW160 := n2_; have GE160 := n3_; clear n0_ n1_ n2_ n3_; clear hb hbox hg; have hcz4_0 : w3.cell? ⟨gb160, 0, none⟩ = some (.int .i64 a0_0) := (blk_cell BK160.out 0).trans rfl; have hcz4_1 : w3.cell? ⟨gb160, 1, none⟩ = some (.int .i64 a0_1) := (blk_cell BK160.out 1).trans rfl; have hfz4_0 := blk_frozen BK160.out 0; have hfz4_1 := blk_frozen BK160.out 1) | ((with_reducible refine gate_callee (f := 101) rfl ?_); refine goesL_ (some 4) rfl rfl Tryz.func101 (by kernel_rfl) rfl #[.agg #[.int .i64 a0_0, .int .i64 a0_1], .int .i64 (-1073741824), .int .i64 1073741824] rfl (by (try simp only [List.map_toArray, List.map_cons, List.map_nil]); first | done | rfl | (simp only [List.length_drop, List.length_take]; rfl)) ?_; (with_reducible refine (load_within.calls a0_0 a0_1 (-1073741824) 1073741824 t161 _ A2.out).mono ?_); rintro e w5 ⟨rfl, hb⟩; refine ⟨_, rfl, ?_⟩; have n0_ := Aside0.mk (blk_below (g := gb160) (o := .cells #[.int .i64 a0_0, .int .i64 a0_1] 58 (0, 0)) (by (with_reducible repeat (first | refine blk_drewN ?_ _ | refine blk_drew ?_ | refine blk_alloc ?_ _)); exact BK160.out) hb); have n1_ := Aside0.mk (below_step (by repeat (first | (with_reducible first | exact HB.out | apply below_alloc | apply pw_below_drewN | apply below_drew1 | refine below_set ?_ GE160.out) | exact HB.out)) hb); clear BK160; clear HB; have BK160 := n0_; have HB := n1_; clear n0_ n1_; (try clear hb); (try clear hb2); (try clear hk); (try clear hi)))
  go_ret
  exact ⟨by first | rfl | (simp [errW_none, errW_some] <;> rfl) | (simp [*, errW_none, errW_some] <;> rfl), by repeat (first | (with_reducible first | exact HB.out | apply below_alloc | apply pw_below_drewN | apply below_drew1 | refine below_set ?_ GE160.out) | exact HB.out)⟩

/-! ### load_Neg: function 71 -/
def load_Neg.f (a0_0 : Int) (a0_1 : Int) : Option (Int × Int) := (load_may.f a0_0 a0_1).bind fun t164 => (if t164 = true then (some (wrap64 (-a0_0), wrap64 (-a0_1))) else (some (0, 0)))
set_option maxHeartbeats 8000000 in
set_option maxRecDepth 100000 in
theorem load_Neg.calls (a0_0 : Int) (a0_1 : Int) (r1 : Int) (r2 : Int) (w : World) (h : load_Neg.f a0_0 a0_1 = some (r1, r2)) :
    Calls Tryz.prog 71 #[.agg #[.int .i64 a0_0, .int .i64 a0_1]] w fun e w' => e = .returned (.agg #[.int .i64 r1, .int .i64 r2]) ∧ Below w.heap.size w w' := by
  have hu58 := Tryz.underlying58
  have HB := Aside0.mk (Below.refl w.heap.size w)
  have H : ((load_may.f a0_0 a0_1).bind fun t164 => (if t164 = true then (some (wrap64 (-a0_0), wrap64 (-a0_1))) else (some (0, 0)))) = some (r1, r2) := h
  clear h
  replace H := Option.bind_eq_some_iff.mp H
  obtain ⟨t164, A20, H⟩ := H
  replace H : (if t164 = true then (some (wrap64 (-a0_0), wrap64 (-a0_1))) else (some (0, 0))) = some (r1, r2) := H
  have A2 := Aside0.mk A20
  clear A20
  by_cases c3 : t164 = true
  · subst c3
    have H1 : (some (wrap64 (-a0_0), wrap64 (-a0_1))) = some (r1, r2) := by rw [if_pos rfl] at H; exact H
    clear H
    have H := H1
    clear H1
    simp only [Option.some.injEq, Prod.mk.injEq] at H
    obtain ⟨rfl, rfl⟩ := H
    go_enter Tryz.func71, Tryz.ntmps71
    go_wp2_with (first | ((with_reducible refine gate_dst (N := 1) rfl ?_); refine box_event ?hg (N := 1) ?hd (cs := #[.int .i64 a0_0, .int .i64 a0_1]) (t := 58) ?hr ?_; (case hd => rfl); (case hg => rfl); (case hr => first | (go_simp; done) | (go_simp; rfl)); intro gb162 hg w4 hbox hb; have n0_ := Aside0.mk (below_step (by repeat (first | (with_reducible first | exact HB.out | apply below_alloc | apply pw_below_drewN | apply below_drew1) | exact HB.out)) hb); have n1_ := Aside0.mk (hbox); have n2_ := Aside0.mk ((by rw [hg]; exact (below_size (by repeat (first | (with_reducible first | exact HB.out | apply below_alloc | apply pw_below_drewN | apply below_drew1) | exact HB.out))) : w.heap.size ≤ gb162)); have n3_ := Aside0.mk ((by rw [hg]; exact (below_size (by repeat (first | (with_reducible first | exact HB.out | apply below_alloc | apply pw_below_drewN | apply below_drew1) | exact HB.out))) : w.heap.size ≤ gb162)); clear HB; have HB := n0_; have BK162 := n1_; have GW162 := n2_; have GE162 := n3_; clear n0_ n1_ n2_ n3_; clear hb hbox hg) | ((with_reducible refine gate_dst (N := 2) rfl ?_); refine box_event ?hg (N := 2) ?hd (cs := #[.int .i64 0, .int .i64 0]) (t := 58) ?hr ?_; (case hd => rfl); (case hg => rfl); (case hr => first | (go_simp; done) | (go_simp; rfl)); intro gb163 hg w5 hbox hb; have n0_ := Aside0.mk (blk_below (g := gb162) (o := .cells #[.int .i64 a0_0, .int .i64 a0_1] 58 (0, 0)) (by (with_reducible repeat (first | refine blk_drewN ?_ _ | refine blk_drew ?_ | refine blk_alloc ?_ _)); exact BK162.out) hb); have n1_ := Aside0.mk (below_step (by repeat (first | (with_reducible first | exact HB.out | apply below_alloc | apply pw_below_drewN | apply below_drew1 | refine below_set ?_ GE162.out) | exact HB.out)) hb); have n2_ := Aside0.mk (hbox); have n3_ := Aside0.mk ((by rw [hg]; exact (below_size (by repeat (first | (with_reducible first | exact HB.out | apply below_alloc | apply pw_below_drewN | apply below_drew1 | refine below_set ?_ GE162.out) | exact HB.out))) : w.heap.size ≤ gb163)); have n4_ := Aside0.mk ((by rw [hg]; exact (below_size (by repeat (first | (with_reducible first | exact HB.out | apply below_alloc | apply pw_below_drewN | apply below_drew1 | refine below_set ?_ GE162.out) | exact HB.out))) : w.heap.size ≤ gb163)); have n5_ := Aside0.mk ((by rw [hg]; exact Nat.ne_of_lt (blk_lt (g := gb162) (o := .cells #[.int .i64 a0_0, .int .i64 a0_1] 58 (0, 0)) (by (with_reducible repeat (first | refine blk_drewN ?_ _ | refine blk_drew ?_ | refine blk_alloc ?_ _)); exact BK162.out)) : gb162 ≠ gb163)); have n6_ := Aside0.mk ((by rw [hg]; exact Nat.ne_of_gt (blk_lt (g := gb162) (o := .cells #[.int .i64 a0_0, .int .i64 a0_1] 58 (0, 0)) (by (with_reducible repeat (first | refine blk_drewN ?_ _ | refine blk_drew ?_ | refine blk_alloc ?_ _)); exact BK162.out)) : gb163 ≠ gb162)); clear BK162; clear HB; have BK162 := n0_; have HB := n1_; have BK163 := n2_; have GW163 := n3_; have GE163 := n4_; have NB162_163 := n5_; have NB163_162 := n6_; clear n0_ n1_ n2_ n3_ n4_ n5_ n6_; clear hb hbox hg; have hnb6 := NB162_163.out; have hnc6 := NB163_162.out; have hcz7_0 : w5.cell? ⟨gb162, 0, none⟩ = some (.int .i64 a0_0) := (blk_cell BK162.out 0).trans rfl; have hcz7_1 : w5.cell? ⟨gb162, 1, none⟩ = some (.int .i64 a0_1) := (blk_cell BK162.out 1).trans rfl; have hfz7_0 := blk_frozen BK162.out 0; have hfz7_1 := blk_frozen BK162.out 1) | ((with_reducible refine gate_callee (f := 103) rfl ?_); refine goesL_ (some 4) rfl rfl Tryz.func103 (by kernel_rfl) rfl #[.agg #[.int .i64 a0_0, .int .i64 a0_1]] rfl (by (try simp only [List.map_toArray, List.map_cons, List.map_nil]); first | done | rfl | (simp only [List.length_drop, List.length_take]; rfl)) ?_; (with_reducible refine (load_may.calls a0_0 a0_1 true _ A2.out).mono ?_); rintro e w8 ⟨rfl, hb⟩; refine ⟨_, rfl, ?_⟩; have n0_ := Aside0.mk (blk_below (g := gb162) (o := .cells #[.int .i64 a0_0, .int .i64 a0_1] 58 (0, 0)) (by (with_reducible repeat (first | refine blk_drewN ?_ _ | refine blk_drew ?_ | refine blk_alloc ?_ _)); exact BK162.out) hb); have n1_ := Aside0.mk (blk_below (g := gb163) (o := .cells #[.int .i64 0, .int .i64 0] 58 (0, 0)) (by (with_reducible repeat (first | refine blk_drewN ?_ _ | refine blk_drew ?_ | refine blk_alloc ?_ _)); exact BK163.out) hb); have n2_ := Aside0.mk (below_step (by repeat (first | (with_reducible first | exact HB.out | apply below_alloc | apply pw_below_drewN | apply below_drew1 | refine below_set ?_ GE162.out | refine below_set ?_ GE163.out) | exact HB.out)) hb); clear BK162; clear BK163; clear HB; have BK162 := n0_; have BK163 := n1_; have HB := n2_; clear n0_ n1_ n2_; (try clear hb); (try clear hb2); (try clear hk); (try clear hi); have hcz9_0 : w8.cell? ⟨gb162, 0, none⟩ = some (.int .i64 a0_0) := (blk_cell BK162.out 0).trans rfl; have hcz9_1 : w8.cell? ⟨gb162, 1, none⟩ = some (.int .i64 a0_1) := (blk_cell BK162.out 1).trans rfl; have hfz9_0 := blk_frozen BK162.out 0; have hfz9_1 := blk_frozen BK162.out 1; have hcz10_0 : w8.cell? ⟨gb163, 0, none⟩ = some (.int .i64 0) := (blk_cell BK163.out 0).trans rfl; have hcz10_1 : w8.cell? ⟨gb163, 1, none⟩ = some (.int .i64 0) := (blk_cell BK163.out 1).trans rfl; have hfz10_0 := blk_frozen BK163.out 0; have hfz10_1 := blk_frozen BK163.out 1))
    refine bodyPost_ret (results_cell_row rfl _ _ gb163 58 #[.int .i64 (wrap64 (-a0_0)), .int .i64 (wrap64 (-a0_1))] (0, 0) _ rfl (by (with_reducible repeat (first | refine blk_drewN ?_ _ | refine blk_drew ?_ | refine blk_alloc ?_ _)); refine blk_put (cs := #[.int .i64 (wrap64 (-a0_0)), .int .i64 0]) ?_ 1 _ rfl; (with_reducible repeat (first | refine blk_drewN ?_ _ | refine blk_drew ?_ | refine blk_alloc ?_ _)); refine blk_put (cs := #[.int .i64 0, .int .i64 0]) ?_ 0 _ rfl; (with_reducible repeat (first | refine blk_drewN ?_ _ | refine blk_drew ?_ | refine blk_alloc ?_ _)); exact BK163.out) Tryz.underlying58 rfl (by kernel_rfl)) rfl ?_
    exact ⟨by first | rfl | (simp [errW_none, errW_some] <;> rfl) | (simp [*, errW_none, errW_some] <;> rfl), by repeat (first | (with_reducible first | exact HB.out | apply below_alloc | apply pw_below_drewN | apply below_drew1 | refine below_set ?_ GE162.out | refine below_set ?_ GE163.out) | exact HB.out)⟩
  · replace c3 := Bool.eq_false_iff.mpr c3
    subst c3
    have H1 : (some (0, 0)) = some (r1, r2) := by rw [if_neg (show ¬ (false = true) by decide)] at H; exact H
    clear H
    have H := H1
    clear H1
    simp only [Option.some.injEq, Prod.mk.injEq] at H
    obtain ⟨rfl, rfl⟩ := H
    go_enter Tryz.func71, Tryz.ntmps71
    go_wp2_with (first | ((with_reducible refine gate_dst (N := 1) rfl ?_); refine box_event ?hg (N := 1) ?hd (cs := #[.int .i64 a0_0, .int .i64 a0_1]) (t := 58) ?hr ?_; (case hd => rfl); (case hg => rfl); (case hr => first | (go_simp; done) | (go_simp; rfl)); intro gb162 hg w11 hbox hb; have n0_ := Aside0.mk (below_step (by repeat (first | (with_reducible first | exact HB.out | apply below_alloc | apply pw_below_drewN | apply below_drew1) | exact HB.out)) hb); have n1_ := Aside0.mk (hbox); have n2_ := Aside0.mk ((by rw [hg]; exact (below_size (by repeat (first | (with_reducible first | exact HB.out | apply below_alloc | apply pw_below_drewN | apply below_drew1) | exact HB.out))) : w.heap.size ≤ gb162)); have n3_ := Aside0.mk ((by rw [hg]; exact (below_size (by repeat (first | (with_reducible first | exact HB.out | apply below_alloc | apply pw_below_drewN | apply below_drew1) | exact HB.out))) : w.heap.size ≤ gb162)); clear HB; have HB := n0_; have BK162 := n1_; have GW162 := n2_; have GE162 := n3_; clear n0_ n1_ n2_ n3_; clear hb hbox hg) | ((with_reducible refine gate_dst (N := 2) rfl ?_); refine box_event ?hg (N := 2) ?hd (cs := #[.int .i64 0, .int .i64 0]) (t := 58) ?hr ?_; (case hd => rfl); (case hg => rfl); (case hr => first | (go_simp; done) | (go_simp; rfl)); intro gb163 hg w12 hbox hb; have n0_ := Aside0.mk (blk_below (g := gb162) (o := .cells #[.int .i64 a0_0, .int .i64 a0_1] 58 (0, 0)) (by (with_reducible repeat (first | refine blk_drewN ?_ _ | refine blk_drew ?_ | refine blk_alloc ?_ _)); exact BK162.out) hb); have n1_ := Aside0.mk (below_step (by repeat (first | (with_reducible first | exact HB.out | apply below_alloc | apply pw_below_drewN | apply below_drew1 | refine below_set ?_ GE162.out) | exact HB.out)) hb); have n2_ := Aside0.mk (hbox); have n3_ := Aside0.mk ((by rw [hg]; exact (below_size (by repeat (first | (with_reducible first | exact HB.out | apply below_alloc | apply pw_below_drewN | apply below_drew1 | refine below_set ?_ GE162.out) | exact HB.out))) : w.heap.size ≤ gb163)); have n4_ := Aside0.mk ((by rw [hg]; exact (below_size (by repeat (first | (with_reducible first | exact HB.out | apply below_alloc | apply pw_below_drewN | apply below_drew1 | refine below_set ?_ GE162.out) | exact HB.out))) : w.heap.size ≤ gb163)); have n5_ := Aside0.mk ((by rw [hg]; exact Nat.ne_of_lt (blk_lt (g := gb162) (o := .cells #[.int .i64 a0_0, .int .i64 a0_1] 58 (0, 0)) (by (with_reducible repeat (first | refine blk_drewN ?_ _ | refine blk_drew ?_ | refine blk_alloc ?_ _)); exact BK162.out)) : gb162 ≠ gb163)); have n6_ := Aside0.mk ((by rw [hg]; exact Nat.ne_of_gt (blk_lt (g := gb162) (o := .cells #[.int .i64 a0_0, .int .i64 a0_1] 58 (0, 0)) (by (with_reducible repeat (first | refine blk_drewN ?_ _ | refine blk_drew ?_ | refine blk_alloc ?_ _)); exact BK162.out)) : gb163 ≠ gb162)); clear BK162; clear HB; have BK162 := n0_; have HB := n1_; have BK163 := n2_; have GW163 := n3_; have GE163 := n4_; have NB162_163 := n5_; have NB163_162 := n6_; clear n0_ n1_ n2_ n3_ n4_ n5_ n6_; clear hb hbox hg; have hnb13 := NB162_163.out; have hnc13 := NB163_162.out; have hcz14_0 : w12.cell? ⟨gb162, 0, none⟩ = some (.int .i64 a0_0) := (blk_cell BK162.out 0).trans rfl; have hcz14_1 : w12.cell? ⟨gb162, 1, none⟩ = some (.int .i64 a0_1) := (blk_cell BK162.out 1).trans rfl; have hfz14_0 := blk_frozen BK162.out 0; have hfz14_1 := blk_frozen BK162.out 1) | ((with_reducible refine gate_callee (f := 103) rfl ?_); refine goesL_ (some 4) rfl rfl Tryz.func103 (by kernel_rfl) rfl #[.agg #[.int .i64 a0_0, .int .i64 a0_1]] rfl (by (try simp only [List.map_toArray, List.map_cons, List.map_nil]); first | done | rfl | (simp only [List.length_drop, List.length_take]; rfl)) ?_; (with_reducible refine (load_may.calls a0_0 a0_1 false _ A2.out).mono ?_); rintro e w15 ⟨rfl, hb⟩; refine ⟨_, rfl, ?_⟩; have n0_ := Aside0.mk (blk_below (g := gb162) (o := .cells #[.int .i64 a0_0, .int .i64 a0_1] 58 (0, 0)) (by (with_reducible repeat (first | refine blk_drewN ?_ _ | refine blk_drew ?_ | refine blk_alloc ?_ _)); exact BK162.out) hb); have n1_ := Aside0.mk (blk_below (g := gb163) (o := .cells #[.int .i64 0, .int .i64 0] 58 (0, 0)) (by (with_reducible repeat (first | refine blk_drewN ?_ _ | refine blk_drew ?_ | refine blk_alloc ?_ _)); exact BK163.out) hb); have n2_ := Aside0.mk (below_step (by repeat (first | (with_reducible first | exact HB.out | apply below_alloc | apply pw_below_drewN | apply below_drew1 | refine below_set ?_ GE162.out | refine below_set ?_ GE163.out) | exact HB.out)) hb); clear BK162; clear BK163; clear HB; have BK162 := n0_; have BK163 := n1_; have HB := n2_; clear n0_ n1_ n2_; (try clear hb); (try clear hb2); (try clear hk); (try clear hi); have hcz16_0 : w15.cell? ⟨gb163, 0, none⟩ = some (.int .i64 0) := (blk_cell BK163.out 0).trans rfl; have hcz16_1 : w15.cell? ⟨gb163, 1, none⟩ = some (.int .i64 0) := (blk_cell BK163.out 1).trans rfl; have hfz16_0 := blk_frozen BK163.out 0; have hfz16_1 := blk_frozen BK163.out 1))
    refine bodyPost_ret (results_cell_row rfl _ _ gb163 58 #[.int .i64 0, .int .i64 0] (0, 0) _ rfl (by (with_reducible repeat (first | refine blk_drewN ?_ _ | refine blk_drew ?_ | refine blk_alloc ?_ _)); refine blk_put (cs := #[.int .i64 0, .int .i64 0]) ?_ 1 _ rfl; (with_reducible repeat (first | refine blk_drewN ?_ _ | refine blk_drew ?_ | refine blk_alloc ?_ _)); refine blk_put (cs := #[.int .i64 0, .int .i64 0]) ?_ 0 _ rfl; (with_reducible repeat (first | refine blk_drewN ?_ _ | refine blk_drew ?_ | refine blk_alloc ?_ _)); exact BK163.out) Tryz.underlying58 rfl (by kernel_rfl)) rfl ?_
    exact ⟨by first | rfl | (simp [errW_none, errW_some] <;> rfl) | (simp [*, errW_none, errW_some] <;> rfl), by repeat (first | (with_reducible first | exact HB.out | apply below_alloc | apply pw_below_drewN | apply below_drew1 | refine below_set ?_ GE162.out | refine below_set ?_ GE163.out) | exact HB.out)⟩

end Go.Proofs.YtcdmndhaeiccoaaGreatDoor.P
namespace Go.Proofs.YtcdmndhaeiccoaaGreatDoor.P
open Go Go.Proofs.YtcdmndhaeiccoaaGreatDoorR
open Go.RowKit Go.Proofs.YtcdmndhaeiccoaaGreatDoorW.PrintWords Go.Proofs.YtcdmndhaeiccoaaGreatDoorW.PrintLast
set_option linter.unusedVariables false
set_option linter.unusedSimpArgs false
set_option maxHeartbeats 8000000
set_option maxRecDepth 100000
def timeB (n : Int) : Bool := decide (0 ≤ n) && decide (n ≤ 1099511627776)
def capB (s w : Int) : Bool := decide (0 ≤ s) && (decide (s ≤ 1000) && (decide (0 ≤ w) && decide (w ≤ 1000)))
def badCar (c : S60) : Bool := !capB c.f0.f0 c.f0.f1 || !timeB c.f1
def badTime (n : Int) : Bool := !timeB n
def badStop (s : S63) : Bool := !timeB s.f1 || (!timeB s.f2 || (!timeB s.f3 || decide (s.f3 < s.f2)))
theorem inst_time.calls (n : Int) (w : World) : Calls Tryz.prog 66 #[.int .i64 n] w fun e w' => e = .returned (.bool (timeB n)) ∧ Below w.heap.size w w' := by
  unfold timeB
  cases d1 : decide (0 ≤ n)
  · go_enter Tryz.func66, Tryz.ntmps66
    go_wp2
    go_ret
    exact ⟨rfl, Below.refl _ _⟩
  · go_enter Tryz.func66, Tryz.ntmps66
    go_wp2
    go_ret
    exact ⟨rfl, Below.refl _ _⟩
theorem right_is (s w : Int) : load_Right.f s w = some (capB s w) := by
  unfold load_Right.f load_within.f capB
  by_cases h1 : 0 ≤ s
  · by_cases h2 : s ≤ 1000
    · by_cases h3 : 0 ≤ w
      · simp [h1, h2, h3]
      · simp [h1, h2, h3]
    · simp [h1, h2]
  · simp [h1]
theorem cap_calls (s t : Int) (w : World) : Calls Tryz.prog 65 #[.agg #[.int .i64 s, .int .i64 t]] w fun e w' => e = .returned (.bool (capB s t)) ∧ Below w.heap.size w w' := load_Right.calls s t (capB s t) w (right_is s t)
theorem badTime_calls (n : Int) (w : World) : Calls Tryz.prog 68 (#[.int .i64 n] ++ #[]) w fun e w' => e = .returned (.bool (badTime n)) ∧ Below w.heap.size w w' := by
  have T := inst_time.calls n w
  show Calls Tryz.prog 68 #[.int .i64 n] w fun e w' => e = .returned (.bool (!timeB n)) ∧ Below w.heap.size w w'
  generalize timeB n = z at T ⊢
  have T1 := Aside0.mk T
  clear T
  go_enter Tryz.func68, Tryz.ntmps68
  go_wp2_with (first | (go_at_call 66; refine T1.out.mono ?_; rintro e w1 ⟨rfl, hb⟩; have B1 := Aside0.mk hb; clear hb))
  go_ret
  exact ⟨rfl, B1.out⟩
theorem badTime2_calls (n : Int) (w : World) : Calls Tryz.prog 74 (#[.int .i64 n] ++ #[]) w fun e w' => e = .returned (.bool (badTime n)) ∧ Below w.heap.size w w' := by
  have T := inst_time.calls n w
  show Calls Tryz.prog 74 #[.int .i64 n] w fun e w' => e = .returned (.bool (!timeB n)) ∧ Below w.heap.size w w'
  generalize timeB n = z at T ⊢
  have T1 := Aside0.mk T
  clear T
  go_enter Tryz.func74, Tryz.ntmps74
  go_wp2_with (first | (go_at_call 66; refine T1.out.mono ?_; rintro e w1 ⟨rfl, hb⟩; have B1 := Aside0.mk hb; clear hb))
  go_ret
  exact ⟨rfl, B1.out⟩
theorem badCar_calls (c : S60) (w : World) : Calls Tryz.prog 64 (#[.agg #[.int .i64 c.f0.f0, .int .i64 c.f0.f1, .int .i64 c.f1]] ++ #[]) w fun e w' => e = .returned (.bool (badCar c)) ∧ Below w.heap.size w w' := by
  obtain ⟨⟨a, b⟩, m⟩ := c
  show Calls Tryz.prog 64 #[.agg #[.int .i64 a, .int .i64 b, .int .i64 m]] w fun e w' => e = .returned (.bool (!capB a b || !timeB m)) ∧ Below w.heap.size w w'
  have T := fun W => inst_time.calls m W
  have R := fun W => cap_calls a b W
  generalize timeB m = z at T ⊢
  generalize capB a b = y at R ⊢
  have T1 := Aside0.mk T
  have R1 := Aside0.mk R
  clear T R
  have HB := Aside0.mk (below_alloc (Below.refl w.heap.size w) (.cells #[.int .i64 a, .int .i64 b, .int .i64 m] 60 (0, 0)))
  cases y
  · go_enter Tryz.func64, Tryz.ntmps64
    go_wp2_with (first | (go_at_call 65; refine (R1.out _).mono ?_; rintro e w1 ⟨rfl, hb⟩; have B1 := Aside0.mk hb; clear hb))
    go_ret
    exact ⟨rfl, HB.out.trans (B1.out.mono HB.out.size)⟩
  · go_enter Tryz.func64, Tryz.ntmps64
    go_wp2_with (first
      | (go_at_call 65; refine (R1.out _).mono ?_; rintro e w1 ⟨rfl, hb⟩; have B1 := Aside0.mk hb; have hx : w1.cell? ⟨w.heap.size, 2, none⟩ = some (.int .i64 m) := cell_below hb ((blk_cell (heap_alloc_new w _) 2).trans rfl); clear hb)
      | (go_at_call 66; refine (T1.out _).mono ?_; rintro e w2 ⟨rfl, hb⟩; have B2 := Aside0.mk hb; clear hb))
    go_ret
    exact ⟨rfl, HB.out.trans ((B1.out.trans (B2.out.mono B1.out.size)).mono HB.out.size)⟩
theorem badStop_calls (c : S63) (w : World) : Calls Tryz.prog 69 (#[.agg #[.int .i64 c.f0.f0, .int .i64 c.f0.f1, .int .i64 c.f1, .int .i64 c.f2, .int .i64 c.f3, .complex .f64 c.f4.1 c.f4.2]] ++ #[]) w fun e w' => e = .returned (.bool (badStop c)) ∧ Below w.heap.size w w' := by
  obtain ⟨⟨a, b⟩, m, n, k, ⟨x, y⟩⟩ := c
  show Calls Tryz.prog 69 #[.agg #[.int .i64 a, .int .i64 b, .int .i64 m, .int .i64 n, .int .i64 k, .complex .f64 x y]] w fun e w' => e = .returned (.bool (!timeB m || (!timeB n || (!timeB k || decide (k < n))))) ∧ Below w.heap.size w w'
  have T := fun W => inst_time.calls m W
  have R := fun W => inst_time.calls n W
  have S := fun W => inst_time.calls k W
  generalize timeB m = z1 at T ⊢
  generalize timeB n = z2 at R ⊢
  generalize timeB k = z3 at S ⊢
  have T1 := Aside0.mk T
  have T2 := Aside0.mk R
  have T3 := Aside0.mk S
  clear T R S
  have HB := Aside0.mk (below_alloc (Below.refl w.heap.size w) (.cells #[.int .i64 a, .int .i64 b, .int .i64 m, .int .i64 n, .int .i64 k, .complex .f64 x y] 63 (0, 0)))
  have HW := Aside0.mk (heap_alloc_new w (.cells #[.int .i64 a, .int .i64 b, .int .i64 m, .int .i64 n, .int .i64 k, .complex .f64 x y] 63 (0, 0)))
  cases z1
  · go_enter Tryz.func69, Tryz.ntmps69
    go_wp2_with (first
      | (go_at_call 66; with_reducible refine (T1.out _).mono ?_; rintro e w1 ⟨rfl, hb⟩; have B1 := Aside0.mk (HB.out.trans (hb.mono HB.out.size)); clear hb))
    go_ret
    exact ⟨rfl, B1.out⟩
  · cases z2
    · go_enter Tryz.func69, Tryz.ntmps69
      go_wp2_with (first
        | (go_at_call 66; with_reducible refine (T1.out _).mono ?_; rintro e w1 ⟨rfl, hb⟩; have B1 := Aside0.mk (HB.out.trans (hb.mono HB.out.size)); have y2 : w1.cell? ⟨w.heap.size, 3, none⟩ = some (.int .i64 n) := cell_below hb ((blk_cell HW.out 3).trans rfl); clear hb)
        | (go_at_call 66; with_reducible refine (T2.out _).mono ?_; rintro e w2 ⟨rfl, hb⟩; have B2 := Aside0.mk (B1.out.trans (hb.mono B1.out.size)); clear hb y2))
      go_ret
      exact ⟨rfl, B2.out⟩
    · cases z3
      · go_enter Tryz.func69, Tryz.ntmps69
        go_wp2_with (first
          | (go_at_call 66; with_reducible refine (T1.out _).mono ?_; rintro e w1 ⟨rfl, hb⟩; have B1 := Aside0.mk (HB.out.trans (hb.mono HB.out.size)); have y2 : w1.cell? ⟨w.heap.size, 3, none⟩ = some (.int .i64 n) := cell_below hb ((blk_cell HW.out 3).trans rfl); have y3 : w1.cell? ⟨w.heap.size, 4, none⟩ = some (.int .i64 k) := cell_below hb ((blk_cell HW.out 4).trans rfl); clear hb)
          | (go_at_call 66; with_reducible refine (T2.out _).mono ?_; rintro e w2 ⟨rfl, hb⟩; have B2 := Aside0.mk (B1.out.trans (hb.mono B1.out.size)); have y4 : w2.cell? ⟨w.heap.size, 4, none⟩ = some (.int .i64 k) := cell_below hb y3; clear hb y2 y3)
          | (go_at_call 66; with_reducible refine (T3.out _).mono ?_; rintro e w3 ⟨rfl, hb⟩; have B3 := Aside0.mk (B2.out.trans (hb.mono B2.out.size)); clear hb y4))
        go_ret
        exact ⟨rfl, B3.out⟩
      · cases d : decide (k < n)
        all_goals
          go_enter Tryz.func69, Tryz.ntmps69
          go_wp2_with (first
            | (go_at_call 66; with_reducible refine (T1.out _).mono ?_; rintro e w1 ⟨rfl, hb⟩; have B1 := Aside0.mk (HB.out.trans (hb.mono HB.out.size)); have y2 : w1.cell? ⟨w.heap.size, 3, none⟩ = some (.int .i64 n) := cell_below hb ((blk_cell HW.out 3).trans rfl); have y3 : w1.cell? ⟨w.heap.size, 4, none⟩ = some (.int .i64 k) := cell_below hb ((blk_cell HW.out 4).trans rfl); clear hb)
            | (go_at_call 66; with_reducible refine (T2.out _).mono ?_; rintro e w2 ⟨rfl, hb⟩; have B2 := Aside0.mk (B1.out.trans (hb.mono B1.out.size)); have y4 : w2.cell? ⟨w.heap.size, 4, none⟩ = some (.int .i64 k) := cell_below hb y3; have y5 : w2.cell? ⟨w.heap.size, 3, none⟩ = some (.int .i64 n) := cell_below hb y2; clear hb y2 y3)
            | (go_at_call 66; with_reducible refine (T3.out _).mono ?_; rintro e w3 ⟨rfl, hb⟩; have B3 := Aside0.mk (B2.out.trans (hb.mono B2.out.size)); have y6 : w3.cell? ⟨w.heap.size, 4, none⟩ = some (.int .i64 k) := cell_below hb y4; have y7 : w3.cell? ⟨w.heap.size, 3, none⟩ = some (.int .i64 n) := cell_below hb y5; clear hb y4 y5))
          go_ret
          exact ⟨rfl, B3.out⟩
theorem badSpot_calls (c : S63) (w : World) (p q : Int) (h : Spot c.f4.1 c.f4.2 p q) : Calls Tryz.prog 38 (#[.agg #[.int .i64 c.f0.f0, .int .i64 c.f0.f1, .int .i64 c.f1, .int .i64 c.f2, .int .i64 c.f3, .complex .f64 c.f4.1 c.f4.2]] ++ #[]) w fun e w' => e = .returned (.bool false) ∧ Below w.heap.size w w' := by
  obtain ⟨⟨a, b⟩, m, n, k, ⟨x, y⟩⟩ := c
  show Calls Tryz.prog 38 #[.agg #[.int .i64 a, .int .i64 b, .int .i64 m, .int .i64 n, .int .i64 k, .complex .f64 x y]] w _
  have T1 := Aside0.mk (fun W => spot_Good.calls h W)
  have HB := Aside0.mk (below_alloc (Below.refl w.heap.size w) (.cells #[.int .i64 a, .int .i64 b, .int .i64 m, .int .i64 n, .int .i64 k, .complex .f64 x y] 63 (0, 0)))
  clear h
  go_enter Tryz.func38, Tryz.ntmps38
  go_wp2_with (first | (go_at_call 39; refine (T1.out _).mono ?_; rintro e w1 ⟨rfl, rfl⟩))
  go_ret
  exact ⟨rfl, HB.out⟩
theorem badRow_calls (n : Int) (g : Nat) (w : World) (hg : w.cell? ⟨g, 0, none⟩ = some (.int .i64 n)) (A : Option Addr) (l c : Nat) : Calls Tryz.prog 73 (#[.slice A l c] ++ #[.pointer (some ⟨g, 0, none⟩)]) w fun e w' => e = .returned (.bool (!((l : Int) == n))) ∧ Below w.heap.size w w' := by
  show Calls Tryz.prog 73 #[.slice A l c, .pointer (some ⟨g, 0, none⟩)] w _
  go_enter Tryz.func73, Tryz.ntmps73
  go_wp2
  go_ret
  exact ⟨by first | rfl | (simp; done) | (simp [bne]; done), Below.refl _ _⟩
end Go.Proofs.YtcdmndhaeiccoaaGreatDoor.P
namespace Go.Proofs.YtcdmndhaeiccoaaGreatDoor.P
open Go Go.Proofs.YtcdmndhaeiccoaaGreatDoorR
open Go.RowKit Go.Proofs.YtcdmndhaeiccoaaGreatDoorW.PrintWords Go.Proofs.YtcdmndhaeiccoaaGreatDoorW.PrintLast
set_option linter.unusedVariables false
set_option linter.unusedSimpArgs false
set_option maxHeartbeats 8000000
set_option maxRecDepth 100000
/-- Where the four rows lie. -/
structure Lie where
  A0 : Option Addr
  c0 : Nat
  A1 : Option Addr
  c1 : Nat
  A2 : Option Addr
  c2 : Nat
  A3 : Option Addr
  c3 : Nat
structure InC (w : World) (p : Lie) (x : InstP) : Prop where
  h0 : Kd.C k60 w p.A0 x.cars.length x.cars
  g0 : x.cars.length ≤ p.c0
  h1 : Kd.C k63 w p.A1 x.stops.length x.stops
  g1 : x.stops.length ≤ p.c1
  h2 : Kd.C (Kd.int .i64) w p.A2 x.rides.length x.rides
  g2 : x.rides.length ≤ p.c2
  h3 : Kd.C (Kd.slice 2 (Kd.int .i64)) w p.A3 x.rows.length x.rows
  g3 : x.rows.length ≤ p.c3
abbrev instCs (p : Lie) (x : InstP) : Array Value := #[.slice p.A0 x.cars.length p.c0, .slice p.A1 x.stops.length p.c1, .slice p.A2 x.rides.length p.c2, .slice p.A3 x.rows.length p.c3]
theorem InC.below {w w1 : World} {p : Lie} {x : InstP} (h : InC w p x) (hb : Below w.heap.size w w1) : InC w1 p x :=
  ⟨Kd.C_below h.h0 hb, h.g0, Kd.C_below h.h1 hb, h.g1, Kd.C_below h.h2 hb, h.g2, Kd.C_below h.h3 hb, h.g3⟩
def rangesB (x : InstP) : Bool := !x.cars.any badCar && (!x.rides.any badTime && !x.stops.any badStop)
theorem inst_ranges.calls (p : Lie) (x : InstP) (w : World) (h : InC w p x) :
    Calls Tryz.prog 34 #[.agg (instCs p x)] w fun e w' => e = .returned (.bool (rangesB x)) ∧ Below w.heap.size w w' := by
  obtain ⟨A0, c0, A1, c1, A2, c2, A3, c3⟩ := p
  have C1 := Aside0.mk (fun W (hb : Below w.heap.size w W) => ContainsFunc_Car.calls 64 #[] badCar A0 c0 x.cars W (enters_of Tryz.func64 (by kernel_rfl) rfl) (fun W c _ _ => badCar_calls c W) (h.below hb).h0 h.g0)
  have C2 := Aside0.mk (fun W (hb : Below w.heap.size w W) => ContainsFunc_int.calls 68 #[] badTime A2 c2 x.rides W (enters_of Tryz.func68 (by kernel_rfl) rfl) (fun W c _ _ => badTime_calls c W) (h.below hb).h2 h.g2)
  have C3 := Aside0.mk (fun W (hb : Below w.heap.size w W) => ContainsFunc_Stop.calls 69 #[] badStop A1 c1 x.stops W (enters_of Tryz.func69 (by kernel_rfl) rfl) (fun W c _ _ => badStop_calls c W) (h.below hb).h1 h.g1)
  unfold rangesB
  show Calls Tryz.prog 34 #[.agg #[.slice A0 x.cars.length c0, .slice A1 x.stops.length c1, .slice A2 x.rides.length c2, .slice A3 x.rows.length c3]] w _
  clear h
  generalize x.cars.any badCar = z1 at C1 ⊢
  generalize x.rides.any badTime = z2 at C2 ⊢
  generalize x.stops.any badStop = z3 at C3 ⊢
  generalize x.cars.length = n0 at C1 ⊢
  generalize x.stops.length = n1 at C3 ⊢
  generalize x.rides.length = n2 at C2 ⊢
  generalize x.rows.length = n3
  have HB := Aside0.mk (below_alloc (Below.refl w.heap.size w) (.cells #[.slice A0 n0 c0, .slice A1 n1 c1, .slice A2 n2 c2, .slice A3 n3 c3] 28 (0, 0)))
  have HW := Aside0.mk (heap_alloc_new w (.cells #[.slice A0 n0 c0, .slice A1 n1 c1, .slice A2 n2 c2, .slice A3 n3 c3] 28 (0, 0)))
  cases z1 <;> cases z2
  all_goals
    go_enter Tryz.func34, Tryz.ntmps34
    go_wp2_with (first
      | (go_at_call 63; refine (C1.out _ HB.out).mono ?_; rintro e w1 ⟨rfl, hb⟩; have B1 := Aside0.mk (HB.out.trans (hb.mono HB.out.size)); have HW1 := Aside0.mk ((hb.block _ (Array.getElem?_eq_some_iff.1 HW.out).1).trans HW.out); have y2 := (blk_cell HW1.out 2).trans rfl; clear hb)
      | (go_at_call 67; refine (C2.out _ B1.out).mono ?_; rintro e w2 ⟨rfl, hb⟩; have B2 := Aside0.mk (B1.out.trans (hb.mono B1.out.size)); have HW2 := Aside0.mk ((hb.block _ (Array.getElem?_eq_some_iff.1 HW1.out).1).trans HW1.out); clear y2; have y1 := (blk_cell HW2.out 1).trans rfl; clear hb)
      | (go_at_call 37; refine (C3.out _ B2.out).mono ?_; rintro e w3 ⟨rfl, hb⟩; have B3 := Aside0.mk (B2.out.trans (hb.mono B2.out.size)); clear hb y1))
    go_ret
    exact ⟨by first | rfl | (simp; done), B3.out⟩
end Go.Proofs.YtcdmndhaeiccoaaGreatDoor.P
namespace Go.Proofs.YtcdmndhaeiccoaaGreatDoor.P
open Go Go.Proofs.YtcdmndhaeiccoaaGreatDoorR
open Go.RowKit Go.Proofs.YtcdmndhaeiccoaaGreatDoorW.PrintWords Go.Proofs.YtcdmndhaeiccoaaGreatDoorW.PrintLast
set_option linter.unusedVariables false
set_option linter.unusedSimpArgs false
set_option maxHeartbeats 8000000
set_option maxRecDepth 100000
theorem rd_at {α : Type} (z : α) (xs : List α) (j : Nat) (hj : j < xs.length) : xs.getD ((j : Int)).toNat z = xs[j] := by
  rw [Int.toNat_natCast, List.getD_eq_getElem?_getD, List.getElem?_eq_getElem hj]; rfl
theorem any_hit {α : Type} (z : α) (b : α → Bool) (xs : List α) (j : Nat) (hj : j < xs.length) (h : b (xs.getD ((j : Int)).toNat z) = true) : xs.any b = true := by
  rw [rd_at z xs j hj] at h
  exact List.any_eq_true.2 ⟨_, List.getElem_mem hj, h⟩
theorem any_miss {α : Type} (z : α) (b : α → Bool) (xs : List α) (h : ∀ j : Nat, j < xs.length → b (xs.getD ((j : Int)).toNat z) = false) : xs.any b = false := by
  rw [Bool.eq_false_iff]
  intro hc
  obtain ⟨x, hx, hb⟩ := List.any_eq_true.1 hc
  obtain ⟨j, hj, rfl⟩ := List.mem_iff_getElem.1 hx
  have := h j hj
  rw [rd_at z xs j hj, hb] at this
  cases this
def matB (x : InstP) : Bool := x.rows.any (fun r => r.any badTime)
theorem inst_matrix.calls (p : Lie) (x : InstP) (w : World) (h : InC w p x) (hn : x.rows.length = x.stops.length) (hr : ∀ r ∈ x.rows, r.length = x.stops.length) (hb : x.stops.length ≤ 4096) :
    Calls Tryz.prog 36 #[.agg (instCs p x)] w fun e w' => e = .returned (.int .i64 (if matB x then 23 else 0)) ∧ Below w.heap.size w w' := by
  obtain ⟨A0, c0, A1, c1, A2, c2, A3, c3⟩ := p
  have HX := Aside0.mk h.h3
  have HXC := Aside0.mk h.g3
  show Calls Tryz.prog 36 #[.agg #[.slice A0 x.cars.length c0, .slice A1 x.stops.length c1, .slice A2 x.rides.length c2, .slice A3 x.rows.length c3]] w _
  have C1 := Aside0.mk (fun W g (hb : Below w.heap.size w W) (hg : W.cell? ⟨g, 0, none⟩ = some (.int .i64 (x.stops.length : Int))) => ContainsFunc_row.calls 73 #[.pointer (some ⟨g, 0, none⟩)] (fun r => !((r.length : Int) == (x.stops.length : Int))) A3 c3 x.rows W (enters_of Tryz.func73 (by kernel_rfl) rfl) (fun W2 r _ hb2 B q => badRow_calls (x.stops.length : Int) g W2 (cell_below hb2 hg) B r.length q) (Kd.C_below HX.out hb) HXC.out)
  have hany : x.rows.any (fun r => !((r.length : Int) == (x.stops.length : Int))) = false := by
    rw [Bool.eq_false_iff]
    intro hc
    obtain ⟨r, hm, hq⟩ := List.any_eq_true.1 hc
    rw [hr r hm] at hq
    simp at hq
  rw [hany] at C1
  have C2 := Aside0.mk (fun W A c (r : List Int) (hC : (Kd.int .i64).C W A r.length r) (hc : r.length ≤ c) => ContainsFunc_int.calls 74 #[] badTime A c r W (enters_of Tryz.func74 (by kernel_rfl) rfl) (fun W c _ _ => badTime2_calls c W) hC hc)
  have HH := Aside0.mk (fun j hj => any_hit ([] : List Int) (fun r => r.any badTime) x.rows j hj)
  have HM := Aside0.mk (any_miss ([] : List Int) (fun r => r.any badTime) x.rows)
  unfold matB
  obtain ⟨n, hnn⟩ : ∃ n, n = x.stops.length := ⟨_, rfl⟩
  rw [hn, ← hnn] at HX HXC
  rw [← hnn, hn, ← hnn] at C1
  rw [hn, ← hnn]
  rw [← hnn] at hb
  generalize x.rows.any (fun r => r.any badTime) = z at HH HM ⊢
  have HN := Aside0.mk hb
  have hn' : x.rows.length = n := hn.trans hnn.symm
  clear h hn hr hany hnn hb
  generalize x.cars.length = n0
  generalize x.rides.length = n2
  obtain ⟨rows, hrows⟩ : ∃ rows, rows = x.rows := ⟨_, rfl⟩
  rw [← hrows] at HX HH HM hn'
  have HR := Aside0.mk hn'
  clear hrows hn'
  have HB := Aside0.mk (below_alloc (Below.refl w.heap.size w) (.cells #[.slice A0 n0 c0, .slice A1 n c1, .slice A2 n2 c2, .slice A3 n c3] 28 (0, 0)))
  have HB2 := Aside0.mk (below_alloc HB.out (.cells #[.int .i64 (n : Int)] 3 (0, 0)))
  have HG := Aside0.mk ((blk_cell (heap_alloc2_new w (.cells #[.slice A0 n0 c0, .slice A1 n c1, .slice A2 n2 c2, .slice A3 n c3] 28 (0, 0)) (.cells #[.int .i64 (n : Int)] 3 (0, 0))) 0).trans rfl)
  have HW := Aside0.mk (heap_alloc2_old w (.cells #[.slice A0 n0 c0, .slice A1 n c1, .slice A2 n2 c2, .slice A3 n c3] 28 (0, 0)) (.cells #[.int .i64 (n : Int)] 3 (0, 0)))
  have q1 : ((n : Int) == (n : Int)) = true := by simp
  have q2 : ((n : Int) != (n : Int)) = false := by simp
  go_enter Tryz.func36, Tryz.ntmps36
  go_wp2_with (first
      | (go_at_call 72; refine (C1.out _ (w.heap.size + 1) HB2.out HG.out).mono ?_; rintro e w1 ⟨rfl, hb⟩; have B1 := Aside0.mk (HB2.out.trans (hb.mono HB2.out.size)); have y3 := (blk_cell ((hb.block _ (Array.getElem?_eq_some_iff.1 HW.out).1).trans HW.out) 3).trans rfl; clear hb))
  go_loopg [5, 23] n (fun gg v5 v23 wr => ∃ j : Nat, v23 = .int .i64 (j : Int) ∧ j ≤ n ∧ n - j ≤ gg ∧ Aside0 (∀ i : Nat, i < j → (rows.getD ((i : Int)).toNat []).any badTime = false) ∧ Aside0 (Below w.heap.size w wr))
  case atStart => exact ⟨0, rfl, Nat.zero_le _, Nat.le_refl _, ⟨fun i hi => absurd hi (Nat.not_lt_zero _)⟩, B1⟩
  case round =>
    clear y3
    obtain ⟨j, rfl, hj, hm, K1, HBR⟩ := hrel
    by_cases hjn : j < n
    · have c1 : decide ((j : Int) < (n : Int)) = true := by simp; omega
      have p1 : (0 : Int) ≤ (j : Int) := by omega
      have p2 : (j : Int) < (n : Int) := by omega
      have w1 : wrap64 ((j : Int) + 1) = (j : Int) + 1 := by have := HN.out; unfold wrap64; omega
      obtain ⟨ad, B0, q0, rfl, h0, hq, hC⟩ := at_L6 HX.out (j : Int) p1 p2
      rw [Int.toNat_natCast] at h0
      have gh0 := cell_below HBR.out h0
      have D1 := Aside0.mk (C2.out wr B0 q0 _ (Kd.C_below hC HBR.out) hq)
      have HS := Aside0.mk (fun h : (rd_L6 rows (j : Int)).any badTime = false => show ∀ i : Nat, i < j + 1 → (rows.getD ((i : Int)).toNat []).any badTime = false from fun i hi => by
        by_cases e : i = j
        · subst e; exact h
        · exact K1.out i (by omega))
      have H1 := Aside0.mk (fun h : (rd_L6 rows (j : Int)).any badTime = true => HH.out j (by have := HR.out; omega) h)
      clear h0 hC hq
      generalize rd_L6 rows (j : Int) = row at gh0 D1 HS H1
      cases hz : row.any badTime with
      | true =>
        rw [hz] at D1
        have hzz := H1.out hz
        clear HS H1 hz
        go_wp2_with (first | (go_at_call 67; refine D1.out.mono ?_; rintro e w2 ⟨rfl, hb⟩; have B2 := Aside0.mk (HBR.out.trans (hb.mono HBR.out.size)); clear hb))
        go_ret
        exact ⟨rfl, B2.out⟩
      | false =>
        rw [hz] at D1
        have HZ := Aside0.mk (HS.out hz)
        clear HS H1 hz
        go_wp2_with (first | (go_at_call 67; refine D1.out.mono ?_; rintro e w2 ⟨rfl, hb⟩; have B2 := Aside0.mk (HBR.out.trans (hb.mono HBR.out.size)); clear hb))
        go_roundg (n - (j + 1))
        case measure => omega
        case rel => exact ⟨j + 1, by first | rfl | go_num, by omega, Nat.le_refl _, HZ, B2⟩
    · have c1 : decide ((j : Int) < (n : Int)) = false := by simp; omega
      have hz := HM.out (fun i hi => K1.out i (by have := HR.out; omega))
      go_wp2
      all_goals (go_ret; exact ⟨rfl, HBR.out⟩)
end Go.Proofs.YtcdmndhaeiccoaaGreatDoor.P
namespace Go.Proofs.YtcdmndhaeiccoaaGreatDoor.P
open Go Go.Proofs.YtcdmndhaeiccoaaGreatDoorR
open Go.Shelf Go.Sort
open Go.RowKit Go.Proofs.YtcdmndhaeiccoaaGreatDoorW.PrintWords Go.Proofs.YtcdmndhaeiccoaaGreatDoorW.PrintLast
set_option linter.unusedVariables false
set_option linter.unusedSimpArgs false
set_option maxHeartbeats 8000000
set_option maxRecDepth 100000
theorem grow_alloc (w : World) (o : Obj) (q : Nat) (os : Array Obj) : grow ((w.alloc o).drewN q) os = grow (w.drewN q) (#[o] ++ os) := by
  rw [alloc_eq_grow]
  show grow (grow (w.drewN q) #[o]) os = _
  rw [grow_grow]
theorem count_calls (A0 A1 A2 A3 : Option Addr) (n0 c0 n1 c1 n2 c2 n3 c3 : Nat) (w : World) :
    Calls Tryz.prog 99 #[.agg #[.slice A0 n0 c0, .slice A1 n1 c1, .slice A2 n2 c2, .slice A3 n3 c3]] w fun e w' => e = .returned (.int .i64 (n2 : Int)) ∧ ∃ q os', w' = grow (w.drewN q) os' := by
  go_enter Tryz.func99, Tryz.ntmps99
  go_wp2
  go_ret
  exact ⟨rfl, 0, #[_], rfl⟩
theorem last_calls (A0 A1 A2 A3 : Option Addr) (n0 c0 n1 c1 n2 c2 n3 c3 : Nat) (hn : n2 ≤ 4096) (w : World) :
    Calls Tryz.prog 62 #[.agg #[.slice A0 n0 c0, .slice A1 n1 c1, .slice A2 n2 c2, .slice A3 n3 c3]] w fun e w' => e = .returned (.int .i64 (2 * (n2 : Int) + 1)) ∧ ∃ q os', w' = grow (w.drewN q) os' := by
  have C1 := Aside0.mk (fun W => count_calls A0 A1 A2 A3 n0 c0 n1 c1 n2 c2 n3 c3 W)
  have h1 : wrap64 (2 * (n2 : Int)) = 2 * (n2 : Int) := by unfold wrap64; omega
  have h2 : wrap64 (2 * (n2 : Int) + 1) = 2 * (n2 : Int) + 1 := by unfold wrap64; omega
  go_enter Tryz.func62, Tryz.ntmps62
  go_wp2_with (first | (go_at_call 99; refine (C1.out _).mono ?_; rintro e w1 ⟨rfl, q, os, rfl⟩))
  go_ret
  exact ⟨rfl, q, _, grow_alloc _ _ _ _⟩
theorem sizes_calls (A0 A1 A2 A3 : Option Addr) (n0 c0 n1 c1 n2 c2 n3 c3 : Nat) (h0 : n0 ≠ 0) (h64 : n0 ≤ 64) (h1 : n1 = 2 * n2 + 2) (hn : n1 ≤ 4096) (w : World) :
    Calls Tryz.prog 33 #[.agg #[.slice A0 n0 c0, .slice A1 n1 c1, .slice A2 n2 c2, .slice A3 n3 c3]] w fun e w' => e = .returned (.int .i64 0) ∧ Below w.heap.size w w' := by
  have C1 := Aside0.mk (fun W => last_calls A0 A1 A2 A3 n0 c0 n1 c1 n2 c2 n3 c3 (by omega) W)
  have d1 : ((n0 : Int) == 0) = false := by simp; omega
  have d2 : decide ((64 : Int) < (n0 : Int)) = false := by simp; omega
  have d3 : decide ((4096 : Int) < (n1 : Int)) = false := by simp; omega
  have d4 : ((n1 : Int) != 2 * (n2 : Int) + 2) = false := by subst h1; simp
  have w2 : IntKind.i64.wrap (2 * (n2 : Int) + 1 + 1) = 2 * (n2 : Int) + 2 := by rw [IntKind.wrap_i64]; omega
  have HB := Aside0.mk (below_alloc (Below.refl w.heap.size w) (.cells #[.slice A0 n0 c0, .slice A1 n1 c1, .slice A2 n2 c2, .slice A3 n3 c3] 28 (0, 0)))
  have HW := heap_alloc_new w (.cells #[.slice A0 n0 c0, .slice A1 n1 c1, .slice A2 n2 c2, .slice A3 n3 c3] 28 (0, 0))
  have y0 := Go.cell_grown (by simp) ((blk_cell HW 0).trans rfl)
  have y1 := Go.cell_grown (by simp) ((blk_cell HW 1).trans rfl)
  have y2 := Go.cell_grown (by simp) ((blk_cell HW 2).trans rfl)
  have y3 := Go.cell_grown (by simp) ((blk_cell HW 3).trans rfl)
  clear HW h0 h64 h1 hn
  go_enter Tryz.func33, Tryz.ntmps33
  have mixed : Tryz.prog.follows .mixedOrders = true := by kernel_rfl
  go_wp2_with fail
  go_quiet_grown (first | (go_at_call 62; refine Calls.grown_of (C1.out _)))
  go_wp2
  go_ret
  exact ⟨rfl, HB.out.trans (Go.Lib.below_grow _ _ HB.out.size _ _)⟩
theorem request_calls (A0 A1 A2 A3 : Option Addr) (n0 c0 n1 c1 n2 c2 n3 c3 j : Nat) (hj : j ≤ 2 * n2 + 1) (hn : n2 ≤ 4096) (w : World) :
    Calls Tryz.prog 70 #[.agg #[.slice A0 n0 c0, .slice A1 n1 c1, .slice A2 n2 c2, .slice A3 n3 c3], .int .i64 (j : Int)] w fun e w' => e = .returned (.int .i64 ((if j = 0 ∨ j = 2 * n2 + 1 then 0 else if j ≤ n2 then j else j - n2 : Nat) : Int)) ∧ Below w.heap.size w w' := by
  have C1 := Aside0.mk (fun W => count_calls A0 A1 A2 A3 n0 c0 n1 c1 n2 c2 n3 c3 W)
  have HB := Aside0.mk (below_alloc (Below.refl w.heap.size w) (.cells #[.slice A0 n0 c0, .slice A1 n1 c1, .slice A2 n2 c2, .slice A3 n3 c3] 28 (0, 0)))
  have h1 : wrap64 (2 * (n2 : Int)) = 2 * (n2 : Int) := by unfold wrap64; omega
  by_cases a1 : 1 ≤ j
  · have d1 : decide ((1 : Int) ≤ (j : Int)) = true := by simp; omega
    by_cases a2 : j ≤ n2
    · rw [if_neg (by omega), if_pos a2]
      have d2 : decide ((j : Int) ≤ (n2 : Int)) = true := by simp; omega
      go_enter Tryz.func70, Tryz.ntmps70
      go_wp2_with (first | (go_at_call 99; refine (C1.out _).mono ?_; rintro e w1 ⟨rfl, q, os, rfl⟩))
      go_ret
      exact ⟨rfl, HB.out.trans (Go.Lib.below_grow _ _ HB.out.size _ _)⟩
    · have d2 : decide ((j : Int) ≤ (n2 : Int)) = false := by simp; omega
      have d3 : decide ((n2 : Int) < (j : Int)) = true := by simp; omega
      by_cases a3 : j ≤ 2 * n2
      · rw [if_neg (by omega), if_neg a2]
        have d4 : decide ((j : Int) ≤ 2 * (n2 : Int)) = true := by simp; omega
        have h2 : wrap64 ((j : Int) - (n2 : Int)) = (j : Int) - (n2 : Int) := by unfold wrap64; omega
        have h3 : ((j - n2 : Nat) : Int) = (j : Int) - (n2 : Int) := by omega
        rw [h3]
        clear h3
        go_enter Tryz.func70, Tryz.ntmps70
        go_wp2_with (first | (go_at_call 99; refine (C1.out _).mono ?_; rintro e w1 ⟨rfl, q, os, rfl⟩))
        go_ret
        exact ⟨rfl, HB.out.trans (Go.Lib.below_grow _ _ HB.out.size _ _)⟩
      · rw [if_pos (by omega)]
        have d4 : decide ((j : Int) ≤ 2 * (n2 : Int)) = false := by simp; omega
        go_enter Tryz.func70, Tryz.ntmps70
        go_wp2_with (first | (go_at_call 99; refine (C1.out _).mono ?_; rintro e w1 ⟨rfl, q, os, rfl⟩))
        go_ret
        exact ⟨rfl, HB.out.trans (Go.Lib.below_grow _ _ HB.out.size _ _)⟩
  · rw [if_pos (by omega)]
    have d1 : decide ((1 : Int) ≤ (j : Int)) = false := by simp; omega
    have d3 : decide ((n2 : Int) < (j : Int)) = false := by simp; omega
    go_enter Tryz.func70, Tryz.ntmps70
    go_wp2_with (first | (go_at_call 99; refine (C1.out _).mono ?_; rintro e w1 ⟨rfl, q, os, rfl⟩))
    go_ret
    exact ⟨rfl, HB.out.trans (Go.Lib.below_grow _ _ HB.out.size _ _)⟩
end Go.Proofs.YtcdmndhaeiccoaaGreatDoor.P
namespace Go.Proofs.YtcdmndhaeiccoaaGreatDoor.P
open Go.Proofs.YtcdmndhaeiccoaaGreatDoorR
open Go.RowKit Go.Proofs.YtcdmndhaeiccoaaGreatDoorW.PrintWords Go.Proofs.YtcdmndhaeiccoaaGreatDoorW.PrintLast
attribute [local go_sem] max2_int min2_int max_two min_two   -- for this text's walks alone
set_option linter.unusedVariables false
set_option linter.unusedSimpArgs false

theorem eqA58 (d : Nat) (w : World) (x0 y0 : Int) (x1 y1 : Int) :
    (Op.equalIn (d + 2) 58 (.agg #[.int .i64 x0, .int .i64 x1]) (.agg #[.int .i64 y0, .int .i64 y1])).run Tryz.prog w = .ok (x0 == y0 && (x1 == y1)) w := by
  refine eqA_of Tryz.underlying58 (by kernel_rfl) ?_
  refine eqf_cons (by rfl) (by go_simp; rfl) (by go_simp; rfl) (by go_simp) ?_
  exact eqf_last (by rfl) (by go_simp; rfl) (by go_simp; rfl) (by go_simp)
end Go.Proofs.YtcdmndhaeiccoaaGreatDoor.P
