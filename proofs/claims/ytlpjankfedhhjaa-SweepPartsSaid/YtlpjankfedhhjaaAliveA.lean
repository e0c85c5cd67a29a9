/- The document's example of layer 17 holds (printed by genalive.py). -/
import Derived.Test.YtlpjankfedhhjaaOrd2
import Derived.Test.YtlpjankfedhhjaaP5
namespace Go.Proofs.Ytlpjankfedhhjaa.P
open Go.Proofs.YtlpjankfedhhjaaR
open Go.Shelf Go.Sort
open Go.RowKit Go.Proofs.YtlpjankfedhhjaaW.PrintWords Go.Proofs.YtlpjankfedhhjaaW.PrintLast Go.Proofs.YtlpjankfedhhjaaW.PrintMore
set_option linter.unusedVariables false
set_option linter.unusedSimpArgs false
set_option maxHeartbeats 8000000
set_option maxRecDepth 100000
def pvC {α : Type} (d : Kd α) (L : List α) : PV := ⟨fun v w => ∃ A c, v = .slice A L.length c ∧ L.length ≤ c ∧ d.C w A L.length L, fun ⟨A, c, e, hc, h⟩ hb => ⟨A, c, e, hc, Kd.C_below h hb⟩⟩
theorem far_ex : far 1 0 (-1) 0 = 2 ∧ far (-1) 0 1 0 = 2 := by decide +kernel
theorem spot2 : Spot (pX 2) (pY 2) 1 0 := spot_1
theorem spot3 : Spot (pX 3) (pY 3) (-1) 0 := spot_m1
theorem Travel23.calls (gc gs gr : Nat) (w : World) (hS : Samp w gs) : Calls Try.prog 21 #[.agg #[.slice (some ⟨gc, 0, none⟩) 2 2, .slice (some ⟨gs, 0, none⟩) 10 10, .slice (some ⟨gr, 0, none⟩) 4 4, .slice none 0 0], .int .i64 2, .int .i64 3] w fun e w' => e = .returned (.int .i64 2) ∧ Below w.heap.size w w' := by
  have HX := Aside0.mk (box_new gc gs gr w)
  have HB0 := Aside0.mk (below_alloc (Below.refl w.heap.size w) (.cells #[.slice (some ⟨gc, 0, none⟩) 2 2, .slice (some ⟨gs, 0, none⟩) 10 10, .slice (some ⟨gr, 0, none⟩) 4 4, .slice none 0 0] 34))
  have HS := Aside0.mk (hS.here (below_alloc (Below.refl w.heap.size w) (.cells #[.slice (some ⟨gc, 0, none⟩) 2 2, .slice (some ⟨gs, 0, none⟩) 10 10, .slice (some ⟨gr, 0, none⟩) 4 4, .slice none 0 0] 34)))
  clear hS
  go_enter Try.func21, Try.ntmps21
  go_wp2
  refine wp_region_pv [.val (.pointer (some ⟨w.heap.size, 1, none⟩)), .val (.slice (some ⟨gs, 0, none⟩) 10 10), .val (.int .i64 2), .val (.pointer (some ⟨gs, 12, none⟩)), .val (.pointer (some ⟨gs, 17, none⟩)), .val (.complex .f64 4607182418800017408 0), .val (.pointer (some ⟨w.heap.size, 1, none⟩)), .val (.slice (some ⟨gs, 0, none⟩) 10 10), .val (.int .i64 3), .val (.pointer (some ⟨gs, 18, none⟩)), .val (.pointer (some ⟨gs, 23, none⟩)), .val (.complex .f64 13830554455654793216 0), .val (.int .i64 2), .val (.int .i64 2)] rfl (by kernel_rfl) ?howes ?hend
  case howes =>
    refine ⟨?_, ?_, ?_, ?_, ?_, ?_, ?_, ?_, ?_, ?_, ?_, ?_, ?_, ?_, trivial⟩
    · refine owes_pv0 (fun E vs a W_ hI hE hp => ?_)
      have e0 := hI.outer (d := 3) (by rfl) rfl
      refine ⟨rfl, _, ?_, rfl⟩
      simp only [execOp, e0]
      first
        | rfl
        | (go_simp; done)
        | (go_simp; rfl)
    · refine owes_pv0 (fun E vs a W_ hI hE hp => ?_)
      have e0 : a.eval (.tmp 33) = .pointer (some ⟨w.heap.size, 1, none⟩) := hI.pv 0 rfl rfl (pred_of hp 0 rfl) rfl
      have q1 := cell_below hI.world.2 HX.out.c1
      refine ⟨rfl, _, ?_, rfl⟩
      simp only [execOp, e0]
      first
        | rfl
        | (go_simp; done)
        | (go_simp; rfl)
    · refine owes_pv0 (fun E vs a W_ hI hE hp => ?_)
      have e0 := hI.outer (d := 1) (by rfl) rfl
      refine ⟨rfl, _, ?_, rfl⟩
      simp only [execOp, e0]
      first
        | rfl
        | (go_simp; done)
        | (go_simp; rfl)
    · refine owes_pv0 (fun E vs a W_ hI hE hp => ?_)
      have e0 : a.eval (.tmp 34) = .slice (some ⟨gs, 0, none⟩) 10 10 := hI.pv 1 rfl rfl (pred_of hp 1 rfl) rfl
      have e1 : a.eval (.tmp 35) = .int .i64 2 := hI.pv 2 rfl rfl (pred_of hp 2 rfl) rfl
      refine ⟨rfl, _, ?_, rfl⟩
      simp only [execOp, e0, e1]
      first
        | rfl
        | (go_simp; done)
        | (go_simp; rfl)
    · refine owes_pv0 (fun E vs a W_ hI hE hp => ?_)
      have e0 : a.eval (.tmp 36) = .pointer (some ⟨gs, 12, none⟩) := hI.pv 3 rfl rfl (pred_of hp 3 rfl) rfl
      refine ⟨rfl, _, ?_, rfl⟩
      simp only [execOp, e0]
      first
        | rfl
        | (go_simp; done)
        | (go_simp; rfl)
    · refine owes_pv0 (fun E vs a W_ hI hE hp => ?_)
      have e0 : a.eval (.tmp 37) = .pointer (some ⟨gs, 17, none⟩) := hI.pv 4 rfl rfl (pred_of hp 4 rfl) rfl
      have q := cell_below hI.world.2 (HS.out.cell 2 (by decide))
      simp only [Nat.reduceMul, Nat.reduceAdd] at q
      have q' : W_.cell? ⟨gs, 17, none⟩ = some (.complex .f64 4607182418800017408 0) := q
      clear q
      refine ⟨rfl, _, ?_, rfl⟩
      simp only [execOp, e0]
      first
        | rfl
        | (go_simp; done)
        | (go_simp; rfl)
    · refine owes_pv0 (fun E vs a W_ hI hE hp => ?_)
      have e0 := hI.outer (d := 3) (by rfl) rfl
      refine ⟨rfl, _, ?_, rfl⟩
      simp only [execOp, e0]
      first
        | rfl
        | (go_simp; done)
        | (go_simp; rfl)
    · refine owes_pv0 (fun E vs a W_ hI hE hp => ?_)
      have e0 : a.eval (.tmp 39) = .pointer (some ⟨w.heap.size, 1, none⟩) := hI.pv 6 rfl rfl (pred_of hp 6 rfl) rfl
      have q1 := cell_below hI.world.2 HX.out.c1
      refine ⟨rfl, _, ?_, rfl⟩
      simp only [execOp, e0]
      first
        | rfl
        | (go_simp; done)
        | (go_simp; rfl)
    · refine owes_pv0 (fun E vs a W_ hI hE hp => ?_)
      have e0 := hI.outer (d := 2) (by rfl) rfl
      refine ⟨rfl, _, ?_, rfl⟩
      simp only [execOp, e0]
      first
        | rfl
        | (go_simp; done)
        | (go_simp; rfl)
    · refine owes_pv0 (fun E vs a W_ hI hE hp => ?_)
      have e0 : a.eval (.tmp 40) = .slice (some ⟨gs, 0, none⟩) 10 10 := hI.pv 7 rfl rfl (pred_of hp 7 rfl) rfl
      have e1 : a.eval (.tmp 41) = .int .i64 3 := hI.pv 8 rfl rfl (pred_of hp 8 rfl) rfl
      refine ⟨rfl, _, ?_, rfl⟩
      simp only [execOp, e0, e1]
      first
        | rfl
        | (go_simp; done)
        | (go_simp; rfl)
    · refine owes_pv0 (fun E vs a W_ hI hE hp => ?_)
      have e0 : a.eval (.tmp 42) = .pointer (some ⟨gs, 18, none⟩) := hI.pv 9 rfl rfl (pred_of hp 9 rfl) rfl
      refine ⟨rfl, _, ?_, rfl⟩
      simp only [execOp, e0]
      first
        | rfl
        | (go_simp; done)
        | (go_simp; rfl)
    · refine owes_pv0 (fun E vs a W_ hI hE hp => ?_)
      have e0 : a.eval (.tmp 43) = .pointer (some ⟨gs, 23, none⟩) := hI.pv 10 rfl rfl (pred_of hp 10 rfl) rfl
      have q := cell_below hI.world.2 (HS.out.cell 3 (by decide))
      simp only [Nat.reduceMul, Nat.reduceAdd] at q
      have q' : W_.cell? ⟨gs, 23, none⟩ = some (.complex .f64 13830554455654793216 0) := q
      clear q
      refine ⟨rfl, _, ?_, rfl⟩
      simp only [execOp, e0]
      first
        | rfl
        | (go_simp; done)
        | (go_simp; rfl)
    · refine owes_pvc (fun E vs a W_ hI hE hp => ?_)
      have e0 : a.eval (.tmp 38) = .complex .f64 4607182418800017408 0 := hI.pv 5 rfl rfl (pred_of hp 5 rfl) rfl
      have e1 : a.eval (.tmp 44) = .complex .f64 13830554455654793216 0 := hI.pv 11 rfl rfl (pred_of hp 11 rfl) rfl
      refine ⟨rfl, 31, #[.complex .f64 4607182418800017408 0, .complex .f64 13830554455654793216 0], ?_, ?_⟩
      · simp only [execOp, resolve, List.map_toArray, List.map_cons, List.map_nil, e0, e1]
        rfl
      · refine (spot_Dist.calls spot_1 spot_m1 W_).mono ?_
        rintro e w' ⟨rfl, hb⟩
        exact ⟨_, rfl, hb, congrArg (fun z => Value.int IntKind.i64 z) far_ex.1⟩
    · refine owes_pv0 (fun E vs a W_ hI hE hp => ?_)
      have e0 : a.eval (.tmp 45) = .int .i64 2 := hI.pv 12 rfl rfl (pred_of hp 12 rfl) rfl
      refine ⟨rfl, _, ?_, rfl⟩
      simp only [execOp, e0]
      first
        | rfl
        | (go_simp; done)
        | (go_simp; rfl)
  case hend =>
    intro E vs a w3 hI hall
    have h6 : a.eval (.tmp 6) = .int .i64 2 := hI.pv 13 rfl rfl (hall 13 (by decide)) rfl
    obtain rfl := hI.frame (by kernel_rfl) hall
    have hb := hI.world.2
    clear hI hall
    simp only [putsFrom, List.setIfInBounds_toArray, List.set_cons_zero, List.set_cons_succ] at h6 ⊢
    have e6 : vs 13 = .int .i64 2 := h6
    rw [e6]
    go_wp2
    go_ret
    exact ⟨rfl, HB0.out.trans (hb.mono HB0.out.size)⟩
theorem Travel32.calls (gc gs gr : Nat) (w : World) (hS : Samp w gs) : Calls Try.prog 21 #[.agg #[.slice (some ⟨gc, 0, none⟩) 2 2, .slice (some ⟨gs, 0, none⟩) 10 10, .slice (some ⟨gr, 0, none⟩) 4 4, .slice none 0 0], .int .i64 3, .int .i64 2] w fun e w' => e = .returned (.int .i64 2) ∧ Below w.heap.size w w' := by
  have HX := Aside0.mk (box_new gc gs gr w)
  have HB0 := Aside0.mk (below_alloc (Below.refl w.heap.size w) (.cells #[.slice (some ⟨gc, 0, none⟩) 2 2, .slice (some ⟨gs, 0, none⟩) 10 10, .slice (some ⟨gr, 0, none⟩) 4 4, .slice none 0 0] 34))
  have HS := Aside0.mk (hS.here (below_alloc (Below.refl w.heap.size w) (.cells #[.slice (some ⟨gc, 0, none⟩) 2 2, .slice (some ⟨gs, 0, none⟩) 10 10, .slice (some ⟨gr, 0, none⟩) 4 4, .slice none 0 0] 34)))
  clear hS
  go_enter Try.func21, Try.ntmps21
  go_wp2
  refine wp_region_pv [.val (.pointer (some ⟨w.heap.size, 1, none⟩)), .val (.slice (some ⟨gs, 0, none⟩) 10 10), .val (.int .i64 3), .val (.pointer (some ⟨gs, 18, none⟩)), .val (.pointer (some ⟨gs, 23, none⟩)), .val (.complex .f64 13830554455654793216 0), .val (.pointer (some ⟨w.heap.size, 1, none⟩)), .val (.slice (some ⟨gs, 0, none⟩) 10 10), .val (.int .i64 2), .val (.pointer (some ⟨gs, 12, none⟩)), .val (.pointer (some ⟨gs, 17, none⟩)), .val (.complex .f64 4607182418800017408 0), .val (.int .i64 2), .val (.int .i64 2)] rfl (by kernel_rfl) ?howes ?hend
  case howes =>
    refine ⟨?_, ?_, ?_, ?_, ?_, ?_, ?_, ?_, ?_, ?_, ?_, ?_, ?_, ?_, trivial⟩
    · refine owes_pv0 (fun E vs a W_ hI hE hp => ?_)
      have e0 := hI.outer (d := 3) (by rfl) rfl
      refine ⟨rfl, _, ?_, rfl⟩
      simp only [execOp, e0]
      first
        | rfl
        | (go_simp; done)
        | (go_simp; rfl)
    · refine owes_pv0 (fun E vs a W_ hI hE hp => ?_)
      have e0 : a.eval (.tmp 33) = .pointer (some ⟨w.heap.size, 1, none⟩) := hI.pv 0 rfl rfl (pred_of hp 0 rfl) rfl
      have q1 := cell_below hI.world.2 HX.out.c1
      refine ⟨rfl, _, ?_, rfl⟩
      simp only [execOp, e0]
      first
        | rfl
        | (go_simp; done)
        | (go_simp; rfl)
    · refine owes_pv0 (fun E vs a W_ hI hE hp => ?_)
      have e0 := hI.outer (d := 1) (by rfl) rfl
      refine ⟨rfl, _, ?_, rfl⟩
      simp only [execOp, e0]
      first
        | rfl
        | (go_simp; done)
        | (go_simp; rfl)
    · refine owes_pv0 (fun E vs a W_ hI hE hp => ?_)
      have e0 : a.eval (.tmp 34) = .slice (some ⟨gs, 0, none⟩) 10 10 := hI.pv 1 rfl rfl (pred_of hp 1 rfl) rfl
      have e1 : a.eval (.tmp 35) = .int .i64 3 := hI.pv 2 rfl rfl (pred_of hp 2 rfl) rfl
      refine ⟨rfl, _, ?_, rfl⟩
      simp only [execOp, e0, e1]
      first
        | rfl
        | (go_simp; done)
        | (go_simp; rfl)
    · refine owes_pv0 (fun E vs a W_ hI hE hp => ?_)
      have e0 : a.eval (.tmp 36) = .pointer (some ⟨gs, 18, none⟩) := hI.pv 3 rfl rfl (pred_of hp 3 rfl) rfl
      refine ⟨rfl, _, ?_, rfl⟩
      simp only [execOp, e0]
      first
        | rfl
        | (go_simp; done)
        | (go_simp; rfl)
    · refine owes_pv0 (fun E vs a W_ hI hE hp => ?_)
      have e0 : a.eval (.tmp 37) = .pointer (some ⟨gs, 23, none⟩) := hI.pv 4 rfl rfl (pred_of hp 4 rfl) rfl
      have q := cell_below hI.world.2 (HS.out.cell 3 (by decide))
      simp only [Nat.reduceMul, Nat.reduceAdd] at q
      have q' : W_.cell? ⟨gs, 23, none⟩ = some (.complex .f64 13830554455654793216 0) := q
      clear q
      refine ⟨rfl, _, ?_, rfl⟩
      simp only [execOp, e0]
      first
        | rfl
        | (go_simp; done)
        | (go_simp; rfl)
    · refine owes_pv0 (fun E vs a W_ hI hE hp => ?_)
      have e0 := hI.outer (d := 3) (by rfl) rfl
      refine ⟨rfl, _, ?_, rfl⟩
      simp only [execOp, e0]
      first
        | rfl
        | (go_simp; done)
        | (go_simp; rfl)
    · refine owes_pv0 (fun E vs a W_ hI hE hp => ?_)
      have e0 : a.eval (.tmp 39) = .pointer (some ⟨w.heap.size, 1, none⟩) := hI.pv 6 rfl rfl (pred_of hp 6 rfl) rfl
      have q1 := cell_below hI.world.2 HX.out.c1
      refine ⟨rfl, _, ?_, rfl⟩
      simp only [execOp, e0]
      first
        | rfl
        | (go_simp; done)
        | (go_simp; rfl)
    · refine owes_pv0 (fun E vs a W_ hI hE hp => ?_)
      have e0 := hI.outer (d := 2) (by rfl) rfl
      refine ⟨rfl, _, ?_, rfl⟩
      simp only [execOp, e0]
      first
        | rfl
        | (go_simp; done)
        | (go_simp; rfl)
    · refine owes_pv0 (fun E vs a W_ hI hE hp => ?_)
      have e0 : a.eval (.tmp 40) = .slice (some ⟨gs, 0, none⟩) 10 10 := hI.pv 7 rfl rfl (pred_of hp 7 rfl) rfl
      have e1 : a.eval (.tmp 41) = .int .i64 2 := hI.pv 8 rfl rfl (pred_of hp 8 rfl) rfl
      refine ⟨rfl, _, ?_, rfl⟩
      simp only [execOp, e0, e1]
      first
        | rfl
        | (go_simp; done)
        | (go_simp; rfl)
    · refine owes_pv0 (fun E vs a W_ hI hE hp => ?_)
      have e0 : a.eval (.tmp 42) = .pointer (some ⟨gs, 12, none⟩) := hI.pv 9 rfl rfl (pred_of hp 9 rfl) rfl
      refine ⟨rfl, _, ?_, rfl⟩
      simp only [execOp, e0]
      first
        | rfl
        | (go_simp; done)
        | (go_simp; rfl)
    · refine owes_pv0 (fun E vs a W_ hI hE hp => ?_)
      have e0 : a.eval (.tmp 43) = .pointer (some ⟨gs, 17, none⟩) := hI.pv 10 rfl rfl (pred_of hp 10 rfl) rfl
      have q := cell_below hI.world.2 (HS.out.cell 2 (by decide))
      simp only [Nat.reduceMul, Nat.reduceAdd] at q
      have q' : W_.cell? ⟨gs, 17, none⟩ = some (.complex .f64 4607182418800017408 0) := q
      clear q
      refine ⟨rfl, _, ?_, rfl⟩
      simp only [execOp, e0]
      first
        | rfl
        | (go_simp; done)
        | (go_simp; rfl)
    · refine owes_pvc (fun E vs a W_ hI hE hp => ?_)
      have e0 : a.eval (.tmp 38) = .complex .f64 13830554455654793216 0 := hI.pv 5 rfl rfl (pred_of hp 5 rfl) rfl
      have e1 : a.eval (.tmp 44) = .complex .f64 4607182418800017408 0 := hI.pv 11 rfl rfl (pred_of hp 11 rfl) rfl
      refine ⟨rfl, 31, #[.complex .f64 13830554455654793216 0, .complex .f64 4607182418800017408 0], ?_, ?_⟩
      · simp only [execOp, resolve, List.map_toArray, List.map_cons, List.map_nil, e0, e1]
        rfl
      · refine (spot_Dist.calls spot_m1 spot_1 W_).mono ?_
        rintro e w' ⟨rfl, hb⟩
        exact ⟨_, rfl, hb, congrArg (fun z => Value.int IntKind.i64 z) far_ex.2⟩
    · refine owes_pv0 (fun E vs a W_ hI hE hp => ?_)
      have e0 : a.eval (.tmp 45) = .int .i64 2 := hI.pv 12 rfl rfl (pred_of hp 12 rfl) rfl
      refine ⟨rfl, _, ?_, rfl⟩
      simp only [execOp, e0]
      first
        | rfl
        | (go_simp; done)
        | (go_simp; rfl)
  case hend =>
    intro E vs a w3 hI hall
    have h6 : a.eval (.tmp 6) = .int .i64 2 := hI.pv 13 rfl rfl (hall 13 (by decide)) rfl
    obtain rfl := hI.frame (by kernel_rfl) hall
    have hb := hI.world.2
    clear hI hall
    simp only [putsFrom, List.setIfInBounds_toArray, List.set_cons_zero, List.set_cons_succ] at h6 ⊢
    have e6 : vs 13 = .int .i64 2 := h6
    rw [e6]
    go_wp2
    go_ret
    exact ⟨rfl, HB0.out.trans (hb.mono HB0.out.size)⟩
theorem sweep_Spread.calls (gc gs gr : Nat) (A : Option Addr) (c : Nat) (w : World) (hS : Samp w gs) (hC : Kd.C (Kd.int .i64) w A 3 [2, 3, 9]) (hc : 3 ≤ c) : Calls Try.prog 12 #[.agg #[.slice (some ⟨gc, 0, none⟩) 2 2, .slice (some ⟨gs, 0, none⟩) 10 10, .slice (some ⟨gr, 0, none⟩) 4 4, .slice none 0 0], .slice A 3 c] w fun e w' => e = .returned (.int .i64 4) ∧ Below w.heap.size w w' := by
  obtain ⟨W, hW⟩ : ∃ W, W = w.alloc (.cells #[.slice (some ⟨gc, 0, none⟩) 2 2, .slice (some ⟨gs, 0, none⟩) 10 10, .slice (some ⟨gr, 0, none⟩) 4 4, .slice none 0 0] 34) := ⟨_, rfl⟩
  have hB0 : Below w.heap.size w W := by rw [hW]; exact below_alloc (Below.refl _ _) _
  have hX : Box W w.heap.size gc gs gr := by rw [hW]; exact box_new gc gs gr w
  have C1 := Aside0.mk (slices_Clone_int_int.calls A c [2, 3, 9] _ W (Kd.C_below hC hB0) hc cloneS)
  have HXW := Aside0.mk hX
  have HSW := Aside0.mk (hS.here hB0)
  have HB0 := Aside0.mk hB0
  have HW := Aside0.mk (show w.alloc (.cells #[.slice (some ⟨gc, 0, none⟩) 2 2, .slice (some ⟨gs, 0, none⟩) 10 10, .slice (some ⟨gr, 0, none⟩) 4 4, .slice none 0 0] 34) = W from hW.symm)
  clear hC hc hB0 hX hW hS
  go_enter Try.func12, Try.ntmps12
  go_wp2_with (first
    | (go_at_call 13; rw [HW.out]; refine C1.out.mono ?_; rintro e w1 ⟨v, rfl, hR, hb⟩; obtain ⟨g, cap, hv, hg1, hg2, -⟩ := Kd.R_form hR (by decide); have hv' : v = .slice (some ⟨g, 0, none⟩) 3 cap := hv; subst hv'; have R1 := Aside0.mk hR; have B1 := Aside0.mk hb; have G1 := Aside0.mk hg1; clear hR hb hg1 hg2 hv)
    | (go_at_call 17; go_loud (refine (DeleteFunc_spread1.last gc gs gr w.heap.size [2, 3, 9] g cap w1 (RowZ.of_R R1.out).1 (HXW.out.here B1.out) (goods _ _ (by decide +kernel)) rfl (bads _ _ 9 (by decide +kernel) (by decide +kernel)) (RowZ.of_R R1.out).2.2.2).mono ?_; rintro e w3 ⟨rfl, w2, hb, rfl⟩; have R2 := Aside0.mk (show Kd.R (Kd.int .i64) 3 (w2.setCell ⟨g, 2, none⟩ (.int .i64 0)) W.heap.size (fun _ => True) (.slice (some ⟨g, 0, none⟩) 2 cap) [2, 3] from Kd.R_take (Kd.R_put (Kd.R_below R1.out hb) 2 0).1 (by decide)); have B2 := Aside0.mk (show Below W.heap.size W (w2.setCell ⟨g, 2, none⟩ (.int .i64 0)) from (B1.out.trans (hb.mono B1.out.size)).setCell (p := ⟨g, 2, none⟩) G1.out _); clear hb)))
  have HW4 := Aside0.mk (RowZ.of_R R2.out).1
  generalize w2.setCell ⟨g, 2, none⟩ (.int .i64 0) = w4 at HW4 B2 R2 ⊢
  clear R2
  go_loopg [6, 7] 2 (fun gg v6 v7 wr => ((v6 = .int .i64 0 ∧ v7 = .int .i64 1 ∧ 1 ≤ gg) ∨ (v6 = .int .i64 4 ∧ v7 = .int .i64 2)) ∧ Aside0 (Below w4.heap.size w4 wr))
  case atStart => exact ⟨.inl ⟨rfl, rfl, by decide⟩, ⟨Below.refl _ _⟩⟩
  case round =>
    obtain ⟨hv, HBr⟩ := hrel
    have HX := Aside0.mk ((HXW.out.here B2.out).here HBr.out)
    have HZ := Aside0.mk (HW4.out.here HBr.out)
    have HS := Aside0.mk ((HSW.out.here B2.out).here HBr.out)
    rcases hv with ⟨rfl, rfl, hgg⟩ | ⟨rfl, rfl⟩
    · go_wp2
      refine wp_region_pv [.val (.int .i64 0), .val (.agg #[.slice (some ⟨gc, 0, none⟩) 2 2, .slice (some ⟨gs, 0, none⟩) 10 10, .slice (some ⟨gr, 0, none⟩) 4 4, .slice none 0 0]), .val (.slice (some ⟨g, 0, none⟩) 2 cap), .val (.int .i64 1), .val (.int .i64 0), .val (.pointer (some ⟨g, 0, none⟩)), .val (.int .i64 2), .val (.slice (some ⟨g, 0, none⟩) 2 cap), .val (.int .i64 1), .val (.pointer (some ⟨g, 1, none⟩)), .val (.int .i64 3), .val (.int .i64 2), .val (.int .i64 2), .val (.agg #[.slice (some ⟨gc, 0, none⟩) 2 2, .slice (some ⟨gs, 0, none⟩) 10 10, .slice (some ⟨gr, 0, none⟩) 4 4, .slice none 0 0]), .val (.slice (some ⟨g, 0, none⟩) 2 cap), .val (.int .i64 1), .val (.pointer (some ⟨g, 1, none⟩)), .val (.int .i64 3), .val (.slice (some ⟨g, 0, none⟩) 2 cap), .val (.int .i64 1), .val (.int .i64 0), .val (.pointer (some ⟨g, 0, none⟩)), .val (.int .i64 2), .val (.int .i64 2), .val (.int .i64 2), .val (.int .i64 4), .val (.int .i64 4), .val (.int .i64 4)] rfl (by kernel_rfl) ?howes ?hend
      case howes =>
        refine ⟨?_, ?_, ?_, ?_, ?_, ?_, ?_, ?_, ?_, ?_, ?_, ?_, ?_, ?_, ?_, ?_, ?_, ?_, ?_, ?_, ?_, ?_, ?_, ?_, ?_, ?_, ?_, ?_, trivial⟩
        · refine owes_pv0 (fun E vs a W_ hI hE hp => ?_)
          have e0 : a.eval (.tmp 6) = .int .i64 0 := hI.later (regOk_uniq (by kernel_rfl)) (k := 27) rfl rfl (hI.notYet hE 27 rfl rfl) rfl
          refine ⟨rfl, _, ?_, rfl⟩
          simp only [execOp, e0]
          first
            | rfl
            | (go_simp; done)
            | (go_simp; rfl)
        · refine owes_pv0 (fun E vs a W_ hI hE hp => ?_)
          have e0 := hI.outer (d := 2) (by rfl) rfl
          have q0 := cell_below hI.world.2 HX.out.c0
          have q1 := cell_below hI.world.2 HX.out.c1
          have q2 := cell_below hI.world.2 HX.out.c2
          have q3 := cell_below hI.world.2 HX.out.c3
          refine ⟨rfl, _, ?_, rfl⟩
          simp only [execOp, e0]
          first
            | rfl
            | (go_simp; done)
            | (go_simp; rfl)
        · refine owes_pv0 (fun E vs a W_ hI hE hp => ?_)
          have e0 := hI.outer (d := 5) (by rfl) rfl
          refine ⟨rfl, _, ?_, rfl⟩
          simp only [execOp, e0]
          first
            | rfl
            | (go_simp; done)
            | (go_simp; rfl)
        · refine owes_pv0 (fun E vs a W_ hI hE hp => ?_)
          have e0 := hI.outer (d := 7) (by rfl) rfl
          refine ⟨rfl, _, ?_, rfl⟩
          simp only [execOp, e0]
          first
            | rfl
            | (go_simp; done)
            | (go_simp; rfl)
        · refine owes_pv0 (fun E vs a W_ hI hE hp => ?_)
          have e0 : a.eval (.tmp 21) = .int .i64 1 := hI.pv 3 rfl rfl (pred_of hp 3 rfl) rfl
          refine ⟨rfl, _, ?_, rfl⟩
          simp only [execOp, e0]
          first
            | rfl
            | (go_simp; done)
            | (go_simp; rfl)
        · refine owes_pv0 (fun E vs a W_ hI hE hp => ?_)
          have e0 : a.eval (.tmp 20) = .slice (some ⟨g, 0, none⟩) 2 cap := hI.pv 2 rfl rfl (pred_of hp 2 rfl) rfl
          have e1 : a.eval (.tmp 22) = .int .i64 0 := hI.pv 4 rfl rfl (pred_of hp 4 rfl) rfl
          refine ⟨rfl, _, ?_, rfl⟩
          simp only [execOp, e0, e1]
          first
            | rfl
            | (go_simp; done)
            | (go_simp; rfl)
        · refine owes_pv0 (fun E vs a W_ hI hE hp => ?_)
          have e0 : a.eval (.tmp 23) = .pointer (some ⟨g, 0, none⟩) := hI.pv 5 rfl rfl (pred_of hp 5 rfl) rfl
          have q := cell_below hI.world.2 (HZ.out.2 0 _ rfl).1
          refine ⟨rfl, _, ?_, rfl⟩
          simp only [execOp, e0]
          first
            | rfl
            | (go_simp; done)
            | (go_simp; rfl)
        · refine owes_pv0 (fun E vs a W_ hI hE hp => ?_)
          have e0 := hI.outer (d := 5) (by rfl) rfl
          refine ⟨rfl, _, ?_, rfl⟩
          simp only [execOp, e0]
          first
            | rfl
            | (go_simp; done)
            | (go_simp; rfl)
        · refine owes_pv0 (fun E vs a W_ hI hE hp => ?_)
          have e0 := hI.outer (d := 7) (by rfl) rfl
          refine ⟨rfl, _, ?_, rfl⟩
          simp only [execOp, e0]
          first
            | rfl
            | (go_simp; done)
            | (go_simp; rfl)
        · refine owes_pv0 (fun E vs a W_ hI hE hp => ?_)
          have e0 : a.eval (.tmp 25) = .slice (some ⟨g, 0, none⟩) 2 cap := hI.pv 7 rfl rfl (pred_of hp 7 rfl) rfl
          have e1 : a.eval (.tmp 26) = .int .i64 1 := hI.pv 8 rfl rfl (pred_of hp 8 rfl) rfl
          refine ⟨rfl, _, ?_, rfl⟩
          simp only [execOp, e0, e1]
          first
            | rfl
            | (go_simp; done)
            | (go_simp; rfl)
        · refine owes_pv0 (fun E vs a W_ hI hE hp => ?_)
          have e0 : a.eval (.tmp 27) = .pointer (some ⟨g, 1, none⟩) := hI.pv 9 rfl rfl (pred_of hp 9 rfl) rfl
          have q := cell_below hI.world.2 (HZ.out.2 1 _ rfl).1
          refine ⟨rfl, _, ?_, rfl⟩
          simp only [execOp, e0]
          first
            | rfl
            | (go_simp; done)
            | (go_simp; rfl)
        · refine owes_pvc (fun E vs a W_ hI hE hp => ?_)
          have e0 : a.eval (.tmp 19) = .agg #[.slice (some ⟨gc, 0, none⟩) 2 2, .slice (some ⟨gs, 0, none⟩) 10 10, .slice (some ⟨gr, 0, none⟩) 4 4, .slice none 0 0] := hI.pv 1 rfl rfl (pred_of hp 1 rfl) rfl
          have e1 : a.eval (.tmp 24) = .int .i64 2 := hI.pv 6 rfl rfl (pred_of hp 6 rfl) rfl
          have e2 : a.eval (.tmp 28) = .int .i64 3 := hI.pv 10 rfl rfl (pred_of hp 10 rfl) rfl
          refine ⟨rfl, 21, #[.agg #[.slice (some ⟨gc, 0, none⟩) 2 2, .slice (some ⟨gs, 0, none⟩) 10 10, .slice (some ⟨gr, 0, none⟩) 4 4, .slice none 0 0], .int .i64 2, .int .i64 3], ?_, ?_⟩
          · simp only [execOp, resolve, List.map_toArray, List.map_cons, List.map_nil, e0, e1, e2]
            rfl
          · refine (Travel23.calls gc gs gr W_ (HS.out.here hI.world.2)).mono ?_
            rintro e w' ⟨rfl, hb⟩
            exact ⟨_, rfl, hb, rfl⟩
        · refine owes_pvc (fun E vs a W_ hI hE hp => ?_)
          have e0 : a.eval (.tmp 29) = .int .i64 2 := hI.pv 11 rfl rfl (pred_of hp 11 rfl) rfl
          refine ⟨rfl, 20, #[.int .i64 2, .int .i64 0, .int .i64 1099511627776], ?_, ?_⟩
          · simp only [execOp, resolve, List.map_toArray, List.map_cons, List.map_nil, e0]
            rfl
          · refine (num_Held.calls 2 0 1099511627776 2 W_ (by decide)).mono ?_
            rintro e w' ⟨rfl, hb⟩
            exact ⟨_, rfl, hb, rfl⟩
        · refine owes_pv0 (fun E vs a W_ hI hE hp => ?_)
          have e0 := hI.outer (d := 2) (by rfl) rfl
          have q0 := cell_below hI.world.2 HX.out.c0
          have q1 := cell_below hI.world.2 HX.out.c1
          have q2 := cell_below hI.world.2 HX.out.c2
          have q3 := cell_below hI.world.2 HX.out.c3
          refine ⟨rfl, _, ?_, rfl⟩
          simp only [execOp, e0]
          first
            | rfl
            | (go_simp; done)
            | (go_simp; rfl)
        · refine owes_pv0 (fun E vs a W_ hI hE hp => ?_)
          have e0 := hI.outer (d := 5) (by rfl) rfl
          refine ⟨rfl, _, ?_, rfl⟩
          simp only [execOp, e0]
          first
            | rfl
            | (go_simp; done)
            | (go_simp; rfl)
        · refine owes_pv0 (fun E vs a W_ hI hE hp => ?_)
          have e0 := hI.outer (d := 7) (by rfl) rfl
          refine ⟨rfl, _, ?_, rfl⟩
          simp only [execOp, e0]
          first
            | rfl
            | (go_simp; done)
            | (go_simp; rfl)
        · refine owes_pv0 (fun E vs a W_ hI hE hp => ?_)
          have e0 : a.eval (.tmp 32) = .slice (some ⟨g, 0, none⟩) 2 cap := hI.pv 14 rfl rfl (pred_of hp 14 rfl) rfl
          have e1 : a.eval (.tmp 33) = .int .i64 1 := hI.pv 15 rfl rfl (pred_of hp 15 rfl) rfl
          refine ⟨rfl, _, ?_, rfl⟩
          simp only [execOp, e0, e1]
          first
            | rfl
            | (go_simp; done)
            | (go_simp; rfl)
        · refine owes_pv0 (fun E vs a W_ hI hE hp => ?_)
          have e0 : a.eval (.tmp 34) = .pointer (some ⟨g, 1, none⟩) := hI.pv 16 rfl rfl (pred_of hp 16 rfl) rfl
          have q := cell_below hI.world.2 (HZ.out.2 1 _ rfl).1
          refine ⟨rfl, _, ?_, rfl⟩
          simp only [execOp, e0]
          first
            | rfl
            | (go_simp; done)
            | (go_simp; rfl)
        · refine owes_pv0 (fun E vs a W_ hI hE hp => ?_)
          have e0 := hI.outer (d := 5) (by rfl) rfl
          refine ⟨rfl, _, ?_, rfl⟩
          simp only [execOp, e0]
          first
            | rfl
            | (go_simp; done)
            | (go_simp; rfl)
        · refine owes_pv0 (fun E vs a W_ hI hE hp => ?_)
          have e0 := hI.outer (d := 7) (by rfl) rfl
          refine ⟨rfl, _, ?_, rfl⟩
          simp only [execOp, e0]
          first
            | rfl
            | (go_simp; done)
            | (go_simp; rfl)
        · refine owes_pv0 (fun E vs a W_ hI hE hp => ?_)
          have e0 : a.eval (.tmp 37) = .int .i64 1 := hI.pv 19 rfl rfl (pred_of hp 19 rfl) rfl
          refine ⟨rfl, _, ?_, rfl⟩
          simp only [execOp, e0]
          first
            | rfl
            | (go_simp; done)
            | (go_simp; rfl)
        · refine owes_pv0 (fun E vs a W_ hI hE hp => ?_)
          have e0 : a.eval (.tmp 36) = .slice (some ⟨g, 0, none⟩) 2 cap := hI.pv 18 rfl rfl (pred_of hp 18 rfl) rfl
          have e1 : a.eval (.tmp 38) = .int .i64 0 := hI.pv 20 rfl rfl (pred_of hp 20 rfl) rfl
          refine ⟨rfl, _, ?_, rfl⟩
          simp only [execOp, e0, e1]
          first
            | rfl
            | (go_simp; done)
            | (go_simp; rfl)
        · refine owes_pv0 (fun E vs a W_ hI hE hp => ?_)
          have e0 : a.eval (.tmp 39) = .pointer (some ⟨g, 0, none⟩) := hI.pv 21 rfl rfl (pred_of hp 21 rfl) rfl
          have q := cell_below hI.world.2 (HZ.out.2 0 _ rfl).1
          refine ⟨rfl, _, ?_, rfl⟩
          simp only [execOp, e0]
          first
            | rfl
            | (go_simp; done)
            | (go_simp; rfl)
        · refine owes_pvc (fun E vs a W_ hI hE hp => ?_)
          have e0 : a.eval (.tmp 31) = .agg #[.slice (some ⟨gc, 0, none⟩) 2 2, .slice (some ⟨gs, 0, none⟩) 10 10, .slice (some ⟨gr, 0, none⟩) 4 4, .slice none 0 0] := hI.pv 13 rfl rfl (pred_of hp 13 rfl) rfl
          have e1 : a.eval (.tmp 35) = .int .i64 3 := hI.pv 17 rfl rfl (pred_of hp 17 rfl) rfl
          have e2 : a.eval (.tmp 40) = .int .i64 2 := hI.pv 22 rfl rfl (pred_of hp 22 rfl) rfl
          refine ⟨rfl, 21, #[.agg #[.slice (some ⟨gc, 0, none⟩) 2 2, .slice (some ⟨gs, 0, none⟩) 10 10, .slice (some ⟨gr, 0, none⟩) 4 4, .slice none 0 0], .int .i64 3, .int .i64 2], ?_, ?_⟩
          · simp only [execOp, resolve, List.map_toArray, List.map_cons, List.map_nil, e0, e1, e2]
            rfl
          · refine (Travel32.calls gc gs gr W_ (HS.out.here hI.world.2)).mono ?_
            rintro e w' ⟨rfl, hb⟩
            exact ⟨_, rfl, hb, rfl⟩
        · refine owes_pvc (fun E vs a W_ hI hE hp => ?_)
          have e0 : a.eval (.tmp 41) = .int .i64 2 := hI.pv 23 rfl rfl (pred_of hp 23 rfl) rfl
          refine ⟨rfl, 20, #[.int .i64 2, .int .i64 0, .int .i64 1099511627776], ?_, ?_⟩
          · simp only [execOp, resolve, List.map_toArray, List.map_cons, List.map_nil, e0]
            rfl
          · refine (num_Held.calls 2 0 1099511627776 2 W_ (by decide)).mono ?_
            rintro e w' ⟨rfl, hb⟩
            exact ⟨_, rfl, hb, rfl⟩
        · refine owes_pv0 (fun E vs a W_ hI hE hp => ?_)
          have e0 : a.eval (.tmp 30) = .int .i64 2 := hI.pv 12 rfl rfl (pred_of hp 12 rfl) rfl
          have e1 : a.eval (.tmp 42) = .int .i64 2 := hI.pv 24 rfl rfl (pred_of hp 24 rfl) rfl
          refine ⟨rfl, _, ?_, rfl⟩
          simp only [execOp, e0, e1]
          first
            | rfl
            | (go_simp; done)
            | (go_simp; rfl)
        · refine owes_pv0 (fun E vs a W_ hI hE hp => ?_)
          have e0 : a.eval (.tmp 18) = .int .i64 0 := hI.pv 0 rfl rfl (pred_of hp 0 rfl) rfl
          have e1 : a.eval (.tmp 43) = .int .i64 4 := hI.pv 25 rfl rfl (pred_of hp 25 rfl) rfl
          refine ⟨rfl, _, ?_, rfl⟩
          simp only [execOp, e0, e1]
          first
            | rfl
            | (go_simp; done)
            | (go_simp; rfl)
        · refine owes_pv0 (fun E vs a W_ hI hE hp => ?_)
          have e0 : a.eval (.tmp 44) = .int .i64 4 := hI.pv 26 rfl rfl (pred_of hp 26 rfl) rfl
          refine ⟨rfl, _, ?_, rfl⟩
          simp only [execOp, e0]
          first
            | rfl
            | (go_simp; done)
            | (go_simp; rfl)
      case hend =>
        intro E vs a w5 hI hall
        have h6 : a.eval (.tmp 6) = .int .i64 4 := hI.pv 27 rfl rfl (hall 27 (by decide)) rfl
        obtain rfl := hI.frame (by kernel_rfl) hall
        have hb := hI.world.2
        have HBn := Aside0.mk (HBr.out.trans (hb.mono HBr.out.size))
        clear hI hall hb
        simp only [putsFrom, List.setIfInBounds_toArray, List.set_cons_zero, List.set_cons_succ] at h6 ⊢
        have e6 : vs 27 = .int .i64 4 := h6
        rw [e6]
        clear h6 e6
        go_wp2
        go_roundg 0
        case measure => omega
        case rel => exact ⟨.inr ⟨rfl, rfl⟩, HBn⟩
    · go_wp2
      go_ret
      exact ⟨rfl, HB0.out.trans ((B2.out.trans (HBr.out.mono B2.out.size)).mono HB0.out.size)⟩
theorem swept3 : swept 0 0 sA sB 3 = #[1, 2, 0] := by
  unfold swept Sort.insertionSort
  decide +kernel
theorem swept4 : swept 0 0 sA sB 4 = #[1, 3, 2, 0] := by
  unfold swept Sort.insertionSort
  decide +kernel
theorem order3 : oL (swept 0 0 sA sB 3) 3 = [2, 3, 1] := by rw [swept3]; decide +kernel
theorem order4 : oL (swept 0 0 sA sB 4) 4 = [2, 4, 3, 1] := by rw [swept4]; decide +kernel
theorem parts3 : sweep_Parts.f 50 [2, 3, 1] 2 = some [[2, 3], [1]] := by decide +kernel
theorem parts5 : sweep_Parts.f 50 [1, 2, 3, 4, 5] 2 = some [[1, 2, 3], [4, 5]] := by decide +kernel
theorem same4 : jitneyref01_SameInts.f 50 [2, 4, 3, 1] [2, 4, 3, 1] = some true := by decide +kernel
theorem rows5 : jitneyref01_SameRows.f 50 [[1, 2, 3], [4, 5]] [[1, 2, 3], [4, 5]] = some true := by decide +kernel
theorem rows3 : jitneyref01_SameRows.f 50 [[2, 3], [1]] [[2, 3], [1]] = some true := by decide +kernel
theorem sweep_Clusters.calls (gc gs gr : Nat) (A : Option Addr) (c : Nat) (w : World) (hS : Samp w gs) (hC : Kd.C (Kd.int .i64) w A 3 [1, 2, 3]) (hc : 3 ≤ c) : Calls Try.prog 11 #[.agg #[.slice (some ⟨gc, 0, none⟩) 2 2, .slice (some ⟨gs, 0, none⟩) 10 10, .slice (some ⟨gr, 0, none⟩) 4 4, .slice none 0 0], .slice A 3 c] w fun e w' => ∃ A' c', e = .returned (.slice A' 2 c') ∧ 2 ≤ c' ∧ Kd.C (Kd.slice 3 (Kd.int .i64)) w' A' 2 [[2, 3], [1]] ∧ Below w.heap.size w w' := by
  have HX := Aside0.mk (box_new gc gs gr w)
  have HB0 := Aside0.mk (below_alloc (Below.refl w.heap.size w) (.cells #[.slice (some ⟨gc, 0, none⟩) 2 2, .slice (some ⟨gs, 0, none⟩) 10 10, .slice (some ⟨gr, 0, none⟩) 4 4, .slice none 0 0] 34))
  have HS := Aside0.mk (hS.here HB0.out)
  have HC := Aside0.mk (Kd.C_below hC HB0.out)
  have HCc := Aside0.mk hc
  clear hS hC hc
  go_enter Try.func11, Try.ntmps11
  go_wp2
  refine wp_region_pv [.val (.agg #[.slice (some ⟨gc, 0, none⟩) 2 2, .slice (some ⟨gs, 0, none⟩) 10 10, .slice (some ⟨gr, 0, none⟩) 4 4, .slice none 0 0]), .val (.slice A 3 c), pvC (Kd.int .i64) [2, 3, 1], .val (.pointer (some ⟨w.heap.size, 0, none⟩)), .val (.slice (some ⟨gc, 0, none⟩) 2 2), .val (.int .i64 2), pvC (Kd.slice 3 (Kd.int .i64)) [[2, 3], [1]], pvC (Kd.slice 3 (Kd.int .i64)) [[2, 3], [1]]] rfl (by kernel_rfl) ?howes ?hend
  case howes =>
    refine ⟨?_, ?_, ?_, ?_, ?_, ?_, ?_, ?_, trivial⟩
    · refine owes_pv0 (fun E vs a W_ hI hE hp => ?_)
      have e0 := hI.outer (d := 2) (by rfl) rfl
      have q0 := cell_below hI.world.2 HX.out.c0
      have q1 := cell_below hI.world.2 HX.out.c1
      have q2 := cell_below hI.world.2 HX.out.c2
      have q3 := cell_below hI.world.2 HX.out.c3
      refine ⟨rfl, _, ?_, rfl⟩
      simp only [execOp, e0]
      first
        | rfl
        | (go_simp; done)
        | (go_simp; rfl)
    · refine owes_pv0 (fun E vs a W_ hI hE hp => ?_)
      have e0 := hI.outer (d := 1) (by rfl) rfl
      refine ⟨rfl, _, ?_, rfl⟩
      simp only [execOp, e0]
      first
        | rfl
        | (go_simp; done)
        | (go_simp; rfl)
    · refine owes_pvc (fun E vs a W_ hI hE hp => ?_)
      have e0 : a.eval (.tmp 5) = .agg #[.slice (some ⟨gc, 0, none⟩) 2 2, .slice (some ⟨gs, 0, none⟩) 10 10, .slice (some ⟨gr, 0, none⟩) 4 4, .slice none 0 0] := hI.pv 0 rfl rfl (pred_of hp 0 rfl) rfl
      have e1 : a.eval (.tmp 6) = .slice A 3 c := hI.pv 1 rfl rfl (pred_of hp 1 rfl) rfl
      refine ⟨rfl, 10, #[.agg #[.slice (some ⟨gc, 0, none⟩) 2 2, .slice (some ⟨gs, 0, none⟩) 10 10, .slice (some ⟨gr, 0, none⟩) 4 4, .slice none 0 0], .slice A 3 c], ?_, ?_⟩
      · simp only [execOp, resolve, List.map_toArray, List.map_cons, List.map_nil, e0, e1]
        rfl
      · refine (sweep_Order.calls gc gs gr 3 3 A c W_ (HS.out.here hI.world.2) (by decide) (fun W_' hb' => sweep_some.three gc gs gr A c W_' (Kd.C_below (Kd.C_below HC.out hI.world.2) hb') HCc.out)).mono ?_
        rintro e w' ⟨v, rfl, hR, hb⟩
        rw [order3] at hR
        obtain ⟨A', c', rfl, hc', hC'⟩ := Kd.R_reads hR
        exact ⟨_, rfl, hb, A', c', rfl, hc', hC'⟩
    · refine owes_pv0 (fun E vs a W_ hI hE hp => ?_)
      have e0 := hI.outer (d := 2) (by rfl) rfl
      refine ⟨rfl, _, ?_, rfl⟩
      simp only [execOp, e0]
      first
        | rfl
        | (go_simp; done)
        | (go_simp; rfl)
    · refine owes_pv0 (fun E vs a W_ hI hE hp => ?_)
      have e0 : a.eval (.tmp 8) = .pointer (some ⟨w.heap.size, 0, none⟩) := hI.pv 3 rfl rfl (pred_of hp 3 rfl) rfl
      have q0 := cell_below hI.world.2 HX.out.c0
      refine ⟨rfl, _, ?_, rfl⟩
      simp only [execOp, e0]
      first
        | rfl
        | (go_simp; done)
        | (go_simp; rfl)
    · refine owes_pv0 (fun E vs a W_ hI hE hp => ?_)
      have e0 : a.eval (.tmp 9) = .slice (some ⟨gc, 0, none⟩) 2 2 := hI.pv 4 rfl rfl (pred_of hp 4 rfl) rfl
      refine ⟨rfl, _, ?_, rfl⟩
      simp only [execOp, resolve, List.map_toArray, List.map_cons, List.map_nil, e0]
      first
        | rfl
        | (go_simp; done)
        | (go_simp; rfl)
    · refine owes_pvc (fun E vs a W_ hI hE hp => ?_)
      obtain ⟨A0, c0, e0, hc0, hC0⟩ := hI.pv 2 rfl rfl (pred_of hp 2 rfl) rfl
      have e1 : a.eval (.tmp 10) = .int .i64 2 := hI.pv 5 rfl rfl (pred_of hp 5 rfl) rfl
      refine ⟨rfl, 5, #[.slice A0 ([2, 3, 1] : List Int).length c0, .int .i64 2], ?_, ?_⟩
      · simp only [execOp, resolve, List.map_toArray, List.map_cons, List.map_nil, e0, e1]
        rfl
      · refine (sweep_Parts.calls 50 A0 c0 [2, 3, 1] 2 [[2, 3], [1]] W_ hC0 hc0 parts3).mono ?_
        rintro e w' ⟨v, rfl, hR, hb⟩
        obtain ⟨A', c', rfl, hc', hC'⟩ := Kd.S_reads hR
        exact ⟨_, rfl, hb, A', c', rfl, hc', hC'⟩
    · refine owes_pv0 (fun E vs a W_ hI hE hp => ?_)
      obtain ⟨A0, c0, e0, hc0, hC0⟩ := hI.pv 6 rfl rfl (pred_of hp 6 rfl) rfl
      refine ⟨rfl, _, ?_, A0, c0, rfl, hc0, hC0⟩
      simp only [execOp, e0]
      rfl
  case hend =>
    intro E vs a w3 hI hall
    obtain ⟨A', c', h4, hc', hC'⟩ := hI.pv 7 rfl rfl (hall 7 (by decide)) rfl
    obtain rfl := hI.frame (by kernel_rfl) hall
    have hb := hI.world.2
    clear hI hall
    simp only [putsFrom, List.setIfInBounds_toArray, List.set_cons_zero, List.set_cons_succ] at h4 ⊢
    have e4 : vs 7 = .slice A' 2 c' := h4
    rw [e4]
    go_wp2
    go_ret
    exact ⟨A', c', rfl, hc', hC', HB0.out.trans (hb.mono HB0.out.size)⟩
end Go.Proofs.Ytlpjankfedhhjaa.P
