/- The document's example of layer 17 holds (seat 17). -/
import Derived.Test.YtlpjankfedhhjaaAliveA
namespace Go.Proofs.Ytlpjankfedhhjaa.P
open Go.Proofs.YtlpjankfedhhjaaR
open Go.Shelf Go.Sort
open Go.RowKit Go.Proofs.YtlpjankfedhhjaaW.PrintWords Go.Proofs.YtlpjankfedhhjaaW.PrintLast Go.Proofs.YtlpjankfedhhjaaW.PrintMore
set_option linter.unusedVariables false
set_option linter.unusedSimpArgs false
set_option maxHeartbeats 8000000
set_option maxRecDepth 100000
theorem rowL6 (w : World) (X : Obj) : Kd.C (Kd.int .i64) ((w.alloc X).alloc (.cells #[.int .i64 1, .int .i64 2, .int .i64 3, .int .i64 4, .int .i64 4, .int .i64 9] 3 (0, 0))) (some ⟨w.heap.size + 1, 0, none⟩) 6 [1, 2, 3, 4, 4, 9] := by
  have h := row_new (w.alloc X) 0 3 [1, 2, 3, 4, 4, 9] (by decide)
  have e : (w.alloc X).heap.size = w.heap.size + 1 := by simp
  rw [e] at h
  exact h
theorem rowL5 (w : World) : Kd.C (Kd.int .i64) (w.alloc (.cells #[.int .i64 1, .int .i64 2, .int .i64 3, .int .i64 4, .int .i64 5] 3 (0, 0))) (some ⟨w.heap.size, 0, none⟩) 5 [1, 2, 3, 4, 5] := row_new w 0 3 [1, 2, 3, 4, 5] (by decide)
theorem rowL4 (w : World) : Kd.C (Kd.int .i64) (w.alloc (.cells #[.int .i64 2, .int .i64 4, .int .i64 3, .int .i64 1] 3 (0, 0))) (some ⟨w.heap.size, 0, none⟩) 4 [2, 4, 3, 1] := row_new w 0 3 [2, 4, 3, 1] (by decide)
theorem rowL3 (w : World) (a b c : Int) : Kd.C (Kd.int .i64) (w.alloc (.cells #[.int .i64 a, .int .i64 b, .int .i64 c] 3 (0, 0))) (some ⟨w.heap.size, 0, none⟩) 3 [a, b, c] := row_new w 0 3 [a, b, c] (by simp)
theorem rowL2 (w : World) (a b : Int) : Kd.C (Kd.int .i64) (w.alloc (.cells #[.int .i64 a, .int .i64 b] 3 (0, 0))) (some ⟨w.heap.size, 0, none⟩) 2 [a, b] := row_new w 0 3 [a, b] (by simp)
theorem rowL1 (w : World) (a : Int) : Kd.C (Kd.int .i64) (w.alloc (.cells #[.int .i64 a] 3 (0, 0))) (some ⟨w.heap.size, 0, none⟩) 1 [a] := row_new w 0 3 [a] (by simp)
theorem rows2 {w : World} {g n1 n2 c1 c2 : Nat} {A1 A2 : Option Addr} {l1 l2 : List Int} (h : RowAt w g [.slice A1 n1 c1, .slice A2 n2 c2]) (e1 : n1 = l1.length) (e2 : n2 = l2.length) (hc1 : n1 ≤ c1) (hc2 : n2 ≤ c2) (h1 : Kd.C (Kd.int .i64) w A1 n1 l1) (h2 : Kd.C (Kd.int .i64) w A2 n2 l2) :
    Kd.C (Kd.slice 3 (Kd.int .i64)) w (some ⟨g, 0, none⟩) 2 [l1, l2] := by
  subst e1 e2
  refine ⟨rfl, by decide, fun _ => ⟨_, rfl, fun j p hj => ?_⟩⟩
  match j, hj with
  | 0, hj =>
    cases hj
    exact ⟨[.slice A1 l1.length c1], rfl, ⟨A1, c1, rfl, hc1, h1⟩, fun i u hi => by
      match i, hi with
      | 0, hi => cases hi; exact h 0 _ rfl
      | i + 1, hi => cases hi⟩
  | 1, hj =>
    cases hj
    exact ⟨[.slice A2 l2.length c2], rfl, ⟨A2, c2, rfl, hc2, h2⟩, fun i u hi => by
      match i, hi with
      | 0, hi => cases hi; exact h 1 _ rfl
      | i + 1, hi => cases hi⟩
  | j + 2, hj => cases hj
/-- two new rows, and the row of both -/
theorem rowsNew (w : World) (X Y : Obj) (n1 n2 : Nat) (l1 l2 : List Int) (e1 : n1 = l1.length) (e2 : n2 = l2.length) (h1 : ∀ w : World, Kd.C (Kd.int .i64) (w.alloc X) (some ⟨w.heap.size, 0, none⟩) n1 l1) (h2 : ∀ w : World, Kd.C (Kd.int .i64) (w.alloc Y) (some ⟨w.heap.size, 0, none⟩) n2 l2) :
    Kd.C (Kd.slice 3 (Kd.int .i64)) (((w.alloc X).alloc Y).alloc (.cells #[.slice (some ⟨w.heap.size, 0, none⟩) n1 n1, .slice (some ⟨w.heap.size + 1, 0, none⟩) n2 n2] 22 (0, 0))) (some ⟨w.heap.size + 1 + 1, 0, none⟩) 2 [l1, l2] := by
  have s1 : (w.alloc X).heap.size = w.heap.size + 1 := by simp
  have s2 : ((w.alloc X).alloc Y).heap.size = w.heap.size + 1 + 1 := by simp
  have r := rowAt_new ((w.alloc X).alloc Y) #[.slice (some ⟨w.heap.size, 0, none⟩) n1 n1, .slice (some ⟨w.heap.size + 1, 0, none⟩) n2 n2] 22
  rw [s2] at r
  have k2 := h2 (w.alloc X)
  rw [s1] at k2
  exact rows2 r e1 e2 (Nat.le_refl _) (Nat.le_refl _) (Kd.C_alloc (Kd.C_alloc (h1 w) _) _) (Kd.C_alloc k2 _)
theorem jitneylaw17_alive.runs (w : World) : Calls Try.prog 4 #[] w fun e w' => e = .returned (.bool true) ∧ Below w.heap.size w w' := by
  go_enter Try.func4, Try.ntmps4
  go_wp2_with (first
    | (go_at_call 9; refine (sample.calls _).mono ?_; rintro e w1 ⟨gc, gs, gr, rfl, hS, hb⟩; have S1 := Aside0.mk hS; have B1 := Aside0.mk hb; clear hS hb)
    | (go_at_call 10; go_loud (have hX := box_new gc gs gr w1; have hBa := below_alloc (below_alloc (Below.refl w1.heap.size w1) (.cells #[.slice (some ⟨gc, 0, none⟩) 2 2, .slice (some ⟨gs, 0, none⟩) 10 10, .slice (some ⟨gr, 0, none⟩) 4 4, .slice none 0 0] 34)) (.cells #[.int .i64 1, .int .i64 2, .int .i64 3, .int .i64 4, .int .i64 4, .int .i64 9] 3); have hS2 := S1.out.here hBa; have hX2 := hX.here (below_alloc (Below.refl (w1.alloc (.cells #[.slice (some ⟨gc, 0, none⟩) 2 2, .slice (some ⟨gs, 0, none⟩) 10 10, .slice (some ⟨gr, 0, none⟩) 4 4, .slice none 0 0] 34)).heap.size (w1.alloc (.cells #[.slice (some ⟨gc, 0, none⟩) 2 2, .slice (some ⟨gs, 0, none⟩) 10 10, .slice (some ⟨gr, 0, none⟩) 4 4, .slice none 0 0] 34))) (.cells #[.int .i64 1, .int .i64 2, .int .i64 3, .int .i64 4, .int .i64 4, .int .i64 9] 3)); refine (sweep_Order.calls gc gs gr 4 6 _ 6 _ hS2 (by decide) (fun W hb => sweep_some.six gc gs gr _ 6 W (Kd.C_below (rowL6 w1 _) hb) (Nat.le_refl 6))).mono ?_; rintro e w2 ⟨v, rfl, hR, hb⟩; rw [order4] at hR; obtain ⟨A2, c2, rfl, hc2, hC2⟩ := Kd.R_reads hR; have S2 := Aside0.mk (hS2.here hb); have X2 := Aside0.mk (hX2.here hb); have B2 := Aside0.mk (B1.out.trans ((hBa.trans (hb.mono hBa.size)).mono B1.out.size)); have C2 := Aside0.mk hC2; have D2 := Aside0.mk hc2; clear hX hBa hS2 hX2 hR hb hC2 hc2))
    | (go_at_call 6; go_loud (refine (jitneyref01_SameInts.calls 50 A2 c2 [2, 4, 3, 1] _ 4 [2, 4, 3, 1] true _ (Kd.C_alloc C2.out _) D2.out (rowL4 w2) (Nat.le_refl 4) same4).mono ?_; rintro e w3 ⟨rfl, hd⟩; have hb : Below w2.heap.size w2 w3 := (by obtain ⟨n, rfl⟩ := hd; exact pw_below_drewN (below_alloc (Below.refl _ _) _) n); have S3 := Aside0.mk (S2.out.here hb); have X3 := Aside0.mk (X2.out.here hb); have B3 := Aside0.mk (B2.out.trans (hb.mono B2.out.size)); clear hd hb))
    | (go_at_call 5; go_loud (refine (sweep_Parts.calls 50 _ 5 [1, 2, 3, 4, 5] 2 [[1, 2, 3], [4, 5]] _ (rowL5 w3) (Nat.le_refl 5) parts5).mono ?_; rintro e w4 ⟨v, rfl, hR, hb'⟩; obtain ⟨A4, c4, rfl, hc4, hC4⟩ := Kd.S_reads hR; have hb : Below w3.heap.size w3 w4 := (below_alloc (Below.refl _ _) _).trans (hb'.mono (by simp)); have S4 := Aside0.mk (S3.out.here hb); have X4 := Aside0.mk (X3.out.here hb); have B4 := Aside0.mk (B3.out.trans (hb.mono B3.out.size)); have C4 := Aside0.mk hC4; have D4 := Aside0.mk hc4; clear hb hb' hR hC4 hc4))
    | (go_at_call 7; (refine (jitneyref01_SameRows.calls 50 A6 c6 [[2, 3], [1]] _ 2 [[2, 3], [1]] true _ (Kd.C_alloc (Kd.C_alloc (Kd.C_alloc C6.out _) _) _) D6.out (rowsNew w6 _ _ 2 1 _ _ rfl rfl (fun w => rowL2 w 2 3) (fun w => rowL1 w 1)) (Nat.le_refl 2) rows3).mono ?_; rintro e w7 ⟨rfl, hd⟩; have hb : Below w6.heap.size w6 w7 := (by obtain ⟨n, rfl⟩ := hd; exact pw_below_drewN (below_alloc (below_alloc (below_alloc (Below.refl _ _) _) _) _) n); have S7 := Aside0.mk (S6.out.here hb); have X7 := Aside0.mk (X6.out.here hb); have B7 := Aside0.mk (B6.out.trans (hb.mono B6.out.size)); have y0 := X7.out.c0; have y1 := X7.out.c1; have y2 := X7.out.c2; have y3 := X7.out.c3; clear hd hb))
    | (go_at_call 7; refine (jitneyref01_SameRows.calls 50 A4 c4 [[1, 2, 3], [4, 5]] _ 2 [[1, 2, 3], [4, 5]] true _ (Kd.C_alloc (Kd.C_alloc (Kd.C_alloc C4.out _) _) _) D4.out (rowsNew w4 _ _ 3 2 _ _ rfl rfl (fun w => rowL3 w 1 2 3) (fun w => rowL2 w 4 5)) (Nat.le_refl 2) rows5).mono ?_; rintro e w5 ⟨rfl, hd⟩; have hb : Below w4.heap.size w4 w5 := (by obtain ⟨n, rfl⟩ := hd; exact pw_below_drewN (below_alloc (below_alloc (below_alloc (Below.refl _ _) _) _) _) n); have S5 := Aside0.mk (S4.out.here hb); have X5 := Aside0.mk (X4.out.here hb); have B5 := Aside0.mk (B4.out.trans (hb.mono B4.out.size)); have x0 := X5.out.c0; have x1 := X5.out.c1; have x2 := X5.out.c2; have x3 := X5.out.c3; clear hd hb)
    | (go_at_call 11; go_loud (refine (sweep_Clusters.calls gc gs gr _ 3 _ (S5.out.here (below_alloc (Below.refl _ _) _)) (rowL3 w5 1 2 3) (Nat.le_refl 3)).mono ?_; rintro e w6 ⟨A6, c6, rfl, hc6, hC6, hb'⟩; have hb : Below w5.heap.size w5 w6 := (below_alloc (Below.refl _ _) _).trans (hb'.mono (by simp)); have S6 := Aside0.mk (S5.out.here hb); have X6 := Aside0.mk (X5.out.here hb); have B6 := Aside0.mk (B5.out.trans (hb.mono B5.out.size)); have C6 := Aside0.mk hC6; have D6 := Aside0.mk hc6; clear hb hb' hC6 hc6 x0 x1 x2 x3))
    | (go_at_call 12; go_loud (refine (sweep_Spread.calls gc gs gr _ 3 _ (S7.out.here (below_alloc (Below.refl _ _) _)) (rowL3 w7 2 3 9) (Nat.le_refl 3)).mono ?_; rintro e w8 ⟨rfl, hb'⟩; have hb : Below w7.heap.size w7 w8 := (below_alloc (Below.refl _ _) _).trans (hb'.mono (by simp)); have B8 := Aside0.mk (B7.out.trans (hb.mono B7.out.size)); clear hb hb' y0 y1 y2 y3)))
  go_ret
  exact ⟨rfl, B8.out⟩
end Go.Proofs.Ytlpjankfedhhjaa.P
