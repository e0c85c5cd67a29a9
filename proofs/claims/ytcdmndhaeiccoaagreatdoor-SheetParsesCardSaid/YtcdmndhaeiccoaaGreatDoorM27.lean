/- The document's line, times:ok. -/
import Derived.Test.YtcdmndhaeiccoaaGreatDoorMkit
import Derived.Test.YtcdmndhaeiccoaaGreatDoorM21
namespace Go.Proofs.YtcdmndhaeiccoaaGreatDoor.P
open Go Go.Proofs.YtcdmndhaeiccoaaGreatDoorR
open Go.RowKit Go.Proofs.YtcdmndhaeiccoaaGreatDoorW.PrintWords Go.Proofs.YtcdmndhaeiccoaaGreatDoorW.PrintLast
set_option linter.unusedVariables false
set_option linter.unusedSimpArgs false
set_option maxHeartbeats 8000000
set_option maxRecDepth 100000
attribute [local go_sem] run_store_complex
theorem line_times_ok (t : ByteArray) (i c n : Nat) (sc : Int) (A0 A1 A2 A3 : Option Addr) (n0 n1 n2 n3 c0 c1 c2 c3 : Nat) (x : InstP) (a0 a1 a2 a3 a4 : Int) (base : Nat) (w : World) (hi : ¬ i < 1 + c) (hj : i < 1 + c + 2 * n + 2) (hc : c ≤ 64) (hn : 2 * n + 2 ≤ 4096) (hb : base ≤ w.heap.size) (hX : InstAt w base (.slice A0 n0 c0) (.slice A1 n1 c1) (.slice A2 n2 c2) (.slice A3 n3 c3) x) (h3 : x.rows ≠ [] ∨ Value.slice A3 n3 c3 = .slice none 0 0) (hl : x.stops.length ≤ 20000) (C : Ok42 t bStop 6 [1000, 1000] [a0, a1, a2, a3, a4] sc) :
    Calls Tryz.prog 15 #[iv A0 n0 c0 A1 n1 c1 A2 n2 c2 A3 n3 c3, .string t, .int .i64 i, .int .i64 c, .int .i64 n, .int .i64 sc, .bool false] w (AnsL w base (.ok { x with stops := x.stops ++ [(⟨⟨a0, a1⟩, a2, a3, a4, (0, 0)⟩ : S63)] })) := by
  have C1 := Aside0.mk C
  have d1 : decide ((i : Int) < 1 + (c : Int)) = false := decide_eq_false (by omega)
  have d2 : decide (i < 1 + c) = false := decide_eq_false (by omega)
  have d3 : decide ((i : Int) < 1 + (c : Int) + 2 * (n : Int) + 2) = true := decide_eq_true (by omega)
  have d4 : decide (i < 1 + c + 2 * n + 2) = true := decide_eq_true hj
  have HX := Aside0.mk hX
  have H33 := Aside0.mk h3
  clear h3
  have HL := Aside0.mk hl
  have HD := Aside0.mk (show (x.stops ++ [(⟨⟨a0, a1⟩, a2, a3, a4, (0, 0)⟩ : S63)]).length = x.stops.length + 1 by simp)
  have hu28 := Tryz.underlying28
  clear C hX hl
  go_enter Tryz.func15, Tryz.ntmps15
  go_wp2_with (first
    | (go_at_call 40; refine (C1.out _).mono ?_; rintro r w1 ⟨A, m, q, rfl, hb1, hI⟩; obtain ⟨h0, h1, h3, hB⟩ := box4 hb1; have HB := Aside0.mk hB; have H1 := Aside0.mk h1; have H0 := Aside0.mk h0; have H3 := Aside0.mk (ints_C (ns := [1000, 1000]) h3 (by decide)); have HI := Aside0.mk hI; clear hb1 hB h1 h0 h3 hI)
    | (go_at_call 42; refine (HI.out _ _ (Below.refl _ _) H3.out).mono ?_; rintro r w2 ⟨v, rfl, hR2, hb2⟩; obtain ⟨g, qq, rfl, hqq, hg, hA⟩ := ints_of_R hR2; have HQ := Aside0.mk hqq; clear hqq; have B2 := Aside0.mk (HB.out.trans (hb2.mono HB.out.size)); have G0 := Aside0.mk ((hb2.block _ (Array.getElem?_eq_some_iff.1 H0.out).1).trans H0.out); have G1 := Aside0.mk ((hb2.block _ (Array.getElem?_eq_some_iff.1 H1.out).1).trans H1.out); have NS := Aside0.mk hA; have GN := Aside0.mk (Nat.lt_of_lt_of_le (Array.getElem?_eq_some_iff.1 H0.out).1 hg); have G2 := Aside0.mk (Nat.lt_of_lt_of_le (Array.getElem?_eq_some_iff.1 H1.out).1 hg); have NG := Aside0.mk (row_apart HX.out.stops (g := g) (Nat.le_trans HB.out.size hg)); clear hb2 hR2 hA hg))
  have I2 := Aside0.mk (instAt_below HX.out B2.out)
  have SZ := Aside0.mk (Nat.le_trans hb B2.out.size)
  have BD := Aside0.mk B2.out
  have HBB := Aside0.mk hb
  obtain ⟨W, hW⟩ : ∃ W, W = w2.alloc (.cells #[.int .i64 0, .int .i64 0, .int .i64 0, .int .i64 0, .int .i64 0, .complex .f64 0 0] 63 (0, 0)) := ⟨_, rfl⟩
  rw [← hW]
  have BW := Aside0.mk (show Below w2.heap.size w2 W by rw [hW]; exact below_alloc (Below.refl _ _) _)
  have PW := Aside0.mk (show W.heap[w2.heap.size]? = some (.cells #[.int .i64 0, .int .i64 0, .int .i64 0, .int .i64 0, .int .i64 0, .complex .f64 0 0] 63 (0, 0)) by rw [hW]; exact heap_alloc_new w2 _)
  have NW := Aside0.mk (NS.out.below BW.out)
  clear hW hn hc hi hj hb d1 d2 d3 d4
  have m1 : ¬ w2.heap.size = g := by obtain ⟨_, hh⟩ := NS.out.typed; have := (Array.getElem?_eq_some_iff.1 hh).1; omega
  have m2 : ¬ g = w2.heap.size := fun h => m1 h.symm
  obtain ⟨⟨y0, y1, y2, y3, y4, y5⟩, f0, f1, f2, f3, f4, f5⟩ := six_of PW.out
  have k0 := NW.out.at' 0 a0 rfl
  have k1 := NW.out.at' 1 a1 rfl
  have k2 := NW.out.at' 2 a2 rfl
  have k3 := NW.out.at' 3 a3 rfl
  have k4 := NW.out.at' 4 a4 rfl
  go_region_held2 (fun w' => w'.cell? ⟨g, 0, none⟩ = some (.int .i64 a0) ∧ w'.cell? ⟨g, 1, none⟩ = some (.int .i64 a1) ∧ w'.cell? ⟨g, 2, none⟩ = some (.int .i64 a2) ∧ w'.cell? ⟨g, 3, none⟩ = some (.int .i64 a3) ∧ w'.cell? ⟨g, 4, none⟩ = some (.int .i64 a4)) (go_keep) (fail)
  go_upto_region 27 with fail
  obtain ⟨W6, hW6⟩ : ∃ W6, W6 = (((((W.setCell ⟨w2.heap.size, 0, none⟩ (.int .i64 a0)).setCell ⟨w2.heap.size, 1, none⟩ (.int .i64 a1)).setCell ⟨w2.heap.size, 2, none⟩ (.int .i64 a2)).setCell ⟨w2.heap.size, 3, none⟩ (.int .i64 a3)).setCell ⟨w2.heap.size, 4, none⟩ (.int .i64 a4)).drew := ⟨_, rfl⟩
  rw [← hW6]
  have B6 := Aside0.mk (show Below w2.heap.size w2 W6 by rw [hW6]; exact below_drew1 (((((BW.out.setCell (Nat.le_refl _) _).setCell (Nat.le_refl _) _).setCell (Nat.le_refl _) _).setCell (Nat.le_refl _) _).setCell (Nat.le_refl _) _))
  have P6 := Aside0.mk (show W6.heap[w2.heap.size]? = some (.cells #[.int .i64 a0, .int .i64 a1, .int .i64 a2, .int .i64 a3, .int .i64 a4, (.complex .f64 0 0)] 63 (0, 0)) by rw [hW6]; exact blk_set (blk_set (blk_set (blk_set (blk_set PW.out 0 _) 1 _) 2 _) 3 _) 4 _)
  clear hW6 y0 y1 y2 y3 y4 y5 f0 f1 f2 f3 f4 f5 m1 m2 k0 k1 k2 k3 k4
  obtain ⟨⟨y0, y1, y2, y3, y4, y5⟩, f0, f1, f2, f3, f4, f5⟩ := six_of P6.out
  have E0 := Aside0.mk ((B6.out.block _ (Array.getElem?_eq_some_iff.1 G0.out).1).trans G0.out)
  have E1 := Aside0.mk ((B6.out.block _ (Array.getElem?_eq_some_iff.1 G1.out).1).trans G1.out)
  have b1 := (four_of E0.out).1.2.1
  have I6 := Aside0.mk (instAt_below I2.out B6.out)
  have BD6 := Aside0.mk (show Below w.heap.size w W6 from BD.out.trans (B6.out.mono BD.out.size))
  have SZ6 := Aside0.mk (Nat.le_trans SZ.out B6.out.size)
  go_wp2_with (first | ((with_reducible refine gate_builtin (b := .append) (xs := #[.tmp 138, .tmp 140]) rfl ?_); at_builtin; refine Kd.R_append k63 (w0 := W6) base rfl (.tmp 138) (.tmp 140) 24 63 (.agg #[.int .i64 0, .int .i64 0, .int .i64 0, .int .i64 0, .int .i64 0, .complex .f64 0 0]) 56 rfl Tryz.underlying24 info63 rfl (by decide) (by decide) _ x.stops (⟨⟨a0, a1⟩, a2, a3, a4, (0, 0)⟩ : S63) [.int .i64 a0, .int .i64 a1, .int .i64 a2, .int .i64 a3, .int .i64 a4, (.complex .f64 0 0)] (fun _ => True) (fun _ => False) rfl rfl (k63_mkM _ _ _ (⟨⟨a0, a1⟩, a2, a3, a4, (0, 0)⟩ : S63)) (fun _ h => h.elim) (fun _ _ => trivial) I6.out.stops (Below.refl _ _) SZ6.out (by have := HL.out; omega) ?_; intro v1 w5 ho hb hg _; obtain ⟨B1, z1, hv⟩ := Kd.R_slice ho; rw [HD.out] at hv; subst hv; have I := I6.out; have S5 := Aside0.mk (line_grow (W := W6) (w := w) E0.out E1.out HBB.out BD6.out hb hg (row_not28 I.stops (by decide))); have J5 := Aside0.mk (show InstAt w5 base (.slice A0 n0 c0) (.slice B1 (x.stops.length + 1) z1) (.slice A2 n2 c2) (.slice A3 n3 c3) { x with stops := x.stops ++ [(⟨⟨a0, a1⟩, a2, a3, a4, (0, 0)⟩ : S63)] } from ⟨row_else I.stops I.cars hg (by decide), ho, row_else I.stops I.rides hg (by decide), row_else I.stops I.rows hg (by decide)⟩); clear ho hb hg I; clear y0 y1 y2 y3 y4 y5 f0 f1 f2 f3 f4 f5 b1; obtain ⟨⟨y0, y1, y2, y3⟩, f0, f1, f2, f3⟩ := four_of S5.out.box; obtain ⟨⟨u0, u1, u2, u3⟩, g0, g1, g2, g3⟩ := four_of S5.out.res))
  refine bodyPost_ret (results15_of (v0 := .slice A0 n0 c0) (v1 := .slice B1 (x.stops.length + 1) z1) (v2 := .slice A2 n2 c2) (v3 := .slice A3 n3 c3) rfl rfl (blk_set (blk_set (blk_set (blk_set (far_set S5.out.res (by omega)) 0 _) 1 _) 2 _) 3 _)) rfl ?_
  exact ansL_ok S5.out J5.out HBB.out H33.out
end Go.Proofs.YtcdmndhaeiccoaaGreatDoor.P
