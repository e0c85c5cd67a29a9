/- The document's line, car, ride. -/
import Derived.Test.YtcdmndhaeiccoaaGreatDoorMkit
import Derived.Deep.RegionLaw
import Derived.Test.YtcdmndhaeiccoaaGreatDoorM21
namespace Go.Proofs.YtcdmndhaeiccoaaGreatDoor.P
open Go Go.Proofs.YtcdmndhaeiccoaaGreatDoorR
open Go.RowKit Go.Proofs.YtcdmndhaeiccoaaGreatDoorW.PrintWords Go.Proofs.YtcdmndhaeiccoaaGreatDoorW.PrintLast
set_option linter.unusedVariables false
set_option linter.unusedSimpArgs false
set_option maxHeartbeats 8000000
set_option maxRecDepth 100000
attribute [local go_sem] run_store_complex
theorem line_car_bad1 (t : ByteArray) (i c n : Nat) (sc : Int) (sp : Bool) (A0 A1 A2 A3 : Option Addr) (n0 n1 n2 n3 c0 c1 c2 c3 : Nat) (e : Int) (base : Nat) (w : World) (hi : i < 1 + c) (hc : c ≤ 64) (hn : 2 * n + 2 ≤ 4096) (hb : base ≤ w.heap.size) (he : e ≠ 0) (C : Bad40 t bCar 4 e) :
    Calls Tryz.prog 15 #[iv A0 n0 c0 A1 n1 c1 A2 n2 c2 A3 n3 c3, .string t, .int .i64 i, .int .i64 c, .int .i64 n, .int .i64 sc, .bool sp] w (AnsL w base (.error e)) := by
  have C1 := Aside0.mk C
  have d1 : decide ((i : Int) < 1 + (c : Int)) = true := decide_eq_true (by omega)
  have d2 : decide (i < 1 + c) = true := decide_eq_true hi
  have q1 : (e == 0) = false := by simp [he]
  have q2 : (e != 0) = true := by simp [he]
  have HE := Aside0.mk he
  have hu28 := Tryz.underlying28
  clear C he
  go_enter Tryz.func15, Tryz.ntmps15
  go_wp2_with (first | (go_at_call 40; refine (C1.out _).mono ?_; rintro r w1 ⟨v, rfl, hb1⟩; obtain ⟨h0, h1, -, hB⟩ := box4 hb1; have HB := Aside0.mk hB; have H1 := Aside0.mk h1; have H0 := Aside0.mk h0; clear hb1 hB h1 h0; obtain ⟨⟨y0, y1, y2, y3⟩, f0, f1, f2, f3⟩ := four_of H0.out; obtain ⟨⟨u0, u1, u2, u3⟩, g0, g1, g2, g3⟩ := four_of H1.out))
  refine bodyPost_ret (results15_of (v0 := .slice A0 n0 c0) (v1 := .slice A1 n1 c1) (v2 := .slice A2 n2 c2) (v3 := .slice A3 n3 c3) rfl rfl (blk_set (blk_set (blk_set (blk_set H1.out 0 _) 1 _) 2 _) 3 _)) rfl ?_
  exact ansL_bad HE.out hb ((((HB.out.setCell (Nat.le_succ w.heap.size) _).setCell (Nat.le_succ w.heap.size) _).setCell (Nat.le_succ w.heap.size) _).setCell (Nat.le_succ w.heap.size) _)
theorem line_car_bad2 (t : ByteArray) (i c n : Nat) (sc : Int) (sp : Bool) (A0 A1 A2 A3 : Option Addr) (n0 n1 n2 n3 c0 c1 c2 c3 : Nat) (e : Int) (base : Nat) (w : World) (hi : i < 1 + c) (hc : c ≤ 64) (hn : 2 * n + 2 ≤ 4096) (hb : base ≤ w.heap.size) (he : e ≠ 0) (C : Bad42 t bCar 4 [1000, 1000] sc e) :
    Calls Tryz.prog 15 #[iv A0 n0 c0 A1 n1 c1 A2 n2 c2 A3 n3 c3, .string t, .int .i64 i, .int .i64 c, .int .i64 n, .int .i64 sc, .bool sp] w (AnsL w base (.error e)) := by
  have C1 := Aside0.mk C
  have d1 : decide ((i : Int) < 1 + (c : Int)) = true := decide_eq_true (by omega)
  have d2 : decide (i < 1 + c) = true := decide_eq_true hi
  have q1 : (e == 0) = false := by simp [he]
  have q2 : (e != 0) = true := by simp [he]
  have HE := Aside0.mk he
  have hu28 := Tryz.underlying28
  clear C he
  go_enter Tryz.func15, Tryz.ntmps15
  go_wp2_with (first
    | (go_at_call 40; refine (C1.out _).mono ?_; rintro r w1 ⟨A, m, q, rfl, hb1, hI⟩; obtain ⟨h0, h1, h3, hB⟩ := box4 hb1; have HB := Aside0.mk hB; have H1 := Aside0.mk h1; have H0 := Aside0.mk h0; have H3 := Aside0.mk (ints_C (ns := [1000, 1000]) h3 (by decide)); have HI := Aside0.mk hI; clear hb1 hB h1 h0 h3 hI)
    | (go_at_call 42; refine (HI.out _ _ (Below.refl _ _) H3.out).mono ?_; rintro r w2 ⟨v, rfl, hb2⟩; have B2 := Aside0.mk (HB.out.trans (hb2.mono HB.out.size)); have G0 := Aside0.mk ((hb2.block _ (Array.getElem?_eq_some_iff.1 H0.out).1).trans H0.out); have G1 := Aside0.mk ((hb2.block _ (Array.getElem?_eq_some_iff.1 H1.out).1).trans H1.out); clear hb2; obtain ⟨⟨y0, y1, y2, y3⟩, f0, f1, f2, f3⟩ := four_of G0.out; obtain ⟨⟨u0, u1, u2, u3⟩, g0, g1, g2, g3⟩ := four_of G1.out))
  refine bodyPost_ret (results15_of (v0 := .slice A0 n0 c0) (v1 := .slice A1 n1 c1) (v2 := .slice A2 n2 c2) (v3 := .slice A3 n3 c3) rfl rfl (blk_set (blk_set (blk_set (blk_set G1.out 0 _) 1 _) 2 _) 3 _)) rfl ?_
  exact ansL_bad HE.out hb ((((B2.out.setCell (Nat.le_succ w.heap.size) _).setCell (Nat.le_succ w.heap.size) _).setCell (Nat.le_succ w.heap.size) _).setCell (Nat.le_succ w.heap.size) _)
theorem line_car_ok (t : ByteArray) (i c n : Nat) (sc : Int) (sp : Bool) (A0 A1 A2 A3 : Option Addr) (n0 n1 n2 n3 c0 c1 c2 c3 : Nat) (x : InstP) (a0 a1 a2 : Int) (base : Nat) (w : World) (hi : i < 1 + c) (hc : c ≤ 64) (hn : 2 * n + 2 ≤ 4096) (hb : base ≤ w.heap.size) (hX : InstAt w base (.slice A0 n0 c0) (.slice A1 n1 c1) (.slice A2 n2 c2) (.slice A3 n3 c3) x) (h3 : x.rows ≠ [] ∨ Value.slice A3 n3 c3 = .slice none 0 0) (hl : x.cars.length ≤ 20000) (C : Ok42 t bCar 4 [1000, 1000] [a0, a1, a2] sc) :
    Calls Tryz.prog 15 #[iv A0 n0 c0 A1 n1 c1 A2 n2 c2 A3 n3 c3, .string t, .int .i64 i, .int .i64 c, .int .i64 n, .int .i64 sc, .bool sp] w (AnsL w base (.ok { x with cars := x.cars ++ [(⟨⟨a0, a1⟩, a2⟩ : S60)] })) := by
  have C1 := Aside0.mk C
  have d1 : decide ((i : Int) < 1 + (c : Int)) = true := decide_eq_true (by omega)
  have d2 : decide (i < 1 + c) = true := decide_eq_true hi
  have HX := Aside0.mk hX
  have H33 := Aside0.mk h3
  clear h3
  have HL := Aside0.mk hl
  have HD := Aside0.mk (show (x.cars ++ [(⟨⟨a0, a1⟩, a2⟩ : S60)]).length = x.cars.length + 1 by simp)
  have hu28 := Tryz.underlying28
  clear C hX hl
  go_enter Tryz.func15, Tryz.ntmps15
  go_wp2_with (first
    | (go_at_call 40; refine (C1.out _).mono ?_; rintro r w1 ⟨A, m, q, rfl, hb1, hI⟩; obtain ⟨h0, h1, h3, hB⟩ := box4 hb1; have HB := Aside0.mk hB; have H1 := Aside0.mk h1; have H0 := Aside0.mk h0; have H3 := Aside0.mk (ints_C (ns := [1000, 1000]) h3 (by decide)); have HI := Aside0.mk hI; clear hb1 hB h1 h0 h3 hI)
    | (go_at_call 42; refine (HI.out _ _ (Below.refl _ _) H3.out).mono ?_; rintro r w2 ⟨v, rfl, hR2, hb2⟩; obtain ⟨g, qq, rfl, hqq, hg, hA⟩ := ints_of_R hR2; have HQ := Aside0.mk hqq; clear hqq; have B2 := Aside0.mk (HB.out.trans (hb2.mono HB.out.size)); have G0 := Aside0.mk ((hb2.block _ (Array.getElem?_eq_some_iff.1 H0.out).1).trans H0.out); have G1 := Aside0.mk ((hb2.block _ (Array.getElem?_eq_some_iff.1 H1.out).1).trans H1.out); have NS := Aside0.mk hA; have GN := Aside0.mk (Nat.lt_of_lt_of_le (Array.getElem?_eq_some_iff.1 H0.out).1 hg); have G2 := Aside0.mk (Nat.lt_of_lt_of_le (Array.getElem?_eq_some_iff.1 H1.out).1 hg); have NG := Aside0.mk (row_apart HX.out.cars (g := g) (Nat.le_trans HB.out.size hg)); clear hb2 hR2 hA hg))
  have I2 := Aside0.mk (instAt_below HX.out B2.out)
  have SZ := Aside0.mk (Nat.le_trans hb B2.out.size)
  have BD := Aside0.mk B2.out
  have HBB := Aside0.mk hb
  have y0 := (four_of G0.out).1.1
  have y0a := fun o => cell_below (below_alloc (Below.refl w2.heap.size w2) o) y0
  have k0 := NS.out.at' 0 a0 rfl
  have k1 := NS.out.at' 1 a1 rfl
  have k2 := NS.out.at' 2 a2 rfl
  have m1 : ¬ w.heap.size = g := by have := GN.out; omega
  have m2 : ¬ g = w.heap.size := by have := GN.out; omega
  clear hn hc hi hb
  go_region_law (first | (refine Kd.R_append_step k60 (w0 := w2.drew) base rfl (.tmp 88) (.tmp 100) 23 60 (.agg #[.int .i64 0, .int .i64 0, .int .i64 0]) 24 rfl Tryz.underlying23 info60 rfl (by decide) (by decide) _ x.cars ⟨⟨a0, a1⟩, a2⟩ [.int .i64 a0, .int .i64 a1, .int .i64 a2] (fun _ => True) (fun _ => False) rfl rfl (k60_mkM _ _ _ ⟨⟨a0, a1⟩, a2⟩) (fun _ h => h.elim) (fun _ _ => trivial) (instAt_drew I2.out).cars (Below.refl _ _) SZ.out (by have := HL.out; omega) ?_; intro v1 w5 ho hb hg _; obtain ⟨B1, z1, hv⟩ := Kd.R_slice ho; rw [HD.out] at hv; subst hv; have I := instAt_drew I2.out; have S5 := Aside0.mk (line_grow (W := w2.drew) (w := w) G0.out G1.out HBB.out (show Below w.heap.size w w2.drew from below_drew1 BD.out) hb hg (row_not28 I.cars (by decide))); have J5 := Aside0.mk (show InstAt w5 base (.slice B1 (x.cars.length + 1) z1) (.slice A1 n1 c1) (.slice A2 n2 c2) (.slice A3 n3 c3) { x with cars := x.cars ++ [(⟨⟨a0, a1⟩, a2⟩ : S60)] } from ⟨ho, row_else I.cars I.stops hg (by decide), row_else I.cars I.rides hg (by decide), row_else I.cars I.rows hg (by decide)⟩); have N5 := Aside0.mk ((show IntsAt w2.drew g [a0, a1, a2] from NS.out.below (below_drew (Below.refl _ _))).grown hg (NG.out)); clear ho hb hg I; clear y0 y0a k0 k1 k2; have k0 := N5.out.at' 0 a0 rfl; have k1 := N5.out.at' 1 a1 rfl; have k2 := N5.out.at' 2 a2 rfl; obtain ⟨⟨y0, y1, y2, y3⟩, f0, f1, f2, f3⟩ := four_of S5.out.box; obtain ⟨⟨u0, u1, u2, u3⟩, g0, g1, g2, g3⟩ := four_of S5.out.res))
  all_goals
    go_wp2
    refine bodyPost_ret (results15_of (v0 := .slice B1 (x.cars.length + 1) z1) (v1 := .slice A1 n1 c1) (v2 := .slice A2 n2 c2) (v3 := .slice A3 n3 c3) rfl rfl (blk_set (blk_set (blk_set (blk_set (far_set S5.out.res (by omega)) 0 _) 1 _) 2 _) 3 _)) rfl ?_
    exact ansL_ok S5.out J5.out HBB.out H33.out
theorem line_ride_bad1 (t : ByteArray) (i c n : Nat) (sc : Int) (sp : Bool) (A0 A1 A2 A3 : Option Addr) (n0 n1 n2 n3 c0 c1 c2 c3 : Nat) (e : Int) (base : Nat) (w : World) (hi : ¬ i < 1 + c + 2 * n + 2) (hj : i < 1 + c + 2 * n + 2 + n) (hc : c ≤ 64) (hn : 2 * n + 2 ≤ 4096) (hb : base ≤ w.heap.size) (he : e ≠ 0) (C : Bad40 t bRide 2 e) :
    Calls Tryz.prog 15 #[iv A0 n0 c0 A1 n1 c1 A2 n2 c2 A3 n3 c3, .string t, .int .i64 i, .int .i64 c, .int .i64 n, .int .i64 sc, .bool sp] w (AnsL w base (.error e)) := by
  have C1 := Aside0.mk C
  have d1 : decide ((i : Int) < 1 + (c : Int)) = false := decide_eq_false (by omega)
  have d2 : decide (i < 1 + c) = false := decide_eq_false (by omega)
  have d3 : decide ((i : Int) < 1 + (c : Int) + 2 * (n : Int) + 2) = false := decide_eq_false (by omega)
  have d4 : decide (i < 1 + c + 2 * n + 2) = false := decide_eq_false (by omega)
  have d5 : decide ((i : Int) < 1 + (c : Int) + 2 * (n : Int) + 2 + (n : Int)) = true := decide_eq_true (by omega)
  have d6 : decide (i < 1 + c + 2 * n + 2 + n) = true := decide_eq_true hj
  have q1 : (e == 0) = false := by simp [he]
  have q2 : (e != 0) = true := by simp [he]
  have HE := Aside0.mk he
  have hu28 := Tryz.underlying28
  clear C he
  go_enter Tryz.func15, Tryz.ntmps15
  go_wp2_with (first | (go_at_call 40; refine (C1.out _).mono ?_; rintro r w1 ⟨v, rfl, hb1⟩; obtain ⟨h0, h1, -, hB⟩ := box3 hb1; have HB := Aside0.mk hB; have H1 := Aside0.mk h1; have H0 := Aside0.mk h0; clear hb1 hB h1 h0; obtain ⟨⟨y0, y1, y2, y3⟩, f0, f1, f2, f3⟩ := four_of H0.out; obtain ⟨⟨u0, u1, u2, u3⟩, g0, g1, g2, g3⟩ := four_of H1.out))
  refine bodyPost_ret (results15_of (v0 := .slice A0 n0 c0) (v1 := .slice A1 n1 c1) (v2 := .slice A2 n2 c2) (v3 := .slice A3 n3 c3) rfl rfl (blk_set (blk_set (blk_set (blk_set H1.out 0 _) 1 _) 2 _) 3 _)) rfl ?_
  exact ansL_bad HE.out hb ((((HB.out.setCell (Nat.le_succ w.heap.size) _).setCell (Nat.le_succ w.heap.size) _).setCell (Nat.le_succ w.heap.size) _).setCell (Nat.le_succ w.heap.size) _)
theorem line_ride_bad2 (t : ByteArray) (i c n : Nat) (sc : Int) (sp : Bool) (A0 A1 A2 A3 : Option Addr) (n0 n1 n2 n3 c0 c1 c2 c3 : Nat) (e : Int) (base : Nat) (w : World) (hi : ¬ i < 1 + c + 2 * n + 2) (hj : i < 1 + c + 2 * n + 2 + n) (hc : c ≤ 64) (hn : 2 * n + 2 ≤ 4096) (hb : base ≤ w.heap.size) (he : e ≠ 0) (C : Bad42 t bRide 2 [] sc e) :
    Calls Tryz.prog 15 #[iv A0 n0 c0 A1 n1 c1 A2 n2 c2 A3 n3 c3, .string t, .int .i64 i, .int .i64 c, .int .i64 n, .int .i64 sc, .bool sp] w (AnsL w base (.error e)) := by
  have C1 := Aside0.mk C
  have d1 : decide ((i : Int) < 1 + (c : Int)) = false := decide_eq_false (by omega)
  have d2 : decide (i < 1 + c) = false := decide_eq_false (by omega)
  have d3 : decide ((i : Int) < 1 + (c : Int) + 2 * (n : Int) + 2) = false := decide_eq_false (by omega)
  have d4 : decide (i < 1 + c + 2 * n + 2) = false := decide_eq_false (by omega)
  have d5 : decide ((i : Int) < 1 + (c : Int) + 2 * (n : Int) + 2 + (n : Int)) = true := decide_eq_true (by omega)
  have d6 : decide (i < 1 + c + 2 * n + 2 + n) = true := decide_eq_true hj
  have q1 : (e == 0) = false := by simp [he]
  have q2 : (e != 0) = true := by simp [he]
  have HE := Aside0.mk he
  have hu28 := Tryz.underlying28
  clear C he
  go_enter Tryz.func15, Tryz.ntmps15
  go_wp2_with (first
    | (go_at_call 40; refine (C1.out _).mono ?_; rintro r w1 ⟨A, m, q, rfl, hb1, hI⟩; obtain ⟨h0, h1, h3, hB⟩ := box3 hb1; have HB := Aside0.mk hB; have H1 := Aside0.mk h1; have H0 := Aside0.mk h0; have HI := Aside0.mk hI; clear hb1 hB h1 h0 h3 hI)
    | (go_at_call 42; refine (HI.out _ _ (Below.refl _ _) (ints_nil _ _)).mono ?_; rintro r w2 ⟨v, rfl, hb2⟩; have B2 := Aside0.mk (HB.out.trans (hb2.mono HB.out.size)); have G0 := Aside0.mk ((hb2.block _ (Array.getElem?_eq_some_iff.1 H0.out).1).trans H0.out); have G1 := Aside0.mk ((hb2.block _ (Array.getElem?_eq_some_iff.1 H1.out).1).trans H1.out); clear hb2; obtain ⟨⟨y0, y1, y2, y3⟩, f0, f1, f2, f3⟩ := four_of G0.out; obtain ⟨⟨u0, u1, u2, u3⟩, g0, g1, g2, g3⟩ := four_of G1.out))
  refine bodyPost_ret (results15_of (v0 := .slice A0 n0 c0) (v1 := .slice A1 n1 c1) (v2 := .slice A2 n2 c2) (v3 := .slice A3 n3 c3) rfl rfl (blk_set (blk_set (blk_set (blk_set G1.out 0 _) 1 _) 2 _) 3 _)) rfl ?_
  exact ansL_bad HE.out hb ((((B2.out.setCell (Nat.le_succ w.heap.size) _).setCell (Nat.le_succ w.heap.size) _).setCell (Nat.le_succ w.heap.size) _).setCell (Nat.le_succ w.heap.size) _)
theorem line_ride_ok (t : ByteArray) (i c n : Nat) (sc : Int) (sp : Bool) (A0 A1 A2 : Option Addr) (n0 n1 n2 c0 c1 c2 : Nat) (x : InstP) (a0 : Int) (base : Nat) (w : World) (hi : ¬ i < 1 + c + 2 * n + 2) (hj : i < 1 + c + 2 * n + 2 + n) (hc : c ≤ 64) (hn : 2 * n + 2 ≤ 4096) (hb : base ≤ w.heap.size) (hX : InstAt w base (.slice A0 n0 c0) (.slice A1 n1 c1) (.slice A2 n2 c2) (.slice none 0 0) x) (hr : x.rows = []) (hl : x.rides.length ≤ 20000) (C : Ok42 t bRide 2 [] [a0] sc) :
    Calls Tryz.prog 15 #[iv A0 n0 c0 A1 n1 c1 A2 n2 c2 none 0 0, .string t, .int .i64 i, .int .i64 c, .int .i64 n, .int .i64 sc, .bool sp] w (AnsL w base (.ok { x with rides := x.rides ++ [a0] })) := by
  have C1 := Aside0.mk C
  have d1 : decide ((i : Int) < 1 + (c : Int)) = false := decide_eq_false (by omega)
  have d2 : decide (i < 1 + c) = false := decide_eq_false (by omega)
  have d3 : decide ((i : Int) < 1 + (c : Int) + 2 * (n : Int) + 2) = false := decide_eq_false (by omega)
  have d4 : decide (i < 1 + c + 2 * n + 2) = false := decide_eq_false (by omega)
  have d5 : decide ((i : Int) < 1 + (c : Int) + 2 * (n : Int) + 2 + (n : Int)) = true := decide_eq_true (by omega)
  have d6 : decide (i < 1 + c + 2 * n + 2 + n) = true := decide_eq_true hj
  have HX := Aside0.mk hX
  have HL := Aside0.mk hl
  have HD := Aside0.mk (show (x.rides ++ [a0]).length = x.rides.length + 1 by simp)
  have hu28 := Tryz.underlying28
  have HR := Aside0.mk hr
  clear C hX hl hr
  go_enter Tryz.func15, Tryz.ntmps15
  go_wp2_with (first
    | (go_at_call 40; refine (C1.out _).mono ?_; rintro r w1 ⟨A, m, q, rfl, hb1, hI⟩; obtain ⟨h0, h1, h3, hB⟩ := box3 hb1; have HB := Aside0.mk hB; have H1 := Aside0.mk h1; have H0 := Aside0.mk h0; have HI := Aside0.mk hI; clear hb1 hB h1 h0 h3 hI)
    | (go_at_call 42; refine (HI.out _ _ (Below.refl _ _) (ints_nil _ _)).mono ?_; rintro r w2 ⟨v, rfl, hR2, hb2⟩; obtain ⟨g, qq, rfl, hqq, hg, hA⟩ := ints_of_R hR2; have HQ := Aside0.mk hqq; clear hqq; have B2 := Aside0.mk (HB.out.trans (hb2.mono HB.out.size)); have G0 := Aside0.mk ((hb2.block _ (Array.getElem?_eq_some_iff.1 H0.out).1).trans H0.out); have G1 := Aside0.mk ((hb2.block _ (Array.getElem?_eq_some_iff.1 H1.out).1).trans H1.out); have NS := Aside0.mk hA; have GN := Aside0.mk (Nat.lt_of_lt_of_le (Array.getElem?_eq_some_iff.1 H0.out).1 hg); have G2 := Aside0.mk (Nat.lt_of_lt_of_le (Array.getElem?_eq_some_iff.1 H1.out).1 hg); have NG := Aside0.mk (row_apart HX.out.rides (g := g) (Nat.le_trans HB.out.size hg)); clear hb2 hR2 hA hg))
  have I2 := Aside0.mk (instAt_below HX.out B2.out)
  have SZ := Aside0.mk (Nat.le_trans hb B2.out.size)
  have BD := Aside0.mk B2.out
  have HBB := Aside0.mk hb
  have y2 := (four_of G0.out).1.2.2.1
  have y2a := fun o => cell_below (below_alloc (Below.refl w2.heap.size w2) o) y2
  have k0 := NS.out.at' 0 a0 rfl
  have m1 : ¬ w.heap.size = g := by have := GN.out; omega
  have m2 : ¬ g = w.heap.size := by have := GN.out; omega
  clear hn hc hi hj hb
  go_region_law (first | (refine Kd.R_append_step (Kd.int .i64) (w0 := w2.drew) base rfl (.tmp 146) (.tmp 150) 25 2 (.int .i64 0) 8 rfl Tryz.underlying25 info2 rfl (by decide) (by decide) _ x.rides a0 [.int .i64 a0] (fun _ => True) (fun _ => False) rfl rfl rfl (fun _ h => h.elim) (fun _ _ => trivial) (instAt_drew I2.out).rides (Below.refl _ _) SZ.out (by have := HL.out; omega) ?_; intro v1 w5 ho hb hg _; obtain ⟨B1, z1, hv⟩ := Kd.R_slice ho; rw [HD.out] at hv; subst hv; have I := instAt_drew I2.out; have S5 := Aside0.mk (line_grow (W := w2.drew) (w := w) G0.out G1.out HBB.out (show Below w.heap.size w w2.drew from below_drew1 BD.out) hb hg (row_not28 I.rides (by decide))); have J5 := Aside0.mk (show InstAt w5 base (.slice A0 n0 c0) (.slice A1 n1 c1) (.slice B1 (x.rides.length + 1) z1) (.slice none 0 0) { x with rides := x.rides ++ [a0] } from ⟨row_else I.rides I.cars hg (by decide), row_else I.rides I.stops hg (by decide), ho, by rw [HR.out]; exact Kd.R_nil _ _ _ _ _⟩); have N5 := Aside0.mk ((show IntsAt w2.drew g [a0] from NS.out.below (below_drew (Below.refl _ _))).grown hg (NG.out)); clear ho hb hg I; clear y2 y2a k0; have k0 := N5.out.at' 0 a0 rfl; obtain ⟨⟨y0, y1, y2, y3⟩, f0, f1, f2, f3⟩ := four_of S5.out.box; obtain ⟨⟨u0, u1, u2, u3⟩, g0, g1, g2, g3⟩ := four_of S5.out.res))
  all_goals
    go_wp2
    refine bodyPost_ret (results15_of (v0 := .slice A0 n0 c0) (v1 := .slice A1 n1 c1) (v2 := .slice B1 (x.rides.length + 1) z1) (v3 := .slice none 0 0) rfl rfl (blk_set (blk_set (blk_set (blk_set (far_set S5.out.res (by omega)) 0 _) 1 _) 2 _) 3 _)) rfl ?_
    exact ansL_ok S5.out J5.out HBB.out (.inr rfl)
end Go.Proofs.YtcdmndhaeiccoaaGreatDoor.P
