/- The document's line, row, spots:bad, times:bad. -/
import Derived.Test.YtcdmndhaeiccoaaGreatDoorMkit
import Derived.Test.YtcdmndhaeiccoaaGreatDoorM21
namespace Go.Proofs.YtcdmndhaeiccoaaGreatDoor.P
open Go Go.Proofs.YtcdmndhaeiccoaaGreatDoorR
open Go.RowKit Go.Proofs.YtcdmndhaeiccoaaGreatDoorW.PrintWords Go.Proofs.YtcdmndhaeiccoaaGreatDoorW.PrintLast
set_option linter.unusedVariables false
set_option linter.unusedSimpArgs false
set_option maxHeartbeats 8000000
set_option maxRecDepth 100000
attribute [local go_sem] run_store_complex
theorem line_row_bad1 (t : ByteArray) (i c n : Nat) (sc : Int) (sp : Bool) (A0 A1 A2 A3 : Option Addr) (n0 n1 n2 n3 c0 c1 c2 c3 : Nat) (e : Int) (base : Nat) (w : World) (hi : ¬ i < 1 + c + 2 * n + 2 + n) (hm : i ≤ 20000) (hc : c ≤ 64) (hn : 2 * n + 2 ≤ 4096) (hb : base ≤ w.heap.size) (he : e ≠ 0) (C : Bad40 t bRow (2 * (n : Int) + 3) e) :
    Calls Tryz.prog 15 #[iv A0 n0 c0 A1 n1 c1 A2 n2 c2 A3 n3 c3, .string t, .int .i64 i, .int .i64 c, .int .i64 n, .int .i64 sc, .bool sp] w (AnsL w base (.error e)) := by
  have C1 := Aside0.mk C
  have d1 : decide ((i : Int) < 1 + (c : Int)) = false := decide_eq_false (by omega)
  have d2 : decide (i < 1 + c) = false := decide_eq_false (by omega)
  have d3 : decide ((i : Int) < 1 + (c : Int) + 2 * (n : Int) + 2) = false := decide_eq_false (by omega)
  have d4 : decide (i < 1 + c + 2 * n + 2) = false := decide_eq_false (by omega)
  have d5 : decide ((i : Int) < 1 + (c : Int) + 2 * (n : Int) + 2 + (n : Int)) = false := decide_eq_false (by omega)
  have d6 : decide (i < 1 + c + 2 * n + 2 + n) = false := decide_eq_false hi
  have q1 : (e == 0) = false := by simp [he]
  have q2 : (e != 0) = true := by simp [he]
  have HE := Aside0.mk he
  have hu28 := Tryz.underlying28
  clear C he
  go_enter Tryz.func15, Tryz.ntmps15
  go_wp2_with (first | (go_at_call 40; refine (C1.out _).mono ?_; rintro r w1 ⟨v, rfl, hb1⟩; obtain ⟨h0, h1, -, hB⟩ := box3 hb1; have HB := Aside0.mk hB; have H1 := Aside0.mk h1; have H0 := Aside0.mk h0; clear hb1 hB h1 h0; obtain ⟨⟨y0, y1, y2, y3⟩, f0, f1, f2, f3⟩ := four_of H0.out; obtain ⟨⟨u0, u1, u2, u3⟩, g0, g1, g2, g3⟩ := four_of H1.out))
  refine bodyPost_ret (results15_of (v0 := .slice A0 n0 c0) (v1 := .slice A1 n1 c1) (v2 := .slice A2 n2 c2) (v3 := .slice A3 n3 c3) rfl rfl (blk_set (blk_set (blk_set (blk_set H1.out 0 _) 1 _) 2 _) 3 _)) rfl ?_
  exact ansL_bad HE.out hb ((((HB.out.setCell (Nat.le_succ w.heap.size) _).setCell (Nat.le_succ w.heap.size) _).setCell (Nat.le_succ w.heap.size) _).setCell (Nat.le_succ w.heap.size) _)
theorem line_row_bad2 (t : ByteArray) (i c n : Nat) (sc : Int) (sp : Bool) (A0 A1 A2 A3 : Option Addr) (n0 n1 n2 n3 c0 c1 c2 c3 : Nat) (e : Int) (base : Nat) (w : World) (hi : ¬ i < 1 + c + 2 * n + 2 + n) (hm : i ≤ 20000) (hc : c ≤ 64) (hn : 2 * n + 2 ≤ 4096) (hb : base ≤ w.heap.size) (he : e ≠ 0) (C : Bad42 t bRow (2 * (n : Int) + 3) [] sc e) :
    Calls Tryz.prog 15 #[iv A0 n0 c0 A1 n1 c1 A2 n2 c2 A3 n3 c3, .string t, .int .i64 i, .int .i64 c, .int .i64 n, .int .i64 sc, .bool sp] w (AnsL w base (.error e)) := by
  have C1 := Aside0.mk C
  have d1 : decide ((i : Int) < 1 + (c : Int)) = false := decide_eq_false (by omega)
  have d2 : decide (i < 1 + c) = false := decide_eq_false (by omega)
  have d3 : decide ((i : Int) < 1 + (c : Int) + 2 * (n : Int) + 2) = false := decide_eq_false (by omega)
  have d4 : decide (i < 1 + c + 2 * n + 2) = false := decide_eq_false (by omega)
  have d5 : decide ((i : Int) < 1 + (c : Int) + 2 * (n : Int) + 2 + (n : Int)) = false := decide_eq_false (by omega)
  have d6 : decide (i < 1 + c + 2 * n + 2 + n) = false := decide_eq_false hi
  have q1 : (e == 0) = false := by simp [he]
  have q2 : (e != 0) = true := by simp [he]
  have HE := Aside0.mk he
  have hu28 := Tryz.underlying28
  clear C he
  go_enter Tryz.func15, Tryz.ntmps15
  go_wp2_with (first
    | (go_at_call 40; refine (C1.out _).mono ?_; rintro r w1 ⟨A, m, q, rfl, hb1, hI⟩; obtain ⟨h0, h1, h3, hB⟩ := box3 hb1; have HB := Aside0.mk hB; have H1 := Aside0.mk h1; have H0 := Aside0.mk h0; have HI := Aside0.mk hI; clear hb1 hB h1 h0 h3 hI)
    | (go_at_call 42; refine (HI.out _ _ (Below.refl _ _) (ints_nil _ _)).mono ?_; rintro r w2 ⟨v, rfl, hb2⟩; have B2 := Aside0.mk (HB.out.trans (hb2.mono HB.out.size)); have G0 := Aside0.mk ((hb2.block _ (Array.getElem?_eq_some_iff.1 H0.out).1).trans H0.out); have G1 := Aside0.mk ((hb2.block _ (Array.getElem?_eq_some_iff.1 H1.out).1).trans H1.out); clear hb2; obtain ⟨⟨y0, y1, y2, y3⟩, f0, f1, f2, f3⟩ := four_of G0.out; obtain ⟨⟨u0, u1, u2, u3⟩, g0, g1, g2, g3⟩ := four_of G1.out))
  refine bodyPost_ret (results15_of (v0 := .slice A0 n0 c0) (v1 := .slice A1 n1 c1) (v2 := .slice A2 n2 c2) (v3 := .slice A3 n3 c3) rfl rfl (blk_set (blk_set (blk_set (blk_set G1.out 0 _) 1 _) 2 _) 3 _)) rfl ?_
  exact ansL_bad HE.out hb ((((B2.out.setCell (Nat.le_succ w.heap.size) _).setCell (Nat.le_succ w.heap.size) _).setCell (Nat.le_succ w.heap.size) _).setCell (Nat.le_succ w.heap.size) _)
theorem line_row_ok (t : ByteArray) (i c n : Nat) (sc : Int) (sp : Bool) (A0 A1 A2 A3 : Option Addr) (n0 n1 n2 n3 c0 c1 c2 c3 : Nat) (x : InstP) (ns : List Int) (base : Nat) (w : World) (hi : ¬ i < 1 + c + 2 * n + 2 + n) (hm : i ≤ 20000) (hc : c ≤ 64) (hn : 2 * n + 2 ≤ 4096) (hb : base ≤ w.heap.size) (hX : InstAt w base (.slice A0 n0 c0) (.slice A1 n1 c1) (.slice A2 n2 c2) (.slice A3 n3 c3) x) (hl : x.rows.length ≤ 20000) (C : Ok42 t bRow (2 * (n : Int) + 3) [] ns sc) :
    Calls Tryz.prog 15 #[iv A0 n0 c0 A1 n1 c1 A2 n2 c2 A3 n3 c3, .string t, .int .i64 i, .int .i64 c, .int .i64 n, .int .i64 sc, .bool sp] w (AnsL w base (.ok { x with rows := x.rows ++ [ns] })) := by
  have C1 := Aside0.mk C
  have d1 : decide ((i : Int) < 1 + (c : Int)) = false := decide_eq_false (by omega)
  have d2 : decide (i < 1 + c) = false := decide_eq_false (by omega)
  have d3 : decide ((i : Int) < 1 + (c : Int) + 2 * (n : Int) + 2) = false := decide_eq_false (by omega)
  have d4 : decide (i < 1 + c + 2 * n + 2) = false := decide_eq_false (by omega)
  have d5 : decide ((i : Int) < 1 + (c : Int) + 2 * (n : Int) + 2 + (n : Int)) = false := decide_eq_false (by omega)
  have d6 : decide (i < 1 + c + 2 * n + 2 + n) = false := decide_eq_false hi
  have HX := Aside0.mk hX
  have HL := Aside0.mk hl
  have HD := Aside0.mk (show (x.rows ++ [ns]).length = x.rows.length + 1 by simp)
  have hu28 := Tryz.underlying28
  clear C hX hl
  go_enter Tryz.func15, Tryz.ntmps15
  have HBB := Aside0.mk hb
  go_wp2_with (first
    | (go_at_call 40; refine (C1.out _).mono ?_; rintro r w1 ⟨A, m, q, rfl, hb1, hI⟩; obtain ⟨h0, h1, h3, hB⟩ := box3 hb1; have HB := Aside0.mk hB; have H1 := Aside0.mk h1; have H0 := Aside0.mk h0; have HI := Aside0.mk hI; clear hb1 hB h1 h0 h3 hI)
    | (go_at_call 42; refine (HI.out _ _ (Below.refl _ _) (ints_nil _ _)).mono ?_; rintro r w2 ⟨v, rfl, hR2, hb2⟩; obtain ⟨gA, qq, rfl⟩ := Kd.R_slice hR2; have B2 := Aside0.mk (HB.out.trans (hb2.mono HB.out.size)); have G0 := Aside0.mk ((hb2.block _ (Array.getElem?_eq_some_iff.1 H0.out).1).trans H0.out); have G1 := Aside0.mk ((hb2.block _ (Array.getElem?_eq_some_iff.1 H1.out).1).trans H1.out); have NS := Aside0.mk (Kd.R_lower hR2 (Nat.le_trans hb HB.out.size)); clear hb2 hR2; have I2 := Aside0.mk (instAt_below HX.out B2.out); have SZ := Aside0.mk (Nat.le_trans hb B2.out.size); have BD := Aside0.mk B2.out; have y3 := (four_of G0.out).1.2.2.2)
    | ((with_reducible refine gate_builtin (b := .append) (xs := #[.tmp 154, .tmp 156]) rfl ?_); at_builtin; refine Kd.R_append (Kd.slice 2 (Kd.int .i64)) (w0 := w2) base rfl (.tmp 154) (.tmp 156) 26 25 (.slice none 0 0) 24 rfl Tryz.underlying26 info25 rfl (by decide) (by decide) _ x.rows ns [.slice gA ns.length qq] (fun _ => True) (fun k => some k ≠ (Value.slice A3 n3 c3).ownBlock) rfl rfl ⟨_, rfl, row_inner (w := w2) NS.out (Nat.le_refl _) I2.out.rows⟩ (fun _ h => ⟨trivial, h⟩) (fun _ _ => trivial) I2.out.rows (Below.refl _ _) SZ.out (by have := HL.out; omega) ?_; intro v1 w5 ho hb hg _; obtain ⟨B1, z1, hv⟩ := Kd.R_slice ho; rw [HD.out] at hv; subst hv; have I := I2.out; have S5 := Aside0.mk (line_grow (W := w2) (w := w) G0.out G1.out HBB.out BD.out hb hg (row_not28 I.rows (by decide))); have J5 := Aside0.mk (show InstAt w5 base (.slice A0 n0 c0) (.slice A1 n1 c1) (.slice A2 n2 c2) (.slice B1 (x.rows.length + 1) z1) { x with rows := x.rows ++ [ns] } from ⟨row_else I.rows I.cars hg (by decide), row_else I.rows I.stops hg (by decide), row_else I.rows I.rides hg (by decide), ho⟩); clear ho hb hg I; clear y3; obtain ⟨⟨y0, y1, y2, y3⟩, f0, f1, f2, f3⟩ := four_of S5.out.box; obtain ⟨⟨u0, u1, u2, u3⟩, g0, g1, g2, g3⟩ := four_of S5.out.res))
  refine bodyPost_ret (results15_of (v0 := .slice A0 n0 c0) (v1 := .slice A1 n1 c1) (v2 := .slice A2 n2 c2) (v3 := .slice B1 (x.rows.length + 1) z1) rfl rfl (blk_set (blk_set (blk_set (blk_set (far_set S5.out.res (by omega)) 0 _) 1 _) 2 _) 3 _)) rfl ?_
  exact ansL_ok S5.out J5.out HBB.out (.inl (by simp))
theorem line_spots_bad1 (t : ByteArray) (i c n : Nat) (sc : Int) (A0 A1 A2 A3 : Option Addr) (n0 n1 n2 n3 c0 c1 c2 c3 : Nat) (e : Int) (base : Nat) (w : World) (hi : ¬ i < 1 + c) (hj : i < 1 + c + 2 * n + 2) (hc : c ≤ 64) (hn : 2 * n + 2 ≤ 4096) (hb : base ≤ w.heap.size) (he : e ≠ 0) (C : Bad40 t bStop 8 e) :
    Calls Tryz.prog 15 #[iv A0 n0 c0 A1 n1 c1 A2 n2 c2 A3 n3 c3, .string t, .int .i64 i, .int .i64 c, .int .i64 n, .int .i64 sc, .bool true] w (AnsL w base (.error e)) := by
  have C1 := Aside0.mk C
  have d1 : decide ((i : Int) < 1 + (c : Int)) = false := decide_eq_false (by omega)
  have d2 : decide (i < 1 + c) = false := decide_eq_false (by omega)
  have d3 : decide ((i : Int) < 1 + (c : Int) + 2 * (n : Int) + 2) = true := decide_eq_true (by omega)
  have d4 : decide (i < 1 + c + 2 * n + 2) = true := decide_eq_true hj
  have q1 : (e == 0) = false := by simp [he]
  have q2 : (e != 0) = true := by simp [he]
  have HE := Aside0.mk he
  have hu28 := Tryz.underlying28
  clear C he
  go_enter Tryz.func15, Tryz.ntmps15
  go_wp2_with (first | (go_at_call 40; refine (C1.out _).mono ?_; rintro r w1 ⟨v, rfl, hb1⟩; obtain ⟨h0, h1, -, hB⟩ := box4 hb1; have HB := Aside0.mk hB; have H1 := Aside0.mk h1; have H0 := Aside0.mk h0; clear hb1 hB h1 h0; obtain ⟨⟨y0, y1, y2, y3⟩, f0, f1, f2, f3⟩ := four_of H0.out; obtain ⟨⟨u0, u1, u2, u3⟩, g0, g1, g2, g3⟩ := four_of H1.out))
  refine bodyPost_ret (results15_of (v0 := .slice A0 n0 c0) (v1 := .slice A1 n1 c1) (v2 := .slice A2 n2 c2) (v3 := .slice A3 n3 c3) rfl rfl (blk_set (blk_set (blk_set (blk_set H1.out 0 _) 1 _) 2 _) 3 _)) rfl ?_
  exact ansL_bad HE.out hb ((((HB.out.setCell (Nat.le_succ w.heap.size) _).setCell (Nat.le_succ w.heap.size) _).setCell (Nat.le_succ w.heap.size) _).setCell (Nat.le_succ w.heap.size) _)
theorem line_spots_bad2 (t : ByteArray) (i c n : Nat) (sc : Int) (A0 A1 A2 A3 : Option Addr) (n0 n1 n2 n3 c0 c1 c2 c3 : Nat) (e : Int) (base : Nat) (w : World) (hi : ¬ i < 1 + c) (hj : i < 1 + c + 2 * n + 2) (hc : c ≤ 64) (hn : 2 * n + 2 ≤ 4096) (hb : base ≤ w.heap.size) (he : e ≠ 0) (C : Bad42 t bStop 8 [16777216, 16777216, 1000, 1000] sc e) :
    Calls Tryz.prog 15 #[iv A0 n0 c0 A1 n1 c1 A2 n2 c2 A3 n3 c3, .string t, .int .i64 i, .int .i64 c, .int .i64 n, .int .i64 sc, .bool true] w (AnsL w base (.error e)) := by
  have C1 := Aside0.mk C
  have d1 : decide ((i : Int) < 1 + (c : Int)) = false := decide_eq_false (by omega)
  have d2 : decide (i < 1 + c) = false := decide_eq_false (by omega)
  have d3 : decide ((i : Int) < 1 + (c : Int) + 2 * (n : Int) + 2) = true := decide_eq_true (by omega)
  have d4 : decide (i < 1 + c + 2 * n + 2) = true := decide_eq_true hj
  have q1 : (e == 0) = false := by simp [he]
  have q2 : (e != 0) = true := by simp [he]
  have HE := Aside0.mk he
  have hu28 := Tryz.underlying28
  clear C he
  go_enter Tryz.func15, Tryz.ntmps15
  go_wp2_with (first
    | (go_at_call 40; refine (C1.out _).mono ?_; rintro r w1 ⟨A, m, q, rfl, hb1, hI⟩; obtain ⟨h0, h1, h3, hB⟩ := box4 hb1; have HB := Aside0.mk hB; have H1 := Aside0.mk h1; have H0 := Aside0.mk h0; have H3 := Aside0.mk (ints_C (ns := [16777216, 16777216, 1000, 1000]) h3 (by decide)); have HI := Aside0.mk hI; clear hb1 hB h1 h0 h3 hI)
    | (go_at_call 42; refine (HI.out _ _ (Below.refl _ _) H3.out).mono ?_; rintro r w2 ⟨v, rfl, hb2⟩; have B2 := Aside0.mk (HB.out.trans (hb2.mono HB.out.size)); have G0 := Aside0.mk ((hb2.block _ (Array.getElem?_eq_some_iff.1 H0.out).1).trans H0.out); have G1 := Aside0.mk ((hb2.block _ (Array.getElem?_eq_some_iff.1 H1.out).1).trans H1.out); clear hb2; obtain ⟨⟨y0, y1, y2, y3⟩, f0, f1, f2, f3⟩ := four_of G0.out; obtain ⟨⟨u0, u1, u2, u3⟩, g0, g1, g2, g3⟩ := four_of G1.out))
  refine bodyPost_ret (results15_of (v0 := .slice A0 n0 c0) (v1 := .slice A1 n1 c1) (v2 := .slice A2 n2 c2) (v3 := .slice A3 n3 c3) rfl rfl (blk_set (blk_set (blk_set (blk_set G1.out 0 _) 1 _) 2 _) 3 _)) rfl ?_
  exact ansL_bad HE.out hb ((((B2.out.setCell (Nat.le_succ w.heap.size) _).setCell (Nat.le_succ w.heap.size) _).setCell (Nat.le_succ w.heap.size) _).setCell (Nat.le_succ w.heap.size) _)
theorem line_times_bad1 (t : ByteArray) (i c n : Nat) (sc : Int) (A0 A1 A2 A3 : Option Addr) (n0 n1 n2 n3 c0 c1 c2 c3 : Nat) (e : Int) (base : Nat) (w : World) (hi : ¬ i < 1 + c) (hj : i < 1 + c + 2 * n + 2) (hc : c ≤ 64) (hn : 2 * n + 2 ≤ 4096) (hb : base ≤ w.heap.size) (he : e ≠ 0) (C : Bad40 t bStop 6 e) :
    Calls Tryz.prog 15 #[iv A0 n0 c0 A1 n1 c1 A2 n2 c2 A3 n3 c3, .string t, .int .i64 i, .int .i64 c, .int .i64 n, .int .i64 sc, .bool false] w (AnsL w base (.error e)) := by
  have C1 := Aside0.mk C
  have d1 : decide ((i : Int) < 1 + (c : Int)) = false := decide_eq_false (by omega)
  have d2 : decide (i < 1 + c) = false := decide_eq_false (by omega)
  have d3 : decide ((i : Int) < 1 + (c : Int) + 2 * (n : Int) + 2) = true := decide_eq_true (by omega)
  have d4 : decide (i < 1 + c + 2 * n + 2) = true := decide_eq_true hj
  have q1 : (e == 0) = false := by simp [he]
  have q2 : (e != 0) = true := by simp [he]
  have HE := Aside0.mk he
  have hu28 := Tryz.underlying28
  clear C he
  go_enter Tryz.func15, Tryz.ntmps15
  go_wp2_with (first | (go_at_call 40; refine (C1.out _).mono ?_; rintro r w1 ⟨v, rfl, hb1⟩; obtain ⟨h0, h1, -, hB⟩ := box4 hb1; have HB := Aside0.mk hB; have H1 := Aside0.mk h1; have H0 := Aside0.mk h0; clear hb1 hB h1 h0; obtain ⟨⟨y0, y1, y2, y3⟩, f0, f1, f2, f3⟩ := four_of H0.out; obtain ⟨⟨u0, u1, u2, u3⟩, g0, g1, g2, g3⟩ := four_of H1.out))
  refine bodyPost_ret (results15_of (v0 := .slice A0 n0 c0) (v1 := .slice A1 n1 c1) (v2 := .slice A2 n2 c2) (v3 := .slice A3 n3 c3) rfl rfl (blk_set (blk_set (blk_set (blk_set H1.out 0 _) 1 _) 2 _) 3 _)) rfl ?_
  exact ansL_bad HE.out hb ((((HB.out.setCell (Nat.le_succ w.heap.size) _).setCell (Nat.le_succ w.heap.size) _).setCell (Nat.le_succ w.heap.size) _).setCell (Nat.le_succ w.heap.size) _)
theorem line_times_bad2 (t : ByteArray) (i c n : Nat) (sc : Int) (A0 A1 A2 A3 : Option Addr) (n0 n1 n2 n3 c0 c1 c2 c3 : Nat) (e : Int) (base : Nat) (w : World) (hi : ¬ i < 1 + c) (hj : i < 1 + c + 2 * n + 2) (hc : c ≤ 64) (hn : 2 * n + 2 ≤ 4096) (hb : base ≤ w.heap.size) (he : e ≠ 0) (C : Bad42 t bStop 6 [1000, 1000] sc e) :
    Calls Tryz.prog 15 #[iv A0 n0 c0 A1 n1 c1 A2 n2 c2 A3 n3 c3, .string t, .int .i64 i, .int .i64 c, .int .i64 n, .int .i64 sc, .bool false] w (AnsL w base (.error e)) := by
  have C1 := Aside0.mk C
  have d1 : decide ((i : Int) < 1 + (c : Int)) = false := decide_eq_false (by omega)
  have d2 : decide (i < 1 + c) = false := decide_eq_false (by omega)
  have d3 : decide ((i : Int) < 1 + (c : Int) + 2 * (n : Int) + 2) = true := decide_eq_true (by omega)
  have d4 : decide (i < 1 + c + 2 * n + 2) = true := decide_eq_true hj
  have q1 : (e == 0) = false := by simp [he]
  have q2 : (e != 0) = true := by simp [he]
  have HE := Aside0.mk he
  have hu28 := Tryz.underlying28
  clear C he
  go_enter Tryz.func15, Tryz.ntmps15
  go_wp2_with (first
    | (go_at_call 40; refine (C1.out _).mono ?_; rintro r w1 ⟨A, m, q, rfl, hb1, hI⟩; obtain ⟨h0, h1, h3, hB⟩ := box4 hb1; have HB := Aside0.mk hB; have H1 := Aside0.mk h1; have H0 := Aside0.mk h0; have H3 := Aside0.mk (ints_C (ns := [1000, 1000]) h3 (by decide)); have HI := Aside0.mk hI; clear hb1 hB h1 h0 h3 hI)
    | (go_at_call 42; refine (HI.out _ _ (Below.refl _ _) H3.out).mono ?_; rintro r w2 ⟨v, rfl, hb2⟩; have B2 := Aside0.mk (HB.out.trans (hb2.mono HB.out.size)); have G0 := Aside0.mk ((hb2.block _ (Array.getElem?_eq_some_iff.1 H0.out).1).trans H0.out); have G1 := Aside0.mk ((hb2.block _ (Array.getElem?_eq_some_iff.1 H1.out).1).trans H1.out); clear hb2; obtain ⟨⟨y0, y1, y2, y3⟩, f0, f1, f2, f3⟩ := four_of G0.out; obtain ⟨⟨u0, u1, u2, u3⟩, g0, g1, g2, g3⟩ := four_of G1.out))
  refine bodyPost_ret (results15_of (v0 := .slice A0 n0 c0) (v1 := .slice A1 n1 c1) (v2 := .slice A2 n2 c2) (v3 := .slice A3 n3 c3) rfl rfl (blk_set (blk_set (blk_set (blk_set G1.out 0 _) 1 _) 2 _) 3 _)) rfl ?_
  exact ansL_bad HE.out hb ((((B2.out.setCell (Nat.le_succ w.heap.size) _).setCell (Nat.le_succ w.heap.size) _).setCell (Nat.le_succ w.heap.size) _).setCell (Nat.le_succ w.heap.size) _)
end Go.Proofs.YtcdmndhaeiccoaaGreatDoor.P
