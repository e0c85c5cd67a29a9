/- Print at the document's example. -/
import Derived.Test.YtcdmndhaeiccoaaGreatDoorMkit
import Derived.Test.YtcdmndhaeiccoaaGreatDoorM22
import Derived.Test.YtcdmndhaeiccoaaGreatDoorM16
namespace Go.Proofs.YtcdmndhaeiccoaaGreatDoor.P
open Go Go.Proofs.YtcdmndhaeiccoaaGreatDoorR
open Go.RowKit Go.Proofs.YtcdmndhaeiccoaaGreatDoorW.PrintWords Go.Proofs.YtcdmndhaeiccoaaGreatDoorW.PrintLast
attribute [local go_sem] run_store_complex
set_option linter.unusedVariables false
set_option linter.unusedSimpArgs false
set_option maxHeartbeats 8000000
set_option maxRecDepth 100000
def z0 : Nat := floatOfInt .f64 0
def stA : S63 := ⟨⟨0, 0⟩, 0, 0, 9, (z0, z0)⟩
def xA : InstP := ⟨[⟨⟨1, 0⟩, 9⟩], [stA, stA], [], []⟩
def lnOf (ws : List ByteArray) : List UInt8 := Lib.join (ws.map (·.data.toList)) [32] ++ [10]
def hdW : List ByteArray := [bJitney, dg 0, dg 1, dg 0, bSpots]
def carW : List ByteArray := [bCar, dg 1, dg 0, dg 9]
def stW : List ByteArray := [bStop, dg 0, dg 0, dg 0, dg 0, dg 0, dg 0, dg 9]
def outL (c s : Nat) : List UInt8 := lnOf hdW ++ (List.replicate c (lnOf carW)).flatten ++ (List.replicate s (lnOf stW)).flatten
theorem wr_head {w : World} {B b : Nat} (h : WrAt w B b ([] ++ Lib.join (hdW.map (·.data.toList)) [32] ++ [10]) 0) : WrAt w B b (outL 0 0) 0 := by
  have e : outL 0 0 = [] ++ Lib.join (hdW.map (·.data.toList)) [32] ++ [10] := by simp [outL, lnOf]
  rw [e]; exact h
theorem wr_car {w : World} {B b j : Nat} (h : WrAt w B b (outL j 0 ++ Lib.join (carW.map (·.data.toList)) [32] ++ [10]) 0) : WrAt w B b (outL (j + 1) 0) 0 := by
  have e : outL (j + 1) 0 = outL j 0 ++ Lib.join (carW.map (·.data.toList)) [32] ++ [10] := by simp [outL, lnOf, List.replicate_succ', List.flatten_append]
  rw [e]; exact h
theorem wr_st {w : World} {B b c j : Nat} (h : WrAt w B b (outL c j ++ Lib.join (stW.map (·.data.toList)) [32] ++ [10]) 0) : WrAt w B b (outL c (j + 1)) 0 := by
  have e : outL c (j + 1) = outL c j ++ Lib.join (stW.map (·.data.toList)) [32] ++ [10] := by simp [outL, lnOf, List.replicate_succ', List.flatten_append]
  rw [e]; exact h
theorem spot_z0 : Spot z0 z0 0 0 := ⟨fis_int ⟨by decide, by decide⟩, fis_int ⟨by decide, by decide⟩, ⟨by decide, by decide⟩, ⟨by decide, by decide⟩⟩
theorem good_xA : GoodI xA := ⟨by decide, by decide, by decide, by decide, by
  intro s hs
  have : s = stA := by simp [xA] at hs; exact hs
  subst this
  exact ⟨⟨by decide, by decide⟩, ⟨by decide, by decide⟩⟩, by
  intro s hs
  have : s = stA := by simp [xA] at hs; exact hs
  subst this
  exact ⟨0, 0, spot_z0⟩, .inl rfl⟩
theorem chk_xA : chkI xA = 0 := by decide +kernel
/-- What is known within a car's line. -/
structure RowC (X w' : World) (B b : Nat) (l : List UInt8) (bx : Nat) (v : Value) (ws : List ByteArray) : Prop where
  row : Kd.R Kd.string 9 w' X.heap.size (fun _ => True) v ws
  wr : WrAt w' B b l 0
  box : w'.heap[bx]? = some (.cells #[.int .i64 1, .int .i64 0, .int .i64 9] 60 (0, 0))
  below : Below X.heap.size X w'
theorem RowC.move {X W w' : World} {B b : Nat} {l : List UInt8} {bx : Nat} {v : Value} {ws : List ByteArray} (h : RowC X W B b l bx v ws) (hb : Below W.heap.size W w') : RowC X w' B b l bx v ws :=
  ⟨Kd.R_below h.row hb, h.wr.below hb, (hb.block _ (Array.getElem?_eq_some_iff.1 h.box).1).trans h.box, h.below.trans (hb.mono h.below.size)⟩
theorem RowC.grow {X W w' : World} {B b : Nat} {l : List UInt8} {bx : Nat} {v v' : Value} {ws ws' : List ByteArray} (h : RowC X W B b l bx v ws) (hg : W.grownBy w' v.ownBlock) (hb : Below X.heap.size X w') (hr : Kd.R Kd.string 9 w' X.heap.size (fun _ => True) v' ws') : RowC X w' B b l bx v' ws' :=
  ⟨hr, h.wr.grown hg (row_wr h.row), blk_grown hg (row_not 60 h.row (by decide)) h.box, hb⟩
theorem three_of {w : World} {g t : Nat} {c0 c1 c2 : Value} (h : w.heap[g]? = some (.cells #[c0, c1, c2] t (0, 0))) : w.cell? ⟨g, 0, none⟩ = some c0 ∧ w.cell? ⟨g, 1, none⟩ = some c1 ∧ w.cell? ⟨g, 2, none⟩ = some c2 :=
  ⟨(blk_cell h 0).trans rfl, (blk_cell h 1).trans rfl, (blk_cell h 2).trans rfl⟩
theorem print_xA.calls (p : Lie) (w : World) (h : InC w p xA) : Calls Tryz.prog 8 #[.agg (instCs p xA), .int .i64 0] w fun r w' => r = .returned (.tuple #[.string ⟨(outL 1 2).toArray⟩, .int .i64 0]) ∧ Below w.heap.size w w' := by
  have CK := Aside0.mk (fun W (hb : Below w.heap.size w W) => by
    have := inst_Check.calls p xA W (h.below hb) good_xA
    rw [chk_xA] at this
    exact this)
  obtain ⟨A0, c0, A1, c1, A2, c2, A3, c3⟩ := p
  have X0 := Aside0.mk h.h0
  have X1 := Aside0.mk h.h1
  dsimp only at X0 X1
  clear h
  show Calls Tryz.prog 8 #[.agg #[.slice A0 1 c0, .slice A1 2 c1, .slice A2 0 c2, .slice A3 0 c3], .int .i64 0] w _
  have HB := Aside0.mk (below_alloc (Below.refl w.heap.size w) (.cells #[.slice A0 1 c0, .slice A1 2 c1, .slice A2 0 c2, .slice A3 0 c3] 28 (0, 0)))
  have HW := Aside0.mk (heap_alloc_new w (.cells #[.slice A0 1 c0, .slice A1 2 c1, .slice A2 0 c2, .slice A3 0 c3] 28 (0, 0)))
  obtain ⟨⟨y0, y1, y2, y3⟩, -⟩ := four_of HW.out
  go_enter Tryz.func8, Tryz.ntmps8
  go_upto_region 7 with (first | (go_at_call 12; refine (CK.out _ HB.out).mono ?_; rintro r w1 ⟨rfl, hb⟩; have HB1 := Aside0.mk (HB.out.trans (hb.mono HB.out.size)); have HW1 := Aside0.mk ((hb.block _ (Array.getElem?_eq_some_iff.1 HW.out).1).trans HW.out); clear hb y0 y1 y2 y3; obtain ⟨⟨y0, y1, y2, y3⟩, -⟩ := four_of HW1.out))
  obtain ⟨W1, hW1⟩ : ∃ W1, W1 = w1.alloc (.cells #[.pointer none, .slice none 0 0, .int .i64 0] 70 (0, 0)) := ⟨_, rfl⟩
  obtain ⟨b, hb⟩ : ∃ b, b = w1.heap.size := ⟨_, rfl⟩
  rw [← hW1, ← hb]
  have B1 := Aside0.mk (show Below w.heap.size w W1 by rw [hW1]; exact below_alloc HB1.out _)
  have WA := Aside0.mk (show WrAt W1 w.heap.size b [] 0 from ⟨⟨.pointer none, .slice none 0 0, by rw [hW1, hb]; exact heap_alloc_new w1 _, .inl rfl, World.ownsRow_nil _ _ _ _⟩, by rw [hb]; exact HB1.out.size⟩)
  have X1' := Aside0.mk (show W1.heap[w.heap.size]? = some (.cells #[.slice A0 1 c0, .slice A1 2 c1, .slice A2 0 c2, .slice A3 0 c3] 28 (0, 0)) by rw [hW1]; exact (heap_old w1 _ HW1.out).trans HW1.out)
  clear hW1 hb y0 y1 y2 y3
  obtain ⟨⟨y0, y1, y2, y3⟩, -⟩ := four_of X1'.out
  go_wp2_with fail
  go_region_held2 (fun w' => w'.cell? ⟨w.heap.size, 0, none⟩ = some (.slice A0 1 c0) ∧ w'.cell? ⟨w.heap.size, 2, none⟩ = some (.slice A2 0 c2)) (first | exact ⟨y0, y2⟩ | go_keep) (first
    | (go_at_call 18; refine (writer_line.calls w.heap.size b W1.heap.size 0 5 [] hdW 5 0 _ (WA.out.below (below_drew1 (below_alloc (Below.refl _ _) _))) (by have := B1.out.size; simp; omega) (lit_cells W1 hdW) (by simp) rfl (by decide) (by decide) (by decide +kernel) (by decide)).mono ?_; rintro r w2 ⟨rfl, hw2, hb2, hk2⟩; have W2 := Aside0.mk (wr_head hw2); have B2 := Aside0.mk ((B1.out.trans ((below_drew1 (below_alloc (Below.refl W1.heap.size W1) _)).mono B1.out.size)).trans hb2); have X2 := Aside0.mk (hk2 _ _ _ _ (by decide) (by decide) (keepT_below (below_drew1 (below_alloc (Below.refl W1.heap.size W1) _)) _ _ _ _ (by decide) (by decide) X1'.out)); clear hw2 hb2 hk2 y0 y1 y2 y3; obtain ⟨⟨y0, y1, y2, y3⟩, -⟩ := four_of X2.out)
    | (go_at_call 19; refine (itoa 1 (by decide) 1 rfl _).mono ?_; rintro r w2 ⟨rfl, hw⟩; obtain rfl := hw.symm)
    | (go_at_call 19; refine (itoa 0 (by decide) 0 rfl _).mono ?_; rintro r w2 ⟨rfl, hw⟩; obtain rfl := hw.symm))
  go_wp2_with fail
  clear y0 y1 y2 y3
  go_loopg [55] 1 (fun gg v55 wr => ∃ j : Nat, v55 = .int .i64 (j : Int) ∧ j ≤ 1 ∧ 1 - j ≤ gg ∧ Aside0 (wr.heap[w.heap.size]? = some (.cells #[.slice A0 1 c0, .slice A1 2 c1, .slice A2 0 c2, .slice A3 0 c3] 28 (0, 0))) ∧ Aside0 (WrAt wr w.heap.size b (outL j 0) 0) ∧ Aside0 (Below w.heap.size w wr))
  case atStart => exact ⟨0, rfl, Nat.zero_le _, Nat.le_refl _, X2, W2, B2⟩
  case round =>
    clear X2 W2 B2 WA X1' B1 HW1 HB1 HW HB
    obtain ⟨j, rfl, hj, hm, HW, WR, HB⟩ := hrel
    obtain ⟨⟨y0, y1, y2, y3⟩, -⟩ := four_of HW.out
    by_cases hjn : j < 1
    · have cjm : decide ((j : Int) < 1) = true := by simp; omega
      have cjm2 : decide (j < 1) = true := by simp; omega
      have p1 : (0 : Int) ≤ (j : Int) := by omega
      have p2 : (j : Int) < 1 := by omega
      have w1' : wrap64 ((j : Int) + 1) = (j : Int) + 1 := by unfold wrap64; omega
      have LJ := Aside0.mk (show (outL j 0).length ≤ 10000 by
        have : j = 0 := by omega
        subst this
        decide +kernel)
      obtain ⟨ad, had, h0, h1, h2⟩ := at_T60 X0.out (j : Int) p1 (show (j : Int) < ((1 : Nat) : Int) by omega)
      cases had
      have hc : rd_T60 xA.cars (j : Int) = ⟨⟨1, 0⟩, 9⟩ := by
        have : j = 0 := by omega
        subst this
        rfl
      rw [hc, Int.toNat_natCast] at h0 h1 h2
      have gh0 := cell_below HB.out h0
      have gh1 := cell_below HB.out h1
      have gh2 := cell_below HB.out h2
      clear h0 h1 h2 hc
      go_upto_region 14 with fail
      obtain ⟨X, hX⟩ : ∃ X, X = wr.alloc (.cells #[.int .i64 1, .int .i64 0, .int .i64 9] 60 (0, 0)) := ⟨_, rfl⟩
      rw [← hX]
      have BXX := Aside0.mk (show Below w.heap.size w X by rw [hX]; exact below_alloc HB.out _)
      have EX := Aside0.mk (show X.heap[wr.heap.size]? = some (.cells #[.int .i64 1, .int .i64 0, .int .i64 9] 60 (0, 0)) by rw [hX]; exact heap_alloc_new wr _)
      have XX := Aside0.mk (show X.heap[w.heap.size]? = some (.cells #[.slice (some ad) 1 c0, .slice A1 2 c1, .slice A2 0 c2, .slice A3 0 c3] 28 (0, 0)) by rw [hX]; exact (heap_old wr _ HW.out).trans HW.out)
      have WX := Aside0.mk (show WrAt X w.heap.size b (outL j 0) 0 by rw [hX]; exact WR.out.below (below_alloc (Below.refl _ _) _))
      clear hX gh0 gh1 gh2 y0 y1 y2 y3
      obtain ⟨x0, x1, x2⟩ := three_of EX.out
      go_region_held2 (fun w' => w'.cell? ⟨wr.heap.size, 0, none⟩ = some (.int .i64 1) ∧ w'.cell? ⟨wr.heap.size, 1, none⟩ = some (.int .i64 0) ∧ w'.cell? ⟨wr.heap.size, 2, none⟩ = some (.int .i64 9)) (first | exact ⟨x0, x1, x2⟩ | go_keep) (first
        | (go_at_call 18; refine (writer_line.calls w.heap.size b g7 0 q7 (outL j 0) carW 4 0 w7 G7.out.wr (Nat.le_trans BXX.out.size G7.out.below.size) C7.out L7.out rfl (by decide) Q7.out (by decide +kernel) (LJ.out)).mono ?_; rintro r w8 ⟨rfl, hw8, hb8, hk8⟩; have W8 := Aside0.mk (wr_car hw8); have B8 := Aside0.mk ((BXX.out.trans (G7.out.below.mono BXX.out.size)).trans hb8); have X8 := Aside0.mk (hk8 _ _ _ _ (by decide) (by decide) ((G7.out.below.block _ (Array.getElem?_eq_some_iff.1 XX.out).1).trans XX.out)); have F8 := Aside0.mk (hk8 _ _ _ _ (by decide) (by decide) G7.out.box); clear hw8 hb8 hk8 x0 x1 x2; obtain ⟨x0, x1, x2⟩ := three_of F8.out)
        | (refine Kd.R_append_rows_step Kd.string (w0 := X) X.heap.size rfl (.tmp 64) (.tmp 69) 38 9 (.string ⟨#[]⟩) 16 rfl Tryz.underlying38 info9 rfl (by decide) (by decide) _ [bCar, dg 1, dg 0] [dg 9] _ _ _ (fun _ => True) (fun _ => False) rfl rfl (G6.out.move (below_alloc (Below.refl _ _) _)).row (lit_C w6 [dg 9] (by decide)) (fun _ _ h => h) (fun _ h => h.elim) (fun _ _ => trivial) (G6.out.move (below_alloc (Below.refl _ _) _)).below (G6.out.move (below_alloc (Below.refl _ _) _)).below.size (by simp) ?_; intro v7 w7 ho hb hg _; have G7 := Aside0.mk ((G6.out.move (below_alloc (Below.refl _ _) _)).grow hg hb ho); clear ho hb hg x0 x1 x2; have D7 := G7.out; obtain ⟨g7, q7, hv7, hq7, hl7, hc7⟩ := row_cells D7.row; subst hv7; have Q7 := Aside0.mk hq7; have L7 := Aside0.mk hl7; have C7 := Aside0.mk hc7; clear hq7 hl7 hc7 D7; obtain ⟨x0, x1, x2⟩ := three_of G7.out.box)
        | (go_at_call 21; refine (writer_deci 9 (dg 9) deci_9 b _ (WrAt.at2 G5.out.wr)).mono ?_; rintro r w6 ⟨rfl, hb6⟩; have G6 := Aside0.mk (G5.out.move hb6); clear hb6 x0 x1 x2; obtain ⟨x0, x1, x2⟩ := three_of G6.out.box)
        | (refine Kd.R_append_rows_step Kd.string (w0 := X) X.heap.size rfl (.tmp 60) (.tmp 63) 38 9 (.string ⟨#[]⟩) 16 rfl Tryz.underlying38 info9 rfl (by decide) (by decide) _ [bCar] [dg 1, dg 0] _ _ _ (fun _ => True) (fun _ => False) rfl rfl (show RowC X w4 w.heap.size b (outL j 0) wr.heap.size (.slice (some ⟨X.heap.size, 0, none⟩) 1 1) [bCar] from ⟨lit_R (ws := [bCar]) K60.out (Nat.le_refl _) (by simp), WX.out.below B4.out, E4.out, B4.out⟩).row R4.out (fun _ _ h => h) (fun _ h => h.elim) (fun _ _ => trivial) B4.out B4.out.size (by simp) ?_; intro v5 w5 ho hb hg _; have G5 := Aside0.mk (RowC.grow (show RowC X w4 w.heap.size b (outL j 0) wr.heap.size (.slice (some ⟨X.heap.size, 0, none⟩) 1 1) [bCar] from ⟨lit_R (ws := [bCar]) K60.out (Nat.le_refl _) (by simp), WX.out.below B4.out, E4.out, B4.out⟩) hg hb ho); clear ho hb hg; have D5 := G5.out; obtain ⟨g5, q5, hv5, hq5, -, -⟩ := row_cells D5.row; subst hv5; clear hq5 D5 x0 x1 x2; obtain ⟨x0, x1, x2⟩ := three_of G5.out.box)
        | (refine Kd.R_append_rows_step Kd.string (w0 := X) X.heap.size rfl (.tmp 60) (.tmp 63) 38 9 (.string ⟨#[]⟩) 16 rfl Tryz.underlying38 info9 rfl (by decide) (by decide) _ [bCar] [dg 1, dg 0] _ _ _ (fun _ => True) (fun _ => False) rfl rfl (show RowC X (w4.alloc (.cells #[.string bCar] 9 (0, 0))) w.heap.size b (outL j 0) wr.heap.size (.slice (some ⟨w4.heap.size, 0, none⟩) 1 1) [bCar] from ⟨lit_R (ws := [bCar]) (heap_alloc_new w4 _) B4.out.size (by simp), WX.out.below (B4.out.trans ((below_alloc (Below.refl w4.heap.size w4) _).mono B4.out.size)), (heap_old w4 _ E4.out).trans E4.out, B4.out.trans ((below_alloc (Below.refl w4.heap.size w4) _).mono B4.out.size)⟩).row (Kd.C_alloc R4.out _) (fun _ _ h => h) (fun _ h => h.elim) (fun _ _ => trivial) (show RowC X (w4.alloc (.cells #[.string bCar] 9 (0, 0))) w.heap.size b (outL j 0) wr.heap.size (.slice (some ⟨w4.heap.size, 0, none⟩) 1 1) [bCar] from ⟨lit_R (ws := [bCar]) (heap_alloc_new w4 _) B4.out.size (by simp), WX.out.below (B4.out.trans ((below_alloc (Below.refl w4.heap.size w4) _).mono B4.out.size)), (heap_old w4 _ E4.out).trans E4.out, B4.out.trans ((below_alloc (Below.refl w4.heap.size w4) _).mono B4.out.size)⟩).below (show RowC X (w4.alloc (.cells #[.string bCar] 9 (0, 0))) w.heap.size b (outL j 0) wr.heap.size (.slice (some ⟨w4.heap.size, 0, none⟩) 1 1) [bCar] from ⟨lit_R (ws := [bCar]) (heap_alloc_new w4 _) B4.out.size (by simp), WX.out.below (B4.out.trans ((below_alloc (Below.refl w4.heap.size w4) _).mono B4.out.size)), (heap_old w4 _ E4.out).trans E4.out, B4.out.trans ((below_alloc (Below.refl w4.heap.size w4) _).mono B4.out.size)⟩).below.size (by simp) ?_; intro v5 w5 ho hb hg _; have G5 := Aside0.mk (RowC.grow (show RowC X (w4.alloc (.cells #[.string bCar] 9 (0, 0))) w.heap.size b (outL j 0) wr.heap.size (.slice (some ⟨w4.heap.size, 0, none⟩) 1 1) [bCar] from ⟨lit_R (ws := [bCar]) (heap_alloc_new w4 _) B4.out.size (by simp), WX.out.below (B4.out.trans ((below_alloc (Below.refl w4.heap.size w4) _).mono B4.out.size)), (heap_old w4 _ E4.out).trans E4.out, B4.out.trans ((below_alloc (Below.refl w4.heap.size w4) _).mono B4.out.size)⟩) hg hb ho); clear ho hb hg; have D5 := G5.out; obtain ⟨g5, q5, hv5, hq5, -, -⟩ := row_cells D5.row; subst hv5; clear hq5 D5 x0 x1 x2; obtain ⟨x0, x1, x2⟩ := three_of G5.out.box)
        | (go_at_call 20; refine (sheet_words.calls 1 0 (by decide) (by decide) 1 0 rfl rfl _).mono ?_; rintro r w4 ⟨v4, rfl, hR4, hb4⟩; obtain ⟨A4, q4, rfl, hq4, hC4⟩ := Kd.R_reads hR4; have R4 := Aside0.mk hC4; have B4 := Aside0.mk (show Below X.heap.size X w4 by first | exact (below_drew1 (Below.refl X.heap.size X)).trans (hb4.mono (by simp)) | exact (below_drew1 (below_alloc (Below.refl X.heap.size X) (.cells #[.string bCar] 9 (0, 0)))).trans (hb4.mono (by simp))); (try (have K60 := Aside0.mk (show w4.heap[X.heap.size]? = some (.cells #[.string bCar] 9 (0, 0)) from (hb4.block _ (by simp)).trans (heap_alloc_new X (.cells #[.string bCar] 9 (0, 0)))))); have E4 := Aside0.mk ((B4.out.block _ (Array.getElem?_eq_some_iff.1 EX.out).1).trans EX.out); clear hR4 hb4 hq4 hC4 x0 x1 x2; obtain ⟨x0, x1, x2⟩ := three_of E4.out))
      all_goals
        go_wp2_with fail
        go_roundg (1 - (j + 1))
        case measure => omega
        case rel => exact ⟨j + 1, by first | rfl | go_num, by omega, Nat.le_refl _, X8, W8, B8⟩
    · have cjm : decide ((j : Int) < 1) = false := by simp; omega
      have cjm2 : decide (j < 1) = false := by simp; omega
      have WR1 := Aside0.mk (show WrAt wr w.heap.size b (outL 1 0) 0 from (show j = 1 by omega) ▸ WR.out)
      clear hj hm hjn
      go_wp2_with fail
      clear y0 y1 y2 y3 cjm cjm2
      go_loopg [76] 2 (fun gg v76 wr => ∃ j : Nat, v76 = .int .i64 (j : Int) ∧ j ≤ 2 ∧ 2 - j ≤ gg ∧ Aside0 (wr.heap[w.heap.size]? = some (.cells #[.slice A0 1 c0, .slice A1 2 c1, .slice A2 0 c2, .slice A3 0 c3] 28 (0, 0))) ∧ Aside0 (WrAt wr w.heap.size b (outL 1 j) 0) ∧ Aside0 (Below w.heap.size w wr))
      case atStart => exact ⟨0, rfl, Nat.zero_le _, Nat.le_refl _, HW, WR1, HB⟩
      case round =>
        clear HW WR WR1 HB
        obtain ⟨j, rfl, hj, hm, HW, WR, HB⟩ := hrel
        obtain ⟨⟨y0, y1, y2, y3⟩, -⟩ := four_of HW.out
        by_cases hjn : j < 2
        · have cjm : decide ((j : Int) < 2) = true := by simp; omega
          have cjm2 : decide (j < 2) = true := by simp; omega
          have p1 : (0 : Int) ≤ (j : Int) := by omega
          have p2 : (j : Int) < 2 := by omega
          have w1' : wrap64 ((j : Int) + 1) = (j : Int) + 1 := by unfold wrap64; omega
          have LJ := Aside0.mk (show (outL 1 j).length ≤ 5000 by
            rcases (show j = 0 ∨ j = 1 by omega) with rfl | rfl <;> decide +kernel)
          obtain ⟨ad, had, h0, h1, h2, h3, h4, h5⟩ := at_T63 X1.out (j : Int) p1 (show (j : Int) < ((2 : Nat) : Int) by omega)
          cases had
          have hc : rd_T63 xA.stops (j : Int) = ⟨⟨0, 0⟩, 0, 0, 9, (z0, z0)⟩ := by
            rcases (show j = 0 ∨ j = 1 by omega) with rfl | rfl <;> rfl
          rw [hc, Int.toNat_natCast] at h0 h1 h2 h3 h4 h5
          have gh0 := cell_below HB.out h0
          have gh1 := cell_below HB.out h1
          have gh2 := cell_below HB.out h2
          have gh3 := cell_below HB.out h3
          have gh4 := cell_below HB.out h4
          have gh5 := cell_below HB.out h5
          clear h0 h1 h2 h3 h4 h5 hc
          go_upto_region 19 with fail
          obtain ⟨X, hX⟩ : ∃ X, X = wr.alloc (stopO z0) := ⟨_, rfl⟩
          rw [← hX]
          have BXX := Aside0.mk (show Below w.heap.size w X by rw [hX]; exact below_alloc HB.out _)
          have EX := Aside0.mk (show X.heap[wr.heap.size]? = some (stopO z0) by rw [hX]; exact heap_alloc_new wr _)
          have XX := Aside0.mk (show X.heap[w.heap.size]? = some (.cells #[.slice A0 1 c0, .slice (some ad) 2 c1, .slice A2 0 c2, .slice A3 0 c3] 28 (0, 0)) by rw [hX]; exact (heap_old wr _ HW.out).trans HW.out)
          have WX := Aside0.mk (show WrAt X w.heap.size b (outL 1 j) 0 by rw [hX]; exact WR.out.below (below_alloc (Below.refl _ _) _))
          clear hX gh0 gh1 gh2 gh3 gh4 gh5 y0 y1 y2 y3
          obtain ⟨⟨x0, x1, x2, x3, x4, x5⟩, -⟩ := six_of EX.out
          go_wp2_with (first | (go_at_call 22; refine (writer_stop.calls w.heap.size b (outL 1 j) z0 X WX.out BXX.out.size spot_z0 LJ.out).mono ?_; rintro r w8 ⟨rfl, hw8, hb8, hk8⟩; have W8 := Aside0.mk (wr_st hw8); have B8 := Aside0.mk (BXX.out.trans hb8); have X8 := Aside0.mk (hk8 _ _ _ _ (by decide) (by decide) XX.out); clear hw8 hb8 hk8 x0 x1 x2 x3 x4 x5))
          go_roundg (2 - (j + 1))
          case measure => omega
          case rel => exact ⟨j + 1, by first | rfl | go_num, by omega, Nat.le_refl _, X8, W8, B8⟩
        · have cjm : decide ((j : Int) < 2) = false := by simp; omega
          have cjm2 : decide (j < 2) = false := by simp; omega
          have WR1 := Aside0.mk (show WrAt wr w.heap.size b (outL 1 2) 0 from (show j = 2 by omega) ▸ WR.out)
          clear hj hm hjn
          go_wp2_with fail
          clear y0 y1 y2 y3 cjm cjm2
          go_loopg [89] 0 (fun gg v89 wr => v89 = .int .i64 0 ∧ Aside0 (wr.heap[w.heap.size]? = some (.cells #[.slice A0 1 c0, .slice A1 2 c1, .slice A2 0 c2, .slice A3 0 c3] 28 (0, 0))) ∧ Aside0 (WrAt wr w.heap.size b (outL 1 2) 0) ∧ Aside0 (Below w.heap.size w wr))
          case atStart => exact ⟨rfl, HW, WR1, HB⟩
          case round =>
            clear HW WR WR1 HB
            obtain ⟨rfl, HW, WR1, HB⟩ := hrel
            obtain ⟨⟨y0, y1, y2, y3⟩, -⟩ := four_of HW.out
            go_wp2_with fail
            clear y0 y1 y2 y3
            go_loopg [103] 0 (fun gg v103 wr => v103 = .int .i64 0 ∧ Aside0 (wr.heap[w.heap.size]? = some (.cells #[.slice A0 1 c0, .slice A1 2 c1, .slice A2 0 c2, .slice A3 0 c3] 28 (0, 0))) ∧ Aside0 (WrAt wr w.heap.size b (outL 1 2) 0) ∧ Aside0 (Below w.heap.size w wr))
            case atStart => exact ⟨rfl, HW, WR1, HB⟩
            case round =>
              clear HW WR1 HB
              obtain ⟨rfl, HW, WR1, HB⟩ := hrel
              go_wp2_with (first | (go_at_call 23; refine (wr_String w.heap.size b (outL 1 2) 0 _ WR1.out (by decide +kernel)).mono ?_; rintro r w9 ⟨rfl, hb9⟩; have B9 := Aside0.mk (HB.out.trans hb9); clear hb9))
              go_ret2
              exact ⟨rfl, B9.out⟩
end Go.Proofs.YtcdmndhaeiccoaaGreatDoor.P
