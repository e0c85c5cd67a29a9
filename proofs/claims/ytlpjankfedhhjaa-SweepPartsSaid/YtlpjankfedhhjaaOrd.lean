/- The sample's instance; its spots; the order of a list's requests (seat 17). -/
import Derived.Test.YtlpjankfedhhjaaSome3
import Derived.Handy
namespace Go.Proofs.Ytlpjankfedhhjaa.P
open Go.Proofs.YtlpjankfedhhjaaR
open Go.Shelf Go.Sort
open Go.RowKit Go.Proofs.YtlpjankfedhhjaaW.PrintWords Go.Proofs.YtlpjankfedhhjaaW.PrintLast Go.Proofs.YtlpjankfedhhjaaW.PrintMore
set_option linter.unusedVariables false
set_option linter.unusedSimpArgs false
set_option maxHeartbeats 8000000
set_option maxRecDepth 100000
def stopZ : Array Value := #[.int .i64 0, .int .i64 0, .int .i64 0, .int .i64 0, .int .i64 0, .complex .f64 0 0, .int .i64 0, .int .i64 0, .int .i64 0, .int .i64 0, .int .i64 0, .complex .f64 0 0, .int .i64 0, .int .i64 0, .int .i64 0, .int .i64 0, .int .i64 0, .complex .f64 0 0, .int .i64 0, .int .i64 0, .int .i64 0, .int .i64 0, .int .i64 0, .complex .f64 0 0, .int .i64 0, .int .i64 0, .int .i64 0, .int .i64 0, .int .i64 0, .complex .f64 0 0, .int .i64 0, .int .i64 0, .int .i64 0, .int .i64 0, .int .i64 0, .complex .f64 0 0, .int .i64 0, .int .i64 0, .int .i64 0, .int .i64 0, .int .i64 0, .complex .f64 0 0, .int .i64 0, .int .i64 0, .int .i64 0, .int .i64 0, .int .i64 0, .complex .f64 0 0, .int .i64 0, .int .i64 0, .int .i64 0, .int .i64 0, .int .i64 0, .complex .f64 0 0, .int .i64 0, .int .i64 0, .int .i64 0, .int .i64 0, .int .i64 0, .complex .f64 0 0]
theorem make_cars (w : World) : (Instr.makeSlice 29 (.int .i64 2) (.int .i64 2)).run Try.prog w = .ok (.slice (some ⟨w.heap.size, 0, none⟩) 2 2) (w.alloc (.cells #[.int .i64 0, .int .i64 0, .int .i64 0, .int .i64 0, .int .i64 0, .int .i64 0] 119)) := by kernel_rfl
theorem make_rides (w : World) : (Instr.makeSlice 31 (.int .i64 4) (.int .i64 4)).run Try.prog w = .ok (.slice (some ⟨w.heap.size, 0, none⟩) 4 4) (w.alloc (.cells #[.int .i64 0, .int .i64 0, .int .i64 0, .int .i64 0] 2)) := by kernel_rfl
theorem make_stops (w : World) : (Instr.makeSlice 30 (.int .i64 10) (.int .i64 10)).run Try.prog w = .ok (.slice (some ⟨w.heap.size, 0, none⟩) 10 10) (w.alloc (.cells stopZ 45)) := by kernel_rfl
def pX (i : Nat) : Nat := [0, 0, 4607182418800017408, 13830554455654793216, 0].getD i 0
def pY (i : Nat) : Nat := [0, 13830554455654793216, 0, 0, 4607182418800017408].getD i 0
/-- The sample's stops: the first five have their spots. -/
structure Samp (w : World) (gs : Nat) : Prop where
  lt : gs < w.heap.size
  cell : ∀ i, i < 5 → w.cell? ⟨gs, 6 * i + 5, none⟩ = some (.complex .f64 (pX i) (pY i))
theorem Samp.here {w w' : World} {gs : Nat} (h : Samp w gs) (hb : Below w.heap.size w w') : Samp w' gs :=
  ⟨Nat.lt_of_lt_of_le h.lt hb.size, fun i hi => (hb.cell (p := ⟨gs, 6 * i + 5, none⟩) h.lt).trans (h.cell i hi)⟩
theorem SampRound.fin {w wc wr : World} {b gc gs gr j x y : Nat} {cells : Array Value} {row : List Value} (hx : pX j = x) (hy : pY j = y) (hb : wr.heap[gs]? = some (.cells cells 45 (0, 0))) (hs : cells.size = 60)
    (hc : ∀ i, i < j → cells[6 * i + 5]? = some (.complex .f64 (pX i) (pY i))) (HX : Aside0 (Box wr b gc gs gr)) (HR : Aside0 (RowAt wr wc.heap.size row)) (HB : Aside0 (Below w.heap.size w wr)) (HL : Aside0 (wc.heap.size < wr.heap.size))
    (HZ : Aside0 (wr.heap[w.heap.size]? = some (.cells #[.slice none 0 0, .slice none 0 0, .slice none 0 0, .slice none 0 0] 34 (0, 0)))) (n1 : b ≠ gs) (n2 : w.heap.size < gs) (n3 : w.heap.size < b) (hgs : gs < wc.heap.size) (hj : j < 5) :
    ∃ j' : Nat, Value.int .i64 ((j : Int) + 1) = .int .i64 (j' : Int) ∧ j' ≤ 5 ∧ 5 - j' ≤ 4 - j ∧ Aside0 (∃ cells, (wr.setCell ⟨gs, 6 * j + 5, none⟩ (.complex .f64 x y)).heap[gs]? = some (.cells cells 45 (0, 0)) ∧ cells.size = 60 ∧ ∀ i, i < j' → cells[6 * i + 5]? = some (.complex .f64 (pX i) (pY i))) ∧
      Aside0 (Box (wr.setCell ⟨gs, 6 * j + 5, none⟩ (.complex .f64 x y)) b gc gs gr) ∧ Aside0 (RowAt (wr.setCell ⟨gs, 6 * j + 5, none⟩ (.complex .f64 x y)) wc.heap.size row) ∧ Aside0 (Below w.heap.size w (wr.setCell ⟨gs, 6 * j + 5, none⟩ (.complex .f64 x y))) ∧
      Aside0 (wc.heap.size < (wr.setCell ⟨gs, 6 * j + 5, none⟩ (.complex .f64 x y)).heap.size) ∧ Aside0 ((wr.setCell ⟨gs, 6 * j + 5, none⟩ (.complex .f64 x y)).heap[w.heap.size]? = some (.cells #[.slice none 0 0, .slice none 0 0, .slice none 0 0, .slice none 0 0] 34 (0, 0))) := by
  have other : ∀ (g o : Nat), g ≠ gs → (wr.setCell ⟨gs, 6 * j + 5, none⟩ (.complex .f64 x y)).cell? ⟨g, o, none⟩ = wr.cell? ⟨g, o, none⟩ := fun g o hne => World.cell?_of_block (Below.heap_setCell wr ⟨gs, 6 * j + 5, none⟩ _ g hne)
  have hsz : (wr.setCell ⟨gs, 6 * j + 5, none⟩ (.complex .f64 x y)).heap.size = wr.heap.size := by simp
  refine ⟨j + 1, by simp, by omega, by omega, ⟨_, blk_set hb (6 * j + 5) _, by simpa using hs, fun i hi => ?_⟩, ⟨⟨by rw [hsz]; exact HX.out.lt, ?_, ?_, ?_, ?_⟩⟩, ⟨fun i v hv => ?_⟩, ⟨below_set HB.out (Nat.le_of_lt n2)⟩, ⟨by rw [hsz]; exact HL.out⟩, ⟨?_⟩⟩
  · by_cases e : i = j
    · subst e
      rw [Array.getElem?_setIfInBounds_self_of_lt (by omega), hx, hy]
    · rw [Array.getElem?_setIfInBounds_ne (by omega)]
      exact hc i (by omega)
  · rw [other _ _ n1]; exact HX.out.c0
  · rw [other _ _ n1]; exact HX.out.c1
  · rw [other _ _ n1]; exact HX.out.c2
  · rw [other _ _ n1]; exact HX.out.c3
  · rw [other _ _ (by omega)]; exact HR.out i v hv
  · rw [Below.heap_setCell wr ⟨gs, 6 * j + 5, none⟩ _ _ (by show w.heap.size ≠ gs; omega)]
    exact HZ.out
theorem SampRound.end_ {w wr : World} {gc gs gr : Nat} (HC : ∃ cells, wr.heap[gs]? = some (.cells cells 45 (0, 0)) ∧ cells.size = 60 ∧ ∀ i, i < 5 → cells[6 * i + 5]? = some (.complex .f64 (pX i) (pY i))) (HB : Below w.heap.size w wr)
    (HZ : wr.heap[w.heap.size]? = some (.cells #[.slice none 0 0, .slice none 0 0, .slice none 0 0, .slice none 0 0] 34 (0, 0))) (n2 : w.heap.size < gs) :
    let W := (((wr.setCell ⟨w.heap.size, 0, none⟩ (.slice (some ⟨gc, 0, none⟩) 2 2)).setCell ⟨w.heap.size, 1, none⟩ (.slice (some ⟨gs, 0, none⟩) 10 10)).setCell ⟨w.heap.size, 2, none⟩ (.slice (some ⟨gr, 0, none⟩) 4 4)).setCell ⟨w.heap.size, 3, none⟩ (.slice none 0 0)
    W.cell? ⟨w.heap.size, 0, none⟩ = some (.slice (some ⟨gc, 0, none⟩) 2 2) ∧ W.cell? ⟨w.heap.size, 1, none⟩ = some (.slice (some ⟨gs, 0, none⟩) 10 10) ∧ W.cell? ⟨w.heap.size, 2, none⟩ = some (.slice (some ⟨gr, 0, none⟩) 4 4) ∧ W.cell? ⟨w.heap.size, 3, none⟩ = some (.slice none 0 0) ∧ Samp W gs ∧ Below w.heap.size w W := by
  intro W
  have h4 := blk_set (blk_set (blk_set (blk_set HZ 0 (.slice (some ⟨gc, 0, none⟩) 2 2)) 1 (.slice (some ⟨gs, 0, none⟩) 10 10)) 2 (.slice (some ⟨gr, 0, none⟩) 4 4)) 3 (.slice none 0 0)
  obtain ⟨cells, hb, hs, hc⟩ := HC
  have hW : W.heap[gs]? = some (.cells cells 45 (0, 0)) := by
    show ((((wr.setCell ⟨w.heap.size, 0, none⟩ _).setCell ⟨w.heap.size, 1, none⟩ _).setCell ⟨w.heap.size, 2, none⟩ _).setCell ⟨w.heap.size, 3, none⟩ _).heap[gs]? = _
    rw [Below.heap_setCell _ ⟨w.heap.size, 3, none⟩ _ _ (by show gs ≠ w.heap.size; omega), Below.heap_setCell _ ⟨w.heap.size, 2, none⟩ _ _ (by show gs ≠ w.heap.size; omega), Below.heap_setCell _ ⟨w.heap.size, 1, none⟩ _ _ (by show gs ≠ w.heap.size; omega), Below.heap_setCell _ ⟨w.heap.size, 0, none⟩ _ _ (by show gs ≠ w.heap.size; omega)]
    exact hb
  refine ⟨(blk_cell h4 0).trans rfl, (blk_cell h4 1).trans rfl, (blk_cell h4 2).trans rfl, (blk_cell h4 3).trans rfl, ⟨?_, fun i hi => (blk_cell hW (6 * i + 5)).trans (hc i hi)⟩, below_set (below_set (below_set (below_set HB (Nat.le_refl _)) (Nat.le_refl _)) (Nat.le_refl _)) (Nat.le_refl _)⟩
  rcases Nat.lt_or_ge gs W.heap.size with h | h
  · exact h
  · rw [Array.getElem?_eq_none h] at hW; cases hW
theorem run_store_complex {P : Program} {w : World} {a : Addr} (k : FloatKind) (x y : Nat) (m : Mode) : (store a (.complex k x y) m).run P w = stored P w a (.complex k x y) m := run_store P w a _ m rfl
attribute [local go_sem] run_store_complex
theorem sample.calls (w : World) : Calls Try.prog 9 #[] w fun e w' => ∃ gc gs gr, e = .returned (.agg #[.slice (some ⟨gc, 0, none⟩) 2 2, .slice (some ⟨gs, 0, none⟩) 10 10, .slice (some ⟨gr, 0, none⟩) 4 4, .slice none 0 0]) ∧ Samp w' gs ∧ Below w.heap.size w w' := by
  have m1 := make_cars
  have m2 := make_rides
  have m3 := make_stops
  go_enter Try.func9, Try.ntmps9
  go_wp2
  go_cut [1, 4, 5, 6] (fun v1 v4 v5 v6 wc => ∃ gc gs gr b, v1 = .pointer (some ⟨b, 0, none⟩) ∧ v4 = .slice (some ⟨gc, 0, none⟩) 2 2 ∧ v5 = .slice (some ⟨gr, 0, none⟩) 4 4 ∧ v6 = .slice (some ⟨gs, 0, none⟩) 10 10 ∧ Aside0 (b ≠ gs) ∧ Aside0 (w.heap.size < gs) ∧ Aside0 (w.heap.size < b) ∧ Aside0 (wc.heap[gs]? = some (.cells stopZ 45 (0, 0))) ∧ Aside0 (wc.heap[w.heap.size]? = some (.cells #[.slice none 0 0, .slice none 0 0, .slice none 0 0, .slice none 0 0] 34 (0, 0))) ∧ Aside0 (Box wc b gc gs gr) ∧ Aside0 (Below w.heap.size w wc))
  case first =>
    go_region
    all_goals (go_step; go_step; go_meet)
    all_goals refine ⟨_, _, _, _, rfl, rfl, rfl, rfl, ⟨by omega⟩, ⟨by omega⟩, ⟨by omega⟩, ⟨?_⟩, ⟨?_⟩, ⟨?_⟩, ⟨?_⟩⟩
    all_goals first
      | ((repeat (first | exact Below.refl _ _ | apply below_alloc | apply below_drew1 | apply pw_below_drewN | (refine below_set ?_ (by omega)))); done)
      | (refine ⟨?_, ?_, ?_, ?_, ?_⟩ <;> (first | (unfold World.drew World.alloc; simp only [Array.size_push]; omega) | (unfold World.cell? World.drew World.alloc; simp only [Array.getElem?_push, Array.size_push]; (repeat (first | rw [if_pos trivial] | rw [if_neg (by omega)] | rw [if_pos (by omega)])); rfl)))
      | (unfold World.drew World.alloc; simp only [Array.getElem?_push, Array.size_push]; (repeat (first | rw [if_pos trivial] | rw [if_neg (by omega)] | rw [if_pos (by omega)])))
  case rest =>
    clear m1 m2 m3
    obtain ⟨gc, gs, gr, b, rfl, rfl, rfl, rfl, N1, N2, N3, HS, HZ, HX, HB⟩ := hcut
    have hx0 := HX.out.c0
    have hx1 := HX.out.c1
    have hx2 := HX.out.c2
    have hx3 := HX.out.c3
    have hgs : gs < wc.heap.size := by
      rcases Nat.lt_or_ge gs wc.heap.size with h | h
      · exact h
      · have := HS.out; rw [Array.getElem?_eq_none h] at this; cases this
    have HG := Aside0.mk hgs
    clear hgs
    go_wp2
    go_loopg [2, 3, 10] 5 (fun gg v2 v3 v10 wr => ∃ j : Nat, v10 = .int .i64 (j : Int) ∧ j ≤ 5 ∧ 5 - j ≤ gg ∧ Aside0 (∃ cells, wr.heap[gs]? = some (.cells cells 45 (0, 0)) ∧ cells.size = 60 ∧ ∀ i, i < j → cells[6 * i + 5]? = some (.complex .f64 (pX i) (pY i))) ∧ Aside0 (Box wr b gc gs gr) ∧ Aside0 (RowAt wr wc.heap.size [.complex .f64 0 0, .complex .f64 0 13830554455654793216, .complex .f64 4607182418800017408 0, .complex .f64 13830554455654793216 0, .complex .f64 0 4607182418800017408]) ∧ Aside0 (Below w.heap.size w wr) ∧ Aside0 (wc.heap.size < wr.heap.size) ∧ Aside0 (wr.heap[w.heap.size]? = some (.cells #[.slice none 0 0, .slice none 0 0, .slice none 0 0, .slice none 0 0] 34 (0, 0))))
    case atStart =>
      refine ⟨0, rfl, Nat.zero_le _, Nat.le_refl _, ⟨stopZ, ?_, rfl, fun i hi => absurd hi (Nat.not_lt_zero _)⟩, ⟨HX.out.here (below_alloc (Below.refl _ _) _)⟩, ⟨rowAt_new _ _ _⟩, ⟨below_alloc HB.out _⟩, ⟨by simp⟩, ⟨((below_alloc (Below.refl wc.heap.size wc) _).block w.heap.size (Nat.lt_trans N2.out HG.out)).trans HZ.out⟩⟩
      exact ((below_alloc (Below.refl wc.heap.size wc) _).block gs HG.out).trans HS.out
    case round =>
      clear hx0 hx1 hx2 hx3 HX HB HZ
      obtain ⟨j, rfl, hj, hm, HC, HX, HR, HB, HL, HZ⟩ := hrel
      have hx0 := HX.out.c0
      have hx1 := HX.out.c1
      have hx2 := HX.out.c2
      have hx3 := HX.out.c3
      by_cases hj5 : j < 5
      · have r0 := HR.out 0 _ rfl
        have r1 := HR.out 1 _ rfl
        have r2 := HR.out 2 _ rfl
        have r3 := HR.out 3 _ rfl
        have r4 := HR.out 4 _ rfl
        obtain ⟨cells, hb, hs, hc⟩ := HC.out
        have l1 : wr.cell? ⟨gs, 6 * j + 5, none⟩ = some (cells[6 * j + 5]!) := by rw [blk_cell hb (6 * j + 5), getElem!_pos _ _ (by omega)]; exact Array.getElem?_eq_getElem (by omega)
        have l2 := blk_frozen hb (6 * j + 5)
        generalize cells[6 * j + 5]! = x at l1
        have HQ := Aside0.mk (And.intro hb (And.intro hs hc))
        clear hb hs hc HC
        rcases (show j = 0 ∨ j = 1 ∨ j = 2 ∨ j = 3 ∨ j = 4 by omega) with rfl | rfl | rfl | rfl | rfl
        all_goals
          simp only [Nat.reduceMul, Nat.reduceAdd] at l1 l2
          go_wp2
        all_goals
          clear l1 l2 hx0 hx1 hx2 hx3 r0 r1 r2 r3 r4
          obtain ⟨hb, hs, hc⟩ := HQ.out
        · go_roundg 4
          case measure => omega
          case rel => exact SampRound.fin (j := 0) (x := 0) (y := 0) rfl rfl hb hs hc HX HR HB HL HZ N1.out N2.out N3.out HG.out (by omega)
        · go_roundg 3
          case measure => omega
          case rel => exact SampRound.fin (j := 1) (x := 0) (y := 13830554455654793216) rfl rfl hb hs hc HX HR HB HL HZ N1.out N2.out N3.out HG.out (by omega)
        · go_roundg 2
          case measure => omega
          case rel => exact SampRound.fin (j := 2) (x := 4607182418800017408) (y := 0) rfl rfl hb hs hc HX HR HB HL HZ N1.out N2.out N3.out HG.out (by omega)
        · go_roundg 1
          case measure => omega
          case rel => exact SampRound.fin (j := 3) (x := 13830554455654793216) (y := 0) rfl rfl hb hs hc HX HR HB HL HZ N1.out N2.out N3.out HG.out (by omega)
        · go_roundg 0
          case measure => omega
          case rel => exact SampRound.fin (j := 4) (x := 0) (y := 4607182418800017408) rfl rfl hb hs hc HX HR HB HL HZ N1.out N2.out N3.out HG.out (by omega)
      · obtain rfl : j = 5 := by omega
        have z0 := blk_cell HZ.out 0
        have z1 := blk_cell HZ.out 1
        have z2 := blk_cell HZ.out 2
        have z3 := blk_cell HZ.out 3
        have f0 := blk_frozen HZ.out 0
        have f1 := blk_frozen HZ.out 1
        have f2 := blk_frozen HZ.out 2
        have f3 := blk_frozen HZ.out 3
        simp at z0 z1 z2 z3
        have HF := Aside0.mk (SampRound.end_ (gc := gc) (gr := gr) HC.out HB.out HZ.out N2.out)
        go_wp2
        obtain ⟨W4, hW4⟩ : ∃ W4, W4 = (((wr.setCell ⟨w.heap.size, 0, none⟩ (.slice (some ⟨gc, 0, none⟩) 2 2)).setCell ⟨w.heap.size, 1, none⟩ (.slice (some ⟨gs, 0, none⟩) 10 10)).setCell ⟨w.heap.size, 2, none⟩ (.slice (some ⟨gr, 0, none⟩) 4 4)).setCell ⟨w.heap.size, 3, none⟩ (.slice none 0 0) := ⟨_, rfl⟩
        rw [← hW4] at HF ⊢
        obtain ⟨y0, y1, y2, y3, hS, hBl⟩ := HF.out
        clear z0 z1 z2 z3 f0 f1 f2 f3 hW4
        (try simp only [Exit.inBlock, Exit.then])
        refine bodyPost_ret (by simp [results, Try.results9, go_sem, y0, y1, y2, y3]; try rfl) rfl ?_
        first | exact ⟨gc, gs, gr, rfl, hS, hBl⟩ | exact ⟨gc, gs, ⟨gr, rfl⟩, hS, hBl⟩
end Go.Proofs.Ytlpjankfedhhjaa.P
