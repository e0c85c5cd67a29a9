/- The loads of an instance. -/
import Derived.Test.YtcdmndhaeiccoaaGreatDoorMkit
import Derived.Test.YtcdmndhaeiccoaaGreatDoorM14
import Derived.Test.YtcdmndhaeiccoaaGreatDoorM10
namespace Go.Proofs.YtcdmndhaeiccoaaGreatDoor.P
open Go Go.Proofs.YtcdmndhaeiccoaaGreatDoorR
open Go.Shelf Go.Sort
open Go.RowKit Go.Proofs.YtcdmndhaeiccoaaGreatDoorW.PrintWords Go.Proofs.YtcdmndhaeiccoaaGreatDoorW.PrintLast
set_option linter.unusedVariables false
set_option linter.unusedSimpArgs false
set_option maxHeartbeats 8000000
set_option maxRecDepth 100000
attribute [local go_sem] run_store_complex
attribute [local go_sem high] eqA58
def Sm (a : Int) : Prop := -1000 ≤ a ∧ a ≤ 1000
theorem neg_is (a b : Int) (ha : Sm a) (hb : Sm b) : load_Neg.f a b = some (-a, -b) := by
  obtain ⟨h1, h2⟩ := ha
  obtain ⟨h3, h4⟩ := hb
  have e1 : wrap64 (-a) = -a := by unfold wrap64; omega
  have e2 : wrap64 (-b) = -b := by unfold wrap64; omega
  have c1 : a ≥ -1073741824 := by omega
  have c2 : a ≤ 1073741824 := by omega
  have c3 : b ≥ -1073741824 := by omega
  have c4 : b ≤ 1073741824 := by omega
  simp only [load_Neg.f, load_may.f, load_within.f, if_pos c1, if_pos c2, if_pos c3, decide_eq_true c4, Option.bind_some, if_true, e1, e2]
theorem neg_calls (a b : Int) (ha : Sm a) (hb : Sm b) (w : World) : Calls Tryz.prog 71 #[.agg #[.int .i64 a, .int .i64 b]] w fun e w' => e = .returned (.agg #[.int .i64 (-a), .int .i64 (-b)]) ∧ Below w.heap.size w w' := load_Neg.calls a b (-a) (-b) w (neg_is a b ha hb)
def loadBad (n : Nat) (st : List S63) (j : Nat) : Bool :=
  if j = 0 ∨ j = 2 * n + 1 then !((rd_T63 st (j : Int)).f0.f0 == 0 && (rd_T63 st (j : Int)).f0.f1 == 0) || !((rd_T63 st (j : Int)).f1 == 0)
  else if j ≤ n then !capB (rd_T63 st (j : Int)).f0.f0 (rd_T63 st (j : Int)).f0.f1
  else !((rd_T63 st (j : Int)).f0.f0 == -(rd_T63 st ((j - n : Nat) : Int)).f0.f0 && (rd_T63 st (j : Int)).f0.f1 == -(rd_T63 st ((j - n : Nat) : Int)).f0.f1)
/-- A round of the loop ends so: at once, or with the next number. -/
theorem heap_old {g : Nat} {o : Obj} (w : World) (O : Obj) (h : w.heap[g]? = some o) : (w.alloc O).heap[g]? = w.heap[g]? := (below_alloc (Below.refl w.heap.size w) O).block g (Array.getElem?_eq_some_iff.1 h).1
theorem inst_loads.calls' (p : Lie) (x : InstP) (w : World) (h : InC w p x) (hn : x.stops.length = 2 * x.rides.length + 2) (hb : x.stops.length ≤ 4096) (hs : ∀ s ∈ x.stops, Sm s.f0.f0 ∧ Sm s.f0.f1) :
    Calls Tryz.prog 35 #[.agg (instCs p x)] w fun e w' => e = .returned (.bool (!(List.range x.stops.length).any (loadBad x.rides.length x.stops))) ∧ Below w.heap.size w w' := by
  obtain ⟨A0, c0, A1, c1, A2, c2, A3, c3⟩ := p
  have HX := Aside0.mk h.h1
  show Calls Tryz.prog 35 #[.agg #[.slice A0 x.cars.length c0, .slice A1 x.stops.length c1, .slice A2 x.rides.length c2, .slice A3 x.rows.length c3]] w _
  have HS := Aside0.mk (fun (j : Nat) (hj : j < x.stops.length) => hs (rd_T63 x.stops (j : Int)) (by unfold rd_T63; rw [rd_at z63 x.stops j hj]; exact List.getElem_mem hj))
  have HH := Aside0.mk (fun (j : Nat) (hj : j < x.stops.length) (hbad : loadBad x.rides.length x.stops j = true) => show (List.range x.stops.length).any (loadBad x.rides.length x.stops) = true from List.any_eq_true.2 ⟨j, List.mem_range.2 hj, hbad⟩)
  have HM := Aside0.mk (fun (hm : ∀ j : Nat, j < x.stops.length → loadBad x.rides.length x.stops j = false) => show (List.range x.stops.length).any (loadBad x.rides.length x.stops) = false by
    rw [Bool.eq_false_iff]
    intro hc
    obtain ⟨j, hj, hbad⟩ := List.any_eq_true.1 hc
    rw [hm j (List.mem_range.1 hj)] at hbad
    cases hbad)
  generalize (List.range x.stops.length).any (loadBad x.rides.length x.stops) = z at HH HM ⊢
  obtain ⟨m, hm⟩ : ∃ m, m = x.stops.length := ⟨_, rfl⟩
  obtain ⟨n, hn'⟩ : ∃ n, n = x.rides.length := ⟨_, rfl⟩
  rw [← hm, ← hn'] at hn
  rw [← hm] at HX HS HH HM hb ⊢
  rw [← hn'] at HH HM ⊢
  generalize x.cars.length = n0
  generalize x.rows.length = n3
  have HMN := Aside0.mk (And.intro hn hb)
  have C1 := Aside0.mk (fun W (j : Nat) (hj : j ≤ 2 * n + 1) => request_calls A0 A1 A2 A3 n0 c0 m c1 n c2 n3 c3 j hj (by omega) W)
  obtain ⟨st, hst⟩ : ∃ st, st = x.stops := ⟨_, rfl⟩
  rw [← hst] at HX HS HH HM
  clear h hs hst hm hn' hn hb
  have HB := Aside0.mk (below_alloc (Below.refl w.heap.size w) (.cells #[.slice A0 n0 c0, .slice A1 m c1, .slice A2 n c2, .slice A3 n3 c3] 28 (0, 0)))
  have HW := Aside0.mk (heap_alloc_new w (.cells #[.slice A0 n0 c0, .slice A1 m c1, .slice A2 n c2, .slice A3 n3 c3] 28 (0, 0)))
  go_enter Tryz.func35, Tryz.ntmps35
  go_wp2
  go_loopg [3, 4, 5, 9, 17, 31, 45] m (fun gg v3 v4 v5 v9 v17 v31 v45 wr => ∃ j : Nat, v9 = .int .i64 (j : Int) ∧ j ≤ m ∧ m - j ≤ gg ∧ Aside0 (∀ i : Nat, i < j → loadBad n st i = false) ∧ Aside0 (wr.heap[w.heap.size]? = some (.cells #[.slice A0 n0 c0, .slice A1 m c1, .slice A2 n c2, .slice A3 n3 c3] 28 (0, 0))) ∧ Aside0 (Below w.heap.size w wr))
  case atStart => exact ⟨0, rfl, Nat.zero_le _, Nat.le_refl _, ⟨fun i hi => absurd hi (Nat.not_lt_zero _)⟩, HW, HB⟩
  case round =>
    clear HW HB
    obtain ⟨j, rfl, hj, hm, K1, HW, HB⟩ := hrel
    by_cases hjn : j < m
    · have cjm : decide ((j : Int) < (m : Int)) = true := by simp; omega
      have p1 : (0 : Int) ≤ (j : Int) := by omega
      have p2 : (j : Int) < (m : Int) := by omega
      have w1 : wrap64 ((j : Int) + 1) = (j : Int) + 1 := by have := HMN.out; unfold wrap64; omega
      obtain ⟨ad, rfl, h0, h1, h2, h3, h4, h5⟩ := at_T63 HX.out (j : Int) p1 p2
      rw [Int.toNat_natCast] at h0 h1 h2 h3 h4 h5
      have g0 := cell_below HB.out h0
      have g1 := cell_below HB.out h1
      have g2 := cell_below HB.out h2
      have g3 := cell_below HB.out h3
      have g4 := cell_below HB.out h4
      have g5 := cell_below HB.out h5
      clear h0 h1 h2 h3 h4 h5
      have y0 : wr.cell? ⟨w.heap.size, 0, none⟩ = some (.slice A0 n0 c0) := (blk_cell HW.out 0).trans rfl
      have y1 : wr.cell? ⟨w.heap.size, 1, none⟩ = some (.slice (some ad) m c1) := (blk_cell HW.out 1).trans rfl
      have y2 : wr.cell? ⟨w.heap.size, 2, none⟩ = some (.slice A2 n c2) := (blk_cell HW.out 2).trans rfl
      have y3 : wr.cell? ⟨w.heap.size, 3, none⟩ = some (.slice A3 n3 c3) := (blk_cell HW.out 3).trans rfl
      have ya0 := fun o => cell_below (below_alloc (Below.refl wr.heap.size wr) o) y0
      have ya1 := fun o => cell_below (below_alloc (Below.refl wr.heap.size wr) o) y1
      have ya2 := fun o => cell_below (below_alloc (Below.refl wr.heap.size wr) o) y2
      have ya3 := fun o => cell_below (below_alloc (Below.refl wr.heap.size wr) o) y3
      have HNX := Aside0.mk (fun hbad : loadBad n st j = false => show ∀ i : Nat, i < j + 1 → loadBad n st i = false from fun i hi => by
        by_cases e : i = j
        · subst e; exact hbad
        · exact K1.out i (by omega))
      have HST := Aside0.mk (HH.out j hjn)
      generalize hsj : rd_T63 st (j : Int) = sj at g0 g1 g2 g3 g4 g5
      obtain ⟨⟨a, b⟩, m1, e1, l1, ⟨X, Y⟩⟩ := sj
      have HSJ := Aside0.mk hsj
      clear hsj
      by_cases hA : j = 0
      · have C := Aside0.mk (fun W => (C1.out W j (by omega)))
        rw [if_pos (.inl hA)] at C
        have qj : ((0 : Int) == (j : Int)) = true := by rw [hA]; rfl
        have qj2 : ((0 : Int) != (j : Int)) = false := by rw [hA]; rfl
        have HV := Aside0.mk (show loadBad n st j = (!(a == 0 && b == 0) || !(m1 == 0)) by unfold loadBad; rw [if_pos (.inl hA), HSJ.out])
        clear hA
        cases qa : (a == 0)
        · have qa2 : (a != 0) = true := by rw [bne, qa]; rfl
          have hv := Aside0.mk (show loadBad n st j = true by rw [HV.out, qa]; rfl)
          have hz := HST.out (by exact hv.out)
          go_wp2_with (first | (go_at_call 70; refine (C.out _).mono ?_; rintro e w2 ⟨rfl, hb⟩; have HB1 := Aside0.mk (below_alloc HB.out (.cells #[.int .i64 a, .int .i64 b, .int .i64 m1, .int .i64 e1, .int .i64 l1, .complex .f64 X Y] 63 (0, 0))); have B2 := Aside0.mk (HB1.out.trans (hb.mono HB1.out.size)); have HW2 := Aside0.mk ((hb.block _ (Array.getElem?_eq_some_iff.1 ((heap_old wr _ HW.out).trans HW.out)).1).trans ((heap_old wr _ HW.out).trans HW.out)); have hn := (hb.block _ (Array.getElem?_eq_some_iff.1 (heap_alloc_new wr (.cells #[.int .i64 a, .int .i64 b, .int .i64 m1, .int .i64 e1, .int .i64 l1, .complex .f64 X Y] 63 (0, 0)))).1).trans (heap_alloc_new wr (.cells #[.int .i64 a, .int .i64 b, .int .i64 m1, .int .i64 e1, .int .i64 l1, .complex .f64 X Y] 63 (0, 0))); have x0 := (blk_cell hn 0).trans rfl; have x1 := (blk_cell hn 1).trans rfl; have x2 := (blk_cell hn 2).trans rfl; clear y0 y1 y2 y3 ya0 ya1 ya2 ya3 g0 g1 g2 g3 g4 g5; clear hn hb))
          go_ret
          exact ⟨by first | rfl | (rw [hz]; rfl), B2.out⟩
        · have qa2 : (a != 0) = false := by rw [bne, qa]; rfl
          cases qb : (b == 0)
          · have qb2 : (b != 0) = true := by rw [bne, qb]; rfl
            have hv := Aside0.mk (show loadBad n st j = true by rw [HV.out, qa, qb]; rfl)
            have hz := HST.out (by exact hv.out)
            go_wp2_with (first | (go_at_call 70; refine (C.out _).mono ?_; rintro e w2 ⟨rfl, hb⟩; have HB1 := Aside0.mk (below_alloc HB.out (.cells #[.int .i64 a, .int .i64 b, .int .i64 m1, .int .i64 e1, .int .i64 l1, .complex .f64 X Y] 63 (0, 0))); have B2 := Aside0.mk (HB1.out.trans (hb.mono HB1.out.size)); have HW2 := Aside0.mk ((hb.block _ (Array.getElem?_eq_some_iff.1 ((heap_old wr _ HW.out).trans HW.out)).1).trans ((heap_old wr _ HW.out).trans HW.out)); have hn := (hb.block _ (Array.getElem?_eq_some_iff.1 (heap_alloc_new wr (.cells #[.int .i64 a, .int .i64 b, .int .i64 m1, .int .i64 e1, .int .i64 l1, .complex .f64 X Y] 63 (0, 0)))).1).trans (heap_alloc_new wr (.cells #[.int .i64 a, .int .i64 b, .int .i64 m1, .int .i64 e1, .int .i64 l1, .complex .f64 X Y] 63 (0, 0))); have x0 := (blk_cell hn 0).trans rfl; have x1 := (blk_cell hn 1).trans rfl; have x2 := (blk_cell hn 2).trans rfl; clear y0 y1 y2 y3 ya0 ya1 ya2 ya3 g0 g1 g2 g3 g4 g5; clear hn hb))
            go_ret
            exact ⟨by first | rfl | (rw [hz]; rfl), B2.out⟩
          · have qb2 : (b != 0) = false := by rw [bne, qb]; rfl
            cases qm : (m1 == 0)
            · have qm2 : (m1 != 0) = true := by rw [bne, qm]; rfl
              have hv := Aside0.mk (show loadBad n st j = true by rw [HV.out, qa, qb, qm]; rfl)
              have hz := HST.out (by exact hv.out)
              go_wp2_with (first | (go_at_call 70; refine (C.out _).mono ?_; rintro e w2 ⟨rfl, hb⟩; have HB1 := Aside0.mk (below_alloc HB.out (.cells #[.int .i64 a, .int .i64 b, .int .i64 m1, .int .i64 e1, .int .i64 l1, .complex .f64 X Y] 63 (0, 0))); have B2 := Aside0.mk (HB1.out.trans (hb.mono HB1.out.size)); have HW2 := Aside0.mk ((hb.block _ (Array.getElem?_eq_some_iff.1 ((heap_old wr _ HW.out).trans HW.out)).1).trans ((heap_old wr _ HW.out).trans HW.out)); have hn := (hb.block _ (Array.getElem?_eq_some_iff.1 (heap_alloc_new wr (.cells #[.int .i64 a, .int .i64 b, .int .i64 m1, .int .i64 e1, .int .i64 l1, .complex .f64 X Y] 63 (0, 0)))).1).trans (heap_alloc_new wr (.cells #[.int .i64 a, .int .i64 b, .int .i64 m1, .int .i64 e1, .int .i64 l1, .complex .f64 X Y] 63 (0, 0))); have x0 := (blk_cell hn 0).trans rfl; have x1 := (blk_cell hn 1).trans rfl; have x2 := (blk_cell hn 2).trans rfl; clear y0 y1 y2 y3 ya0 ya1 ya2 ya3 g0 g1 g2 g3 g4 g5; clear hn hb))
              go_ret
              exact ⟨by first | rfl | (rw [hz]; rfl), B2.out⟩
            · have qm2 : (m1 != 0) = false := by rw [bne, qm]; rfl
              have hv := Aside0.mk (show loadBad n st j = false by rw [HV.out, qa, qb, qm]; rfl)
              go_wp2_with (first | (go_at_call 70; refine (C.out _).mono ?_; rintro e w2 ⟨rfl, hb⟩; have HB1 := Aside0.mk (below_alloc HB.out (.cells #[.int .i64 a, .int .i64 b, .int .i64 m1, .int .i64 e1, .int .i64 l1, .complex .f64 X Y] 63 (0, 0))); have B2 := Aside0.mk (HB1.out.trans (hb.mono HB1.out.size)); have HW2 := Aside0.mk ((hb.block _ (Array.getElem?_eq_some_iff.1 ((heap_old wr _ HW.out).trans HW.out)).1).trans ((heap_old wr _ HW.out).trans HW.out)); have hn := (hb.block _ (Array.getElem?_eq_some_iff.1 (heap_alloc_new wr (.cells #[.int .i64 a, .int .i64 b, .int .i64 m1, .int .i64 e1, .int .i64 l1, .complex .f64 X Y] 63 (0, 0)))).1).trans (heap_alloc_new wr (.cells #[.int .i64 a, .int .i64 b, .int .i64 m1, .int .i64 e1, .int .i64 l1, .complex .f64 X Y] 63 (0, 0))); have x0 := (blk_cell hn 0).trans rfl; have x1 := (blk_cell hn 1).trans rfl; have x2 := (blk_cell hn 2).trans rfl; clear y0 y1 y2 y3 ya0 ya1 ya2 ya3 g0 g1 g2 g3 g4 g5; clear hn hb))
              go_quiet (fail)
              go_wp2
              go_roundg (m - (j + 1))
              case measure => omega
              case rel => exact ⟨j + 1, by first | rfl | go_num, by omega, Nat.le_refl _, ⟨HNX.out (by exact hv.out)⟩, ⟨HW2.out⟩, ⟨pw_below_drewN B2.out _⟩⟩
      · by_cases hA' : j = 2 * n + 1
        · have C := Aside0.mk (fun W => (C1.out W j (by omega)))
          rw [if_pos (.inr hA')] at C
          have qj : ((0 : Int) == (j : Int)) = false := by simp; omega
          have qj2 : ((0 : Int) != (j : Int)) = true := by simp; omega
          have HV := Aside0.mk (show loadBad n st j = (!(a == 0 && b == 0) || !(m1 == 0)) by unfold loadBad; rw [if_pos (.inr hA'), HSJ.out])
          clear hA hA'
          cases qa : (a == 0)
          · have qa2 : (a != 0) = true := by rw [bne, qa]; rfl
            have hv := Aside0.mk (show loadBad n st j = true by rw [HV.out, qa]; rfl)
            have hz := HST.out (by exact hv.out)
            go_wp2_with (first | (go_at_call 70; refine (C.out _).mono ?_; rintro e w2 ⟨rfl, hb⟩; have HB1 := Aside0.mk (below_alloc HB.out (.cells #[.int .i64 a, .int .i64 b, .int .i64 m1, .int .i64 e1, .int .i64 l1, .complex .f64 X Y] 63 (0, 0))); have B2 := Aside0.mk (HB1.out.trans (hb.mono HB1.out.size)); have HW2 := Aside0.mk ((hb.block _ (Array.getElem?_eq_some_iff.1 ((heap_old wr _ HW.out).trans HW.out)).1).trans ((heap_old wr _ HW.out).trans HW.out)); have hn := (hb.block _ (Array.getElem?_eq_some_iff.1 (heap_alloc_new wr (.cells #[.int .i64 a, .int .i64 b, .int .i64 m1, .int .i64 e1, .int .i64 l1, .complex .f64 X Y] 63 (0, 0)))).1).trans (heap_alloc_new wr (.cells #[.int .i64 a, .int .i64 b, .int .i64 m1, .int .i64 e1, .int .i64 l1, .complex .f64 X Y] 63 (0, 0))); have x0 := (blk_cell hn 0).trans rfl; have x1 := (blk_cell hn 1).trans rfl; have x2 := (blk_cell hn 2).trans rfl; clear y0 y1 y2 y3 ya0 ya1 ya2 ya3 g0 g1 g2 g3 g4 g5; clear hn hb))
            go_ret
            exact ⟨by first | rfl | (rw [hz]; rfl), B2.out⟩
          · have qa2 : (a != 0) = false := by rw [bne, qa]; rfl
            cases qb : (b == 0)
            · have qb2 : (b != 0) = true := by rw [bne, qb]; rfl
              have hv := Aside0.mk (show loadBad n st j = true by rw [HV.out, qa, qb]; rfl)
              have hz := HST.out (by exact hv.out)
              go_wp2_with (first | (go_at_call 70; refine (C.out _).mono ?_; rintro e w2 ⟨rfl, hb⟩; have HB1 := Aside0.mk (below_alloc HB.out (.cells #[.int .i64 a, .int .i64 b, .int .i64 m1, .int .i64 e1, .int .i64 l1, .complex .f64 X Y] 63 (0, 0))); have B2 := Aside0.mk (HB1.out.trans (hb.mono HB1.out.size)); have HW2 := Aside0.mk ((hb.block _ (Array.getElem?_eq_some_iff.1 ((heap_old wr _ HW.out).trans HW.out)).1).trans ((heap_old wr _ HW.out).trans HW.out)); have hn := (hb.block _ (Array.getElem?_eq_some_iff.1 (heap_alloc_new wr (.cells #[.int .i64 a, .int .i64 b, .int .i64 m1, .int .i64 e1, .int .i64 l1, .complex .f64 X Y] 63 (0, 0)))).1).trans (heap_alloc_new wr (.cells #[.int .i64 a, .int .i64 b, .int .i64 m1, .int .i64 e1, .int .i64 l1, .complex .f64 X Y] 63 (0, 0))); have x0 := (blk_cell hn 0).trans rfl; have x1 := (blk_cell hn 1).trans rfl; have x2 := (blk_cell hn 2).trans rfl; clear y0 y1 y2 y3 ya0 ya1 ya2 ya3 g0 g1 g2 g3 g4 g5; clear hn hb))
              go_ret
              exact ⟨by first | rfl | (rw [hz]; rfl), B2.out⟩
            · have qb2 : (b != 0) = false := by rw [bne, qb]; rfl
              cases qm : (m1 == 0)
              · have qm2 : (m1 != 0) = true := by rw [bne, qm]; rfl
                have hv := Aside0.mk (show loadBad n st j = true by rw [HV.out, qa, qb, qm]; rfl)
                have hz := HST.out (by exact hv.out)
                go_wp2_with (first | (go_at_call 70; refine (C.out _).mono ?_; rintro e w2 ⟨rfl, hb⟩; have HB1 := Aside0.mk (below_alloc HB.out (.cells #[.int .i64 a, .int .i64 b, .int .i64 m1, .int .i64 e1, .int .i64 l1, .complex .f64 X Y] 63 (0, 0))); have B2 := Aside0.mk (HB1.out.trans (hb.mono HB1.out.size)); have HW2 := Aside0.mk ((hb.block _ (Array.getElem?_eq_some_iff.1 ((heap_old wr _ HW.out).trans HW.out)).1).trans ((heap_old wr _ HW.out).trans HW.out)); have hn := (hb.block _ (Array.getElem?_eq_some_iff.1 (heap_alloc_new wr (.cells #[.int .i64 a, .int .i64 b, .int .i64 m1, .int .i64 e1, .int .i64 l1, .complex .f64 X Y] 63 (0, 0)))).1).trans (heap_alloc_new wr (.cells #[.int .i64 a, .int .i64 b, .int .i64 m1, .int .i64 e1, .int .i64 l1, .complex .f64 X Y] 63 (0, 0))); have x0 := (blk_cell hn 0).trans rfl; have x1 := (blk_cell hn 1).trans rfl; have x2 := (blk_cell hn 2).trans rfl; clear y0 y1 y2 y3 ya0 ya1 ya2 ya3 g0 g1 g2 g3 g4 g5; clear hn hb))
                go_ret
                exact ⟨by first | rfl | (rw [hz]; rfl), B2.out⟩
              · have qm2 : (m1 != 0) = false := by rw [bne, qm]; rfl
                have hv := Aside0.mk (show loadBad n st j = false by rw [HV.out, qa, qb, qm]; rfl)
                go_wp2_with (first | (go_at_call 70; refine (C.out _).mono ?_; rintro e w2 ⟨rfl, hb⟩; have HB1 := Aside0.mk (below_alloc HB.out (.cells #[.int .i64 a, .int .i64 b, .int .i64 m1, .int .i64 e1, .int .i64 l1, .complex .f64 X Y] 63 (0, 0))); have B2 := Aside0.mk (HB1.out.trans (hb.mono HB1.out.size)); have HW2 := Aside0.mk ((hb.block _ (Array.getElem?_eq_some_iff.1 ((heap_old wr _ HW.out).trans HW.out)).1).trans ((heap_old wr _ HW.out).trans HW.out)); have hn := (hb.block _ (Array.getElem?_eq_some_iff.1 (heap_alloc_new wr (.cells #[.int .i64 a, .int .i64 b, .int .i64 m1, .int .i64 e1, .int .i64 l1, .complex .f64 X Y] 63 (0, 0)))).1).trans (heap_alloc_new wr (.cells #[.int .i64 a, .int .i64 b, .int .i64 m1, .int .i64 e1, .int .i64 l1, .complex .f64 X Y] 63 (0, 0))); have x0 := (blk_cell hn 0).trans rfl; have x1 := (blk_cell hn 1).trans rfl; have x2 := (blk_cell hn 2).trans rfl; clear y0 y1 y2 y3 ya0 ya1 ya2 ya3 g0 g1 g2 g3 g4 g5; clear hn hb))
                go_quiet (fail)
                go_wp2
                go_roundg (m - (j + 1))
                case measure => omega
                case rel => exact ⟨j + 1, by first | rfl | go_num, by omega, Nat.le_refl _, ⟨HNX.out (by exact hv.out)⟩, ⟨HW2.out⟩, ⟨pw_below_drewN B2.out _⟩⟩
        · have hMN := HMN.out.1
          by_cases hB : j ≤ n
          · have C := Aside0.mk (fun W => (C1.out W j (by omega)))
            rw [if_neg (by omega), if_pos hB] at C
            have CR := Aside0.mk (fun W => cap_calls a b W)
            have HV := Aside0.mk (show loadBad n st j = !capB a b by unfold loadBad; rw [if_neg (by omega), if_pos hB, HSJ.out])
            have q0 : ((j : Int) == 0) = false := by simp; omega
            have q1 : ((j : Int) != 0) = true := by simp; omega
            have q2 : decide ((0 : Int) < (j : Int)) = true := by simp; omega
            have q3 : decide (0 < j) = true := by simp; omega
            generalize capB a b = z1 at CR HV
            clear hA hA' hMN hB
            cases z1
            · have hz := HST.out HV.out
              go_wp2_with (first | (go_at_call 70; refine (C.out _).mono ?_; rintro e w2 ⟨rfl, hb⟩; have HB1 := Aside0.mk (below_alloc HB.out (.cells #[.int .i64 a, .int .i64 b, .int .i64 m1, .int .i64 e1, .int .i64 l1, .complex .f64 X Y] 63 (0, 0))); have B2 := Aside0.mk (HB1.out.trans (hb.mono HB1.out.size)); have HW2 := Aside0.mk ((hb.block _ (Array.getElem?_eq_some_iff.1 ((heap_old wr _ HW.out).trans HW.out)).1).trans ((heap_old wr _ HW.out).trans HW.out)); have hn := (hb.block _ (Array.getElem?_eq_some_iff.1 (heap_alloc_new wr (.cells #[.int .i64 a, .int .i64 b, .int .i64 m1, .int .i64 e1, .int .i64 l1, .complex .f64 X Y] 63 (0, 0)))).1).trans (heap_alloc_new wr (.cells #[.int .i64 a, .int .i64 b, .int .i64 m1, .int .i64 e1, .int .i64 l1, .complex .f64 X Y] 63 (0, 0))); have x0 := (blk_cell hn 0).trans rfl; have x1 := (blk_cell hn 1).trans rfl; have x2 := (blk_cell hn 2).trans rfl; clear y0 y1 y2 y3 ya0 ya1 ya2 ya3 g0 g1 g2 g3 g4 g5; clear hn hb) | (go_at_call 65; refine (CR.out _).mono ?_; rintro e w3 ⟨rfl, hb⟩; have B3 := Aside0.mk (B2.out.trans (hb.mono B2.out.size)); clear hb))
              go_ret
              exact ⟨by first | rfl | (rw [hz]; rfl), B3.out⟩
            · go_wp2_with (first | (go_at_call 70; refine (C.out _).mono ?_; rintro e w2 ⟨rfl, hb⟩; have HB1 := Aside0.mk (below_alloc HB.out (.cells #[.int .i64 a, .int .i64 b, .int .i64 m1, .int .i64 e1, .int .i64 l1, .complex .f64 X Y] 63 (0, 0))); have B2 := Aside0.mk (HB1.out.trans (hb.mono HB1.out.size)); have HW2 := Aside0.mk ((hb.block _ (Array.getElem?_eq_some_iff.1 ((heap_old wr _ HW.out).trans HW.out)).1).trans ((heap_old wr _ HW.out).trans HW.out)); have hn := (hb.block _ (Array.getElem?_eq_some_iff.1 (heap_alloc_new wr (.cells #[.int .i64 a, .int .i64 b, .int .i64 m1, .int .i64 e1, .int .i64 l1, .complex .f64 X Y] 63 (0, 0)))).1).trans (heap_alloc_new wr (.cells #[.int .i64 a, .int .i64 b, .int .i64 m1, .int .i64 e1, .int .i64 l1, .complex .f64 X Y] 63 (0, 0))); have x0 := (blk_cell hn 0).trans rfl; have x1 := (blk_cell hn 1).trans rfl; have x2 := (blk_cell hn 2).trans rfl; clear y0 y1 y2 y3 ya0 ya1 ya2 ya3 g0 g1 g2 g3 g4 g5; clear hn hb) | (go_at_call 65; refine (CR.out _).mono ?_; rintro e w3 ⟨rfl, hb⟩; have B3 := Aside0.mk (B2.out.trans (hb.mono B2.out.size)); have HW3 := Aside0.mk ((hb.block _ (Array.getElem?_eq_some_iff.1 HW2.out).1).trans HW2.out); clear hb x0 x1 x2))
              go_quiet (fail)
              go_wp2
              go_roundg (m - (j + 1))
              case measure => omega
              case rel => exact ⟨j + 1, by first | rfl | go_num, by omega, Nat.le_refl _, ⟨HNX.out (by exact HV.out)⟩, ⟨HW3.out⟩, ⟨pw_below_drewN B3.out _⟩⟩
          · have C := Aside0.mk (fun W => (C1.out W j (by omega)))
            rw [if_neg (by omega), if_neg hB] at C
            have HV := Aside0.mk (show loadBad n st j = !(a == -(rd_T63 st ((j - n : Nat) : Int)).f0.f0 && b == -(rd_T63 st ((j - n : Nat) : Int)).f0.f1) by unfold loadBad; rw [if_neg (by omega), if_neg hB, HSJ.out])
            obtain ⟨r, hr⟩ : ∃ r, r = j - n := ⟨_, rfl⟩
            rw [← hr] at C HV
            have q0 : ((r : Int) == 0) = false := by simp; omega
            have q1 : ((r : Int) != 0) = true := by simp; omega
            have q2 : decide ((0 : Int) < (r : Int)) = true := by simp; omega
            have q3 : decide (0 < r) = true := by simp; omega
            have q4 : ((r : Int) == (j : Int)) = false := by simp; omega
            have q5 : ((r : Int) != (j : Int)) = true := by simp; omega
            have r1 : (0 : Int) ≤ (r : Int) := by omega
            have r2 : (r : Int) < (m : Int) := by omega
            have HSM := HS.out r (by omega)
            obtain ⟨ad2, e2, k0, k1, _, _, _, _⟩ := at_T63 HX.out (r : Int) r1 r2
            obtain rfl := Option.some.inj e2
            rw [Int.toNat_natCast] at k0 k1
            have K0 := Aside0.mk k0
            have K1' := Aside0.mk k1
            clear e2 k0 k1
            generalize rd_T63 st (r : Int) = sr at HSM HV K0 K1'
            obtain ⟨⟨a', b'⟩, m2, e2, l2, ⟨X2, Y2⟩⟩ := sr
            have CN := Aside0.mk (fun W => neg_calls a' b' HSM.1 HSM.2 W)
            clear HSM hA hA' hMN hB hr
            go_wp2_with (first | (go_at_call 70; refine (C.out _).mono ?_; rintro e w2 ⟨rfl, hb⟩; have HB1 := Aside0.mk (below_alloc HB.out (.cells #[.int .i64 a, .int .i64 b, .int .i64 m1, .int .i64 e1, .int .i64 l1, .complex .f64 X Y] 63 (0, 0))); have B2 := Aside0.mk (HB1.out.trans (hb.mono HB1.out.size)); have HW2 := Aside0.mk ((hb.block _ (Array.getElem?_eq_some_iff.1 ((heap_old wr _ HW.out).trans HW.out)).1).trans ((heap_old wr _ HW.out).trans HW.out)); have hn := (hb.block _ (Array.getElem?_eq_some_iff.1 (heap_alloc_new wr (.cells #[.int .i64 a, .int .i64 b, .int .i64 m1, .int .i64 e1, .int .i64 l1, .complex .f64 X Y] 63 (0, 0)))).1).trans (heap_alloc_new wr (.cells #[.int .i64 a, .int .i64 b, .int .i64 m1, .int .i64 e1, .int .i64 l1, .complex .f64 X Y] 63 (0, 0))); have x0 := (blk_cell hn 0).trans rfl; have x1 := (blk_cell hn 1).trans rfl; have x2 := (blk_cell hn 2).trans rfl; clear y0 y1 y2 y3 ya0 ya1 ya2 ya3 g0 g1 g2 g3 g4 g5; clear hn hb))
            clear x2
            have z1 : w2.cell? ⟨w.heap.size, 1, none⟩ = some (.slice (some ad) m c1) := (blk_cell HW2.out 1).trans rfl
            have k0 := cell_below B2.out K0.out
            have k1 := cell_below B2.out K1'.out
            go_region_held2 (fun w' => w'.cell? ⟨wr.heap.size, 0, none⟩ = some (.int .i64 a) ∧ w'.cell? ⟨wr.heap.size, 1, none⟩ = some (.int .i64 b) ∧ w'.cell? ⟨w.heap.size, 1, none⟩ = some (.slice (some ad) m c1) ∧ w'.cell? (ad.add (r * 6)) = some (.int .i64 a') ∧ w'.cell? ⟨(ad.add (r * 6)).block, (ad.add (r * 6)).off + 1, none⟩ = some (.int .i64 b')) (first | go_keep | exact ⟨cell_below B3.out x0, cell_below B3.out x1, cell_below B3.out z1, cell_below B3.out k0, cell_below B3.out k1⟩) (first | (go_at_call 71; refine (CN.out _).mono ?_; rintro r w3 ⟨rfl, hb⟩; have B3 := Aside0.mk hb; clear hb))
            rename_i hHeld
            have HW3 := Aside0.mk ((B3.out.block w.heap.size (Array.getElem?_eq_some_iff.1 HW2.out).1).trans HW2.out)
            have BZ := Aside0.mk ((below_drew1 B2.out).trans (B3.out.mono (below_drew1 B2.out).size))
            generalize hq : (!(a == -a') || !(b == -b')) = q
            have HQ := Aside0.mk (show loadBad n st j = q by rw [HV.out, ← hq]; show (!((a == -a') && (b == -b'))) = _; cases (a == -a') <;> cases (b == -b') <;> rfl)
            clear hq hHeld z1 k0 k1 x0 x1
            cases q
            · go_wp2
              go_roundg (m - (j + 1))
              case measure => omega
              case rel => exact ⟨j + 1, by first | rfl | go_num, by omega, Nat.le_refl _, ⟨HNX.out HQ.out⟩, ⟨HW3.out⟩, BZ⟩
            · have hz := HST.out HQ.out
              go_wp2
              go_ret
              exact ⟨by first | rfl | (rw [hz]; rfl), BZ.out⟩
    · have cjm : decide ((j : Int) < (m : Int)) = false := by simp; omega
      have hz := HM.out (fun i hi => K1.out i (by omega))
      go_wp2
      all_goals (go_ret; exact ⟨by first | rfl | (rw [hz]; rfl), HB.out⟩)
end Go.Proofs.YtcdmndhaeiccoaaGreatDoor.P
