/- The document's check of an instance that was read. -/
import Derived.Test.YtcdmndhaeiccoaaGreatDoorMkit
import Derived.Test.YtcdmndhaeiccoaaGreatDoorM18
namespace Go.Proofs.YtcdmndhaeiccoaaGreatDoor.P
open Go Go.Proofs.YtcdmndhaeiccoaaGreatDoorR
open Go.RowKit Go.Proofs.YtcdmndhaeiccoaaGreatDoorW.PrintWords Go.Proofs.YtcdmndhaeiccoaaGreatDoorW.PrintLast
set_option linter.unusedVariables false
set_option linter.unusedSimpArgs false
set_option maxHeartbeats 8000000
set_option maxRecDepth 100000
attribute [local go_sem] run_store_complex
theorem field101 (u v : Int) (b : Bool) (w : World) : Sem.run Tryz.prog (Instr.field 101 (.agg #[.int .i64 u, .int .i64 v, .bool b]) 2) w = .ok (.bool b) w := by
  kernel_rfl
attribute [local go_sem] field101
theorem ref_Check.calls (p : Lie) (x : InstP) (w : World) (h : InC w p x) (g : GoodI x) :
    Calls Tryz.prog 16 #[.agg (instCs p x)] w fun e w' => e = .returned (.int .i64 (chkI x)) ∧ Below w.heap.size w w' := by
  have S3 := Aside0.mk (fun W (hb : Below w.heap.size w W) => ref_bad.calls p x W (h.below hb) g.stops g.most g.small)
  have S4 := Aside0.mk (fun W (hb : Below w.heap.size w W) (hr : x.rows.length = x.stops.length ∧ ∀ r ∈ x.rows, r.length = x.stops.length) => ref_matrix.calls p x W (h.below hb) hr.1 hr.2 g.most)
  have HSP := Aside0.mk (fun (j : Nat) (hj : j < x.stops.length) => g.spots (rd_T63 x.stops (j : Int)) (by unfold rd_T63; rw [rd_at z63 x.stops j hj]; exact List.getElem_mem hj))
  have X0 := Aside0.mk h.h0
  have X1 := Aside0.mk h.h1
  have X2 := Aside0.mk h.h2
  have HH0 := Aside0.mk (fun j hj => any_hit z60 badCar x.cars j hj)
  have HM0 := Aside0.mk (any_miss z60 badCar x.cars)
  have HH1 := Aside0.mk (fun j hj => any_hit z63 badStop x.stops j hj)
  have HM1 := Aside0.mk (any_miss z63 badStop x.stops)
  have HH2 := Aside0.mk (fun j hj => any_hit (0 : Int) badTime x.rides j hj)
  have HM2 := Aside0.mk (any_miss (0 : Int) badTime x.rides)
  have g0 := g.cars0
  have g64 := g.cars64
  have gst := g.stops
  have gmo := g.most
  have hmat0 : x.rows = [] → matB x = false := fun h => by unfold matB; rw [h]; rfl
  have hl : (x.rows.length = 0 ∧ matB x = false) ∨ (x.rows.length ≠ 0 ∧ (x.rows.length = x.stops.length ∧ ∀ r ∈ x.rows, r.length = x.stops.length)) := by
    rcases g.rows with h | h
    · exact .inl ⟨by rw [h]; rfl, hmat0 h⟩
    · exact .inr ⟨by omega, h⟩
  unfold chkI rangesB
  unfold instCs at S3 S4
  obtain ⟨A0, c0, A1, c1, A2, c2, A3, c3⟩ := p
  show Calls Tryz.prog 16 #[.agg #[.slice A0 x.cars.length c0, .slice A1 x.stops.length c1, .slice A2 x.rides.length c2, .slice A3 x.rows.length c3]] w _
  clear h g hmat0
  generalize (∀ r ∈ x.rows, r.length = x.stops.length) = R at S4 hl
  generalize x.cars.any badCar = zc at HH0 HM0 ⊢
  generalize x.stops.any badStop = zs at HH1 HM1 ⊢
  generalize x.rides.any badTime = zr at HH2 HM2 ⊢
  generalize loadsBad x = z2 at S3 ⊢
  generalize matB x = z3 at S4 hl ⊢
  obtain ⟨cars, hcars⟩ : ∃ l, l = x.cars := ⟨_, rfl⟩
  obtain ⟨stops, hstops⟩ : ∃ l, l = x.stops := ⟨_, rfl⟩
  obtain ⟨rides, hrides⟩ : ∃ l, l = x.rides := ⟨_, rfl⟩
  rw [← hcars] at X0 HH0 HM0 S3 S4 g0 g64 ⊢
  rw [← hstops] at X1 HH1 HM1 S3 S4 HSP gst gmo hl ⊢
  rw [← hrides] at X2 HH2 HM2 S3 S4 gst ⊢
  clear hcars hstops hrides
  obtain ⟨n0, e0⟩ : ∃ n, n = cars.length := ⟨_, rfl⟩
  obtain ⟨n1, e1⟩ : ∃ n, n = stops.length := ⟨_, rfl⟩
  obtain ⟨n2, e2⟩ : ∃ n, n = rides.length := ⟨_, rfl⟩
  rw [← e0] at X0 HH0 HM0 S3 S4 g0 g64 ⊢
  rw [← e1] at X1 HH1 HM1 S3 S4 HSP gst gmo hl ⊢
  rw [← e2] at X2 HH2 HM2 S3 S4 gst ⊢
  generalize x.rows.length = n3 at S3 S4 hl ⊢
  have b1 : ((n0 : Int) == 0) = false := by simp; omega
  have b2 : decide ((64 : Int) < (n0 : Int)) = false := by simp; omega
  have b3 : decide ((4096 : Int) < (n1 : Int)) = false := by simp; omega
  have b4 : ((n1 : Int) != 2 * (n2 : Int) + 2) = false := by subst gst; simp
  have b5 : wrap64 (2 * (n2 : Int)) = 2 * (n2 : Int) := by unfold wrap64; omega
  have b6 : wrap64 (2 * (n2 : Int) + 2) = 2 * (n2 : Int) + 2 := by unfold wrap64; omega
  have b7 : decide (64 < n0) = false := by simp; omega
  have b8 : decide (4096 < n1) = false := by simp; omega
  have HL := Aside0.mk hl
  have HN := Aside0.mk (show n0 ≤ 64 ∧ n1 ≤ 4096 ∧ n2 ≤ 4096 by omega)
  clear g0 g64 gst gmo hl e0 e1 e2
  have HB := Aside0.mk (below_alloc (Below.refl w.heap.size w) (.cells #[.slice A0 n0 c0, .slice A1 n1 c1, .slice A2 n2 c2, .slice A3 n3 c3] 28 (0, 0)))
  have HW := Aside0.mk (heap_alloc_new w (.cells #[.slice A0 n0 c0, .slice A1 n1 c1, .slice A2 n2 c2, .slice A3 n3 c3] 28 (0, 0)))
  go_enter Tryz.func16, Tryz.ntmps16
  go_wp2
  clear b1 b2 b3 b4 b5 b6 b7 b8
  go_loopg [4] n0 (fun gg v4 wr => ∃ j : Nat, v4 = .int .i64 (j : Int) ∧ j ≤ n0 ∧ n0 - j ≤ gg ∧ Aside0 (∀ i : Nat, i < j → badCar (cars.getD ((i : Int)).toNat z60) = false) ∧ Aside0 (wr.heap[w.heap.size]? = some (.cells #[.slice A0 n0 c0, .slice A1 n1 c1, .slice A2 n2 c2, .slice A3 n3 c3] 28 (0, 0))) ∧ Aside0 (Below w.heap.size w wr))
  case atStart => exact ⟨0, rfl, Nat.zero_le _, Nat.le_refl _, ⟨fun i hi => absurd hi (Nat.not_lt_zero _)⟩, HW, HB⟩
  case round =>
    clear HW HB
    obtain ⟨j, rfl, hj, hm, K1, HW, HB⟩ := hrel
    have y0 : wr.cell? ⟨w.heap.size, 0, none⟩ = some (.slice A0 n0 c0) := (blk_cell HW.out 0).trans rfl
    by_cases hjn : j < n0
    · have cjm : decide ((j : Int) < (n0 : Int)) = true := by simp; omega
      have cjm2 : decide (j < n0) = true := by simp; omega
      have p1 : (0 : Int) ≤ (j : Int) := by omega
      have p2 : (j : Int) < (n0 : Int) := by omega
      have w1 : wrap64 ((j : Int) + 1) = (j : Int) + 1 := by have := HN.out; unfold wrap64; omega
      have HS := Aside0.mk (fun h : badCar (rd_T60 cars (j : Int)) = false => show ∀ k : Nat, k < j + 1 → badCar (cars.getD ((k : Int)).toNat z60) = false from fun k hk => by
        by_cases e : k = j
        · subst e; exact h
        · exact K1.out k (by omega))
      have H1 := Aside0.mk (HH0.out j hjn)
      obtain ⟨ad, rfl, h0, h1, h2⟩ := at_T60 X0.out (j : Int) p1 p2
      rw [Int.toNat_natCast] at h0 h1 h2
      have g0 := cell_below HB.out h0
      have g1 := cell_below HB.out h1
      have g2 := cell_below HB.out h2
      clear h0 h1 h2
      unfold rd_T60 at g0 g1 g2 HS
      generalize cars.getD ((j : Int)).toNat z60 = c at g0 g1 g2 HS H1
      obtain ⟨⟨a, b⟩, m⟩ := c
      have CR := Aside0.mk (fun W => refRight.calls a b W)
      have CT := Aside0.mk (fun W => refTime.calls m W)
      have HV := Aside0.mk (show badCar (⟨⟨a, b⟩, m⟩ : S60) = (!capB a b || !timeB m) from rfl)
      generalize capB a b = za at CR HV
      generalize timeB m = zt at CT HV
      cases za
      · have hz := H1.out HV.out
        subst hz
        go_wp2_with (first | (go_at_call 44; refine (CR.out _).mono ?_; rintro e w3 ⟨rfl, hb⟩; have B3 := Aside0.mk (HB.out.trans (hb.mono HB.out.size)); have HW3 := Aside0.mk ((hb.block _ (Array.getElem?_eq_some_iff.1 HW.out).1).trans HW.out); have gg2 := cell_below hb g2; have yy0 := cell_below hb y0; clear hb g0 g1 g2 y0))
        go_ret
        exact ⟨rfl, B3.out⟩
      · cases zt
        · have hz := H1.out HV.out
          subst hz
          go_wp2_with (first | (go_at_call 44; refine (CR.out _).mono ?_; rintro e w3 ⟨rfl, hb⟩; have B3 := Aside0.mk (HB.out.trans (hb.mono HB.out.size)); have HW3 := Aside0.mk ((hb.block _ (Array.getElem?_eq_some_iff.1 HW.out).1).trans HW.out); have gg2 := cell_below hb g2; have yy0 := cell_below hb y0; clear hb g0 g1 g2 y0) | (go_at_call 45; refine (CT.out _).mono ?_; rintro e w4 ⟨rfl, rfl⟩))
          go_ret
          exact ⟨rfl, B3.out⟩
        · go_wp2_with (first | (go_at_call 44; refine (CR.out _).mono ?_; rintro e w3 ⟨rfl, hb⟩; have B3 := Aside0.mk (HB.out.trans (hb.mono HB.out.size)); have HW3 := Aside0.mk ((hb.block _ (Array.getElem?_eq_some_iff.1 HW.out).1).trans HW.out); have gg2 := cell_below hb g2; have yy0 := cell_below hb y0; clear hb g0 g1 g2 y0) | (go_at_call 45; refine (CT.out _).mono ?_; rintro e w4 ⟨rfl, rfl⟩))
          go_roundg (n0 - (j + 1))
          case measure => omega
          case rel => exact ⟨j + 1, by first | rfl | go_num, by omega, Nat.le_refl _, ⟨HS.out HV.out⟩, HW3, B3⟩
    · have cjm : decide ((j : Int) < (n0 : Int)) = false := by simp; omega
      have cjm2 : decide (j < n0) = false := by simp; omega
      have hz := HM0.out (fun k hk => K1.out k (by omega))
      subst hz
      clear hj hm hjn
      go_wp2
      clear cjm cjm2 y0
      go_loopg [5] n2 (fun gg v5 wr => ∃ j : Nat, v5 = .int .i64 (j : Int) ∧ j ≤ n2 ∧ n2 - j ≤ gg ∧ Aside0 (∀ i : Nat, i < j → badTime (rides.getD ((i : Int)).toNat 0) = false) ∧ Aside0 (wr.heap[w.heap.size]? = some (.cells #[.slice A0 n0 c0, .slice A1 n1 c1, .slice A2 n2 c2, .slice A3 n3 c3] 28 (0, 0))) ∧ Aside0 (Below w.heap.size w wr))
      case atStart => exact ⟨0, rfl, Nat.zero_le _, Nat.le_refl _, ⟨fun i hi => absurd hi (Nat.not_lt_zero _)⟩, HW, HB⟩
      case round =>
        clear HW HB
        obtain ⟨j, rfl, hj, hm, K1, HW, HB⟩ := hrel
        have y2 : wr.cell? ⟨w.heap.size, 2, none⟩ = some (.slice A2 n2 c2) := (blk_cell HW.out 2).trans rfl
        by_cases hjn : j < n2
        · have cjm : decide ((j : Int) < (n2 : Int)) = true := by simp; omega
          have cjm2 : decide (j < n2) = true := by simp; omega
          have p1 : (0 : Int) ≤ (j : Int) := by omega
          have p2 : (j : Int) < (n2 : Int) := by omega
          have w1 : wrap64 ((j : Int) + 1) = (j : Int) + 1 := by have := HN.out; unfold wrap64; omega
          have HS := Aside0.mk (fun h : badTime (rd rides (j : Int)) = false => show ∀ k : Nat, k < j + 1 → badTime (rides.getD ((k : Int)).toNat 0) = false from fun k hk => by
            by_cases e : k = j
            · subst e; exact h
            · exact K1.out k (by omega))
          have H1 := Aside0.mk (HH2.out j hjn)
          obtain ⟨ad, rfl, h0⟩ := Kd.at_int X2.out (j : Int) p1 p2
          rw [Int.toNat_natCast] at h0
          have g0 := cell_below HB.out h0
          clear h0
          unfold rd at g0 HS
          generalize rides.getD ((j : Int)).toNat 0 = m at g0 HS H1
          have CT := Aside0.mk (fun W => refTime.calls m W)
          have HV := Aside0.mk (show badTime m = (!timeB m) from rfl)
          generalize timeB m = zt at CT HV
          cases zt
          · have hz := H1.out HV.out
            subst hz
            go_wp2_with (first | (go_at_call 45; refine (CT.out _).mono ?_; rintro e w4 ⟨rfl, rfl⟩))
            go_ret
            exact ⟨rfl, HB.out⟩
          · go_wp2_with (first | (go_at_call 45; refine (CT.out _).mono ?_; rintro e w4 ⟨rfl, rfl⟩))
            go_roundg (n2 - (j + 1))
            case measure => omega
            case rel => exact ⟨j + 1, by first | rfl | go_num, by omega, Nat.le_refl _, ⟨HS.out HV.out⟩, HW, HB⟩
        · have cjm : decide ((j : Int) < (n2 : Int)) = false := by simp; omega
          have cjm2 : decide (j < n2) = false := by simp; omega
          have hz := HM2.out (fun k hk => K1.out k (by omega))
          subst hz
          clear hj hm hjn
          go_wp2
          clear cjm cjm2 y2
          go_loopg [6, 7] n1 (fun gg v6 v7 wr => ∃ j : Nat, v6 = .int .i64 (j : Int) ∧ j ≤ n1 ∧ n1 - j ≤ gg ∧ Aside0 (∀ i : Nat, i < j → badStop (stops.getD ((i : Int)).toNat z63) = false) ∧ Aside0 (wr.heap[w.heap.size]? = some (.cells #[.slice A0 n0 c0, .slice A1 n1 c1, .slice A2 n2 c2, .slice A3 n3 c3] 28 (0, 0))) ∧ Aside0 (Below w.heap.size w wr))
          case atStart => exact ⟨0, rfl, Nat.zero_le _, Nat.le_refl _, ⟨fun i hi => absurd hi (Nat.not_lt_zero _)⟩, HW, HB⟩
          case round =>
            clear HW HB
            obtain ⟨j, rfl, hj, hm, K1, HW, HB⟩ := hrel
            have y1 : wr.cell? ⟨w.heap.size, 1, none⟩ = some (.slice A1 n1 c1) := (blk_cell HW.out 1).trans rfl
            by_cases hjn : j < n1
            · have cjm : decide ((j : Int) < (n1 : Int)) = true := by simp; omega
              have cjm2 : decide (j < n1) = true := by simp; omega
              have p1 : (0 : Int) ≤ (j : Int) := by omega
              have p2 : (j : Int) < (n1 : Int) := by omega
              have w1 : wrap64 ((j : Int) + 1) = (j : Int) + 1 := by have := HN.out; unfold wrap64; omega
              have HS := Aside0.mk (fun h : badStop (rd_T63 stops (j : Int)) = false => show ∀ k : Nat, k < j + 1 → badStop (stops.getD ((k : Int)).toNat z63) = false from fun k hk => by
                by_cases e : k = j
                · subst e; exact h
                · exact K1.out k (by omega))
              have H1 := Aside0.mk (HH1.out j hjn)
              obtain ⟨ad, rfl, h0, h1, h2, h3, h4, h5⟩ := at_T63 X1.out (j : Int) p1 p2
              rw [Int.toNat_natCast] at h0 h1 h2 h3 h4 h5
              have g0 := cell_below HB.out h0
              have g1 := cell_below HB.out h1
              have g2 := cell_below HB.out h2
              have g3 := cell_below HB.out h3
              have g4 := cell_below HB.out h4
              have g5 := cell_below HB.out h5
              clear h0 h1 h2 h3 h4 h5
              unfold rd_T63 at g0 g1 g2 g3 g4 g5 HS
              generalize stops.getD ((j : Int)).toNat z63 = c at g0 g1 g2 g3 g4 g5 HS H1
              obtain ⟨⟨a, b⟩, m, n, k, ⟨X, Y⟩⟩ := c
              have TA := Aside0.mk (fun W => refTime.calls m W)
              have TB := Aside0.mk (fun W => refTime.calls n W)
              have TC := Aside0.mk (fun W => refTime.calls k W)
              have HV := Aside0.mk (show badStop (⟨⟨a, b⟩, m, n, k, ⟨X, Y⟩⟩ : S63) = (!timeB m || (!timeB n || (!timeB k || decide (k < n)))) from rfl)
              generalize timeB m = t1 at TA HV
              generalize timeB n = t2 at TB HV
              generalize timeB k = t3 at TC HV
              cases t1
              · have hz := H1.out HV.out
                subst hz
                go_wp2_with (first | (go_at_call 45; with_reducible refine (TA.out _).mono ?_; rintro e w4 ⟨rfl, rfl⟩))
                go_ret
                exact ⟨rfl, below_alloc HB.out _⟩
              · cases t2
                · have hz := H1.out HV.out
                  subst hz
                  go_wp2_with (first | (go_at_call 45; with_reducible refine (TA.out _).mono ?_; rintro e w4 ⟨rfl, rfl⟩) | (go_at_call 45; with_reducible refine (TB.out _).mono ?_; rintro e w4 ⟨rfl, rfl⟩))
                  go_ret
                  exact ⟨rfl, below_alloc HB.out _⟩
                · cases t3
                  · have hz := H1.out HV.out
                    subst hz
                    go_wp2_with (first | (go_at_call 45; with_reducible refine (TA.out _).mono ?_; rintro e w4 ⟨rfl, rfl⟩) | (go_at_call 45; with_reducible refine (TB.out _).mono ?_; rintro e w4 ⟨rfl, rfl⟩) | (go_at_call 45; with_reducible refine (TC.out _).mono ?_; rintro e w4 ⟨rfl, rfl⟩))
                    go_ret
                    exact ⟨rfl, below_alloc HB.out _⟩
                  · cases d : decide (k < n)
                    · rw [d] at HV
                      go_wp2_with (first | (go_at_call 45; with_reducible refine (TA.out _).mono ?_; rintro e w4 ⟨rfl, rfl⟩) | (go_at_call 45; with_reducible refine (TB.out _).mono ?_; rintro e w4 ⟨rfl, rfl⟩) | (go_at_call 45; with_reducible refine (TC.out _).mono ?_; rintro e w4 ⟨rfl, rfl⟩))
                      go_roundg (n1 - (j + 1))
                      case measure => omega
                      case rel => exact ⟨j + 1, by first | rfl | go_num, by omega, Nat.le_refl _, ⟨HS.out HV.out⟩, ⟨(heap_old wr _ HW.out).trans HW.out⟩, ⟨below_alloc HB.out _⟩⟩
                    · rw [d] at HV
                      have hz := H1.out HV.out
                      subst hz
                      go_wp2_with (first | (go_at_call 45; with_reducible refine (TA.out _).mono ?_; rintro e w4 ⟨rfl, rfl⟩) | (go_at_call 45; with_reducible refine (TB.out _).mono ?_; rintro e w4 ⟨rfl, rfl⟩) | (go_at_call 45; with_reducible refine (TC.out _).mono ?_; rintro e w4 ⟨rfl, rfl⟩))
                      go_ret
                      exact ⟨rfl, below_alloc HB.out _⟩
            · have cjm : decide ((j : Int) < (n1 : Int)) = false := by simp; omega
              have cjm2 : decide (j < n1) = false := by simp; omega
              have hz := HM1.out (fun k hk => K1.out k (by omega))
              subst hz
              clear hj hm hjn y1
              obtain ⟨⟨y0, y1, y2, y3⟩, f0, f1, f2, f3⟩ := four_of HW.out
              cases z2
              · rcases HL.out with ⟨hl, hz3⟩ | ⟨hl, hr⟩
                · subst hl
                  subst hz3
                  go_wp2_with (first | (go_at_call 46; refine (S3.out _ HB.out).mono ?_; rintro e w5 ⟨rfl, hb⟩; have B5 := Aside0.mk (HB.out.trans (hb.mono HB.out.size)); have HW5 := Aside0.mk ((hb.block _ (Array.getElem?_eq_some_iff.1 HW.out).1).trans HW.out); clear hb y0 y1 y2 y3; obtain ⟨⟨y0, y1, y2, y3⟩, f0, f1, f2, f3⟩ := four_of HW5.out))
                  clear cjm cjm2 y0 y1 y2 y3 f0 f1 f2 f3
                  go_loopg [8] n1 (fun gg v8 wr => ∃ j : Nat, v8 = .int .i64 (j : Int) ∧ j ≤ n1 ∧ n1 - j ≤ gg ∧ Aside0 (wr.heap[w.heap.size]? = some (.cells #[.slice A0 n0 c0, .slice A1 n1 c1, .slice A2 n2 c2, .slice A3 0 c3] 28 (0, 0))) ∧ Aside0 (Below w.heap.size w wr))
                  case atStart => exact ⟨0, rfl, Nat.zero_le _, Nat.le_refl _, HW5, B5⟩
                  case round =>
                    clear HW5 B5 HW HB
                    obtain ⟨j, rfl, hj, hm, HW, HB⟩ := hrel
                    have y1 : wr.cell? ⟨w.heap.size, 1, none⟩ = some (.slice A1 n1 c1) := (blk_cell HW.out 1).trans rfl
                    by_cases hjn : j < n1
                    · have cjm : decide ((j : Int) < (n1 : Int)) = true := by simp; omega
                      have cjm2 : decide (j < n1) = true := by simp; omega
                      have p1 : (0 : Int) ≤ (j : Int) := by omega
                      have p2 : (j : Int) < (n1 : Int) := by omega
                      have w1 : wrap64 ((j : Int) + 1) = (j : Int) + 1 := by have := HN.out; unfold wrap64; omega
                      obtain ⟨ad, rfl, _, _, _, _, _, h5⟩ := at_T63 X1.out (j : Int) p1 p2
                      rw [Int.toNat_natCast] at h5
                      have g5 := cell_below HB.out h5
                      obtain ⟨u, v, hsp⟩ := HSP.out j hjn
                      have CS := Aside0.mk (fun W => ref_Of.calls hsp W)
                      clear h5 hsp
                      generalize rd_T63 stops (j : Int) = c at g5 CS
                      have hu101 := Tryz.underlying101
                      go_wp2_with (first | (go_at_call 48; refine (CS.out _).mono ?_; rintro e w7 ⟨rfl, hb⟩; have B7 := Aside0.mk (HB.out.trans (hb.mono HB.out.size)); have HW7 := Aside0.mk ((hb.block _ (Array.getElem?_eq_some_iff.1 HW.out).1).trans HW.out); clear hb y1 g5))
                      go_roundg (n1 - (j + 1))
                      case measure => omega
                      case rel => exact ⟨j + 1, by first | rfl | go_num, by omega, Nat.le_refl _, HW7, B7⟩
                    · have cjm : decide ((j : Int) < (n1 : Int)) = false := by simp; omega
                      have cjm2 : decide (j < n1) = false := by simp; omega
                      go_wp2
                      go_ret
                      exact ⟨rfl, HB.out⟩
                · have d1 : decide ((0 : Int) < (n3 : Int)) = true := by simp; omega
                  have d2 : decide (0 < n3) = true := by simp; omega
                  have HRR := Aside0.mk hr
                  clear hl hr
                  go_wp2_with (first | (go_at_call 46; refine (S3.out _ HB.out).mono ?_; rintro e w5 ⟨rfl, hb⟩; have B5 := Aside0.mk (HB.out.trans (hb.mono HB.out.size)); have HW5 := Aside0.mk ((hb.block _ (Array.getElem?_eq_some_iff.1 HW.out).1).trans HW.out); clear hb y0 y1 y2 y3; obtain ⟨⟨y0, y1, y2, y3⟩, f0, f1, f2, f3⟩ := four_of HW5.out) | (go_at_call 47; refine (S4.out _ B5.out HRR.out).mono ?_; rintro e w6 ⟨rfl, hb⟩; have B6 := Aside0.mk (B5.out.trans (hb.mono B5.out.size)); clear hb y0 y1 y2 y3))
                  all_goals (go_ret; exact ⟨rfl, B6.out⟩)
              · go_wp2_with (first | (go_at_call 46; refine (S3.out _ HB.out).mono ?_; rintro e w5 ⟨rfl, hb⟩; have B5 := Aside0.mk (HB.out.trans (hb.mono HB.out.size)); have HW5 := Aside0.mk ((hb.block _ (Array.getElem?_eq_some_iff.1 HW.out).1).trans HW.out); clear hb y0 y1 y2 y3; obtain ⟨⟨y0, y1, y2, y3⟩, f0, f1, f2, f3⟩ := four_of HW5.out))
                go_ret
                exact ⟨rfl, B5.out⟩
end Go.Proofs.YtcdmndhaeiccoaaGreatDoor.P
