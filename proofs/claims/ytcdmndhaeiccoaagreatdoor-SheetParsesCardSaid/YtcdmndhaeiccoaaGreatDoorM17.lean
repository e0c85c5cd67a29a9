/- The document's times, bounds, loads. -/
import Derived.Test.YtcdmndhaeiccoaaGreatDoorMkit
import Derived.Test.YtcdmndhaeiccoaaGreatDoorM16
namespace Go.Proofs.YtcdmndhaeiccoaaGreatDoor.P
open Go Go.Proofs.YtcdmndhaeiccoaaGreatDoorR
open Go.RowKit Go.Proofs.YtcdmndhaeiccoaaGreatDoorW.PrintWords Go.Proofs.YtcdmndhaeiccoaaGreatDoorW.PrintLast
set_option linter.unusedVariables false
set_option linter.unusedSimpArgs false
set_option maxHeartbeats 8000000
set_option maxRecDepth 100000
attribute [local go_sem] run_store_complex
theorem refTime.calls (n : Int) (w : World) : Calls Tryz.prog 45 #[.int .i64 n] w fun e w' => e = .returned (.bool (timeB n)) ∧ w' = w := by
  unfold timeB
  cases d1 : decide (0 ≤ n)
  · go_enter Tryz.func45, Tryz.ntmps45
    go_wp2
    go_ret
    exact ⟨rfl, rfl⟩
  · go_enter Tryz.func45, Tryz.ntmps45
    go_wp2
    go_ret
    exact ⟨rfl, rfl⟩
theorem refRight.calls (s t : Int) (w : World) : Calls Tryz.prog 44 #[.agg #[.int .i64 s, .int .i64 t]] w fun e w' => e = .returned (.bool (capB s t)) ∧ Below w.heap.size w w' := by
  unfold capB
  have HB := Aside0.mk (below_alloc (Below.refl w.heap.size w) (.cells #[.int .i64 s, .int .i64 t] 58 (0, 0)))
  cases d1 : decide (0 ≤ s) <;> cases d2 : decide (s ≤ 1000) <;> cases d3 : decide (0 ≤ t) <;> cases d4 : decide (t ≤ 1000)
  all_goals
    go_enter Tryz.func44, Tryz.ntmps44
    go_wp2
    go_ret
    exact ⟨by first | rfl | (simp; done), HB.out⟩
theorem ref_bad.calls (p : Lie) (x : InstP) (w : World) (h : InC w p x) (hn : x.stops.length = 2 * x.rides.length + 2) (hb : x.stops.length ≤ 4096) (hs : ∀ s ∈ x.stops, Sm s.f0.f0 ∧ Sm s.f0.f1) :
    Calls Tryz.prog 46 #[.agg (instCs p x)] w fun e w' => e = .returned (.bool (loadsBad x)) ∧ Below w.heap.size w w' := by
  obtain ⟨A0, c0, A1, c1, A2, c2, A3, c3⟩ := p
  have HX := Aside0.mk h.h1
  show Calls Tryz.prog 46 #[.agg #[.slice A0 x.cars.length c0, .slice A1 x.stops.length c1, .slice A2 x.rides.length c2, .slice A3 x.rows.length c3]] w _
  have HS := Aside0.mk (fun (j : Nat) (hj : j < x.stops.length) => hs (rd_T63 x.stops (j : Int)) (by unfold rd_T63; rw [rd_at z63 x.stops j hj]; exact List.getElem_mem hj))
  have HH := Aside0.mk (fun (j : Nat) (hj : j < x.stops.length) (hbad : loadBad x.rides.length x.stops j = true) => show (List.range x.stops.length).any (loadBad x.rides.length x.stops) = true from List.any_eq_true.2 ⟨j, List.mem_range.2 hj, hbad⟩)
  have HM := Aside0.mk (fun (hm : ∀ j : Nat, j < x.stops.length → loadBad x.rides.length x.stops j = false) => show (List.range x.stops.length).any (loadBad x.rides.length x.stops) = false by
    rw [Bool.eq_false_iff]
    intro hc
    obtain ⟨j, hj, hbad⟩ := List.any_eq_true.1 hc
    rw [hm j (List.mem_range.1 hj)] at hbad
    cases hbad)
  unfold loadsBad
  generalize (List.range x.stops.length).any (loadBad x.rides.length x.stops) = z at HH HM ⊢
  obtain ⟨m, hm⟩ : ∃ m, m = x.stops.length := ⟨_, rfl⟩
  obtain ⟨n, hn'⟩ : ∃ n, n = x.rides.length := ⟨_, rfl⟩
  rw [← hm, ← hn'] at hn
  rw [← hm] at HX HS HH HM hb ⊢
  rw [← hn'] at HH HM ⊢
  generalize x.cars.length = n0
  generalize x.rows.length = n3
  have HMN := Aside0.mk (And.intro hn hb)
  have f1 : wrap64 (2 * (n : Int)) = 2 * (n : Int) := by unfold wrap64; omega
  have f2 : wrap64 (2 * (n : Int) + 1) = 2 * (n : Int) + 1 := by unfold wrap64; omega
  obtain ⟨st, hst⟩ : ∃ st, st = x.stops := ⟨_, rfl⟩
  rw [← hst] at HX HS HH HM
  clear h hs hst hm hn' hn hb
  have HB := Aside0.mk (below_alloc (Below.refl w.heap.size w) (.cells #[.slice A0 n0 c0, .slice A1 m c1, .slice A2 n c2, .slice A3 n3 c3] 28 (0, 0)))
  have HW := Aside0.mk (heap_alloc_new w (.cells #[.slice A0 n0 c0, .slice A1 m c1, .slice A2 n c2, .slice A3 n3 c3] 28 (0, 0)))
  go_enter Tryz.func46, Tryz.ntmps46
  go_wp2
  go_loopg [4, 5] m (fun gg v4 v5 wr => ∃ j : Nat, v4 = .int .i64 (j : Int) ∧ j ≤ m ∧ m - j ≤ gg ∧ Aside0 (∀ i : Nat, i < j → loadBad n st i = false) ∧ Aside0 (wr.heap[w.heap.size]? = some (.cells #[.slice A0 n0 c0, .slice A1 m c1, .slice A2 n c2, .slice A3 n3 c3] 28 (0, 0))) ∧ Aside0 (Below w.heap.size w wr))
  case atStart => exact ⟨0, rfl, Nat.zero_le _, Nat.le_refl _, ⟨fun i hi => absurd hi (Nat.not_lt_zero _)⟩, HW, HB⟩
  case round =>
    clear HW HB
    obtain ⟨j, rfl, hj, hm, K1, HW, HB⟩ := hrel
    by_cases hjn : j < m
    · have cjm : decide ((j : Int) < (m : Int)) = true := by simp; omega
      have p1 : (0 : Int) ≤ (j : Int) := by omega
      have p2 : (j : Int) < (m : Int) := by omega
      have w1 : wrap64 ((j : Int) + 1) = (j : Int) + 1 := by have := HMN.out; unfold wrap64; omega
      obtain ⟨ad, rfl, h0, h1, h2, h3, h4, h5⟩ := at_T63 HX.out (j : Int) p1 p2
      rw [Int.toNat_natCast] at h0 h1 h2 h3 h4 h5
      have g0 := cell_below HB.out h0
      have g1 := cell_below HB.out h1
      have g2 := cell_below HB.out h2
      have g3 := cell_below HB.out h3
      have g4 := cell_below HB.out h4
      have g5 := cell_below HB.out h5
      clear h0 h1 h2 h3 h4 h5
      have y0 : wr.cell? ⟨w.heap.size, 0, none⟩ = some (.slice A0 n0 c0) := (blk_cell HW.out 0).trans rfl
      have y1 : wr.cell? ⟨w.heap.size, 1, none⟩ = some (.slice (some ad) m c1) := (blk_cell HW.out 1).trans rfl
      have y2 : wr.cell? ⟨w.heap.size, 2, none⟩ = some (.slice A2 n c2) := (blk_cell HW.out 2).trans rfl
      have y3 : wr.cell? ⟨w.heap.size, 3, none⟩ = some (.slice A3 n3 c3) := (blk_cell HW.out 3).trans rfl
      have ya1 := fun o => cell_below (below_alloc (Below.refl wr.heap.size wr) o) y1
      have ga2 := fun o => cell_below (below_alloc (Below.refl wr.heap.size wr) o) g2
      clear y0 y2 y3 g3 g4 g5
      have HNX := Aside0.mk (fun hbad : loadBad n st j = false => show ∀ i : Nat, i < j + 1 → loadBad n st i = false from fun i hi => by
        by_cases e : i = j
        · subst e; exact hbad
        · exact K1.out i (by omega))
      have HST := Aside0.mk (HH.out j hjn)
      generalize hsj : rd_T63 st (j : Int) = sj at g0 g1 g2 ga2
      obtain ⟨⟨a, b⟩, m1, e1, l1, ⟨X, Y⟩⟩ := sj
      have HSJ := Aside0.mk hsj
      clear hsj
      by_cases hA : j = 0
      · have q0 : ((j : Int) == 0) = true := by rw [hA]; rfl
        have HV := Aside0.mk (show loadBad n st j = (!(a == 0 && b == 0) || !(m1 == 0)) by unfold loadBad; rw [if_pos (.inl hA), HSJ.out])
        clear hA
        cases qa : (a == 0)
        · have qa2 : (a != 0) = true := by rw [bne, qa]; rfl
          have hv := Aside0.mk (show loadBad n st j = true by rw [HV.out, qa]; rfl)
          have hz := HST.out (by exact hv.out)
          go_wp2
          go_ret
          exact ⟨by first | rfl | (rw [hz]; rfl), below_alloc HB.out _⟩
        · have qa2 : (a != 0) = false := by rw [bne, qa]; rfl
          cases qb : (b == 0)
          · have qb2 : (b != 0) = true := by rw [bne, qb]; rfl
            have hv := Aside0.mk (show loadBad n st j = true by rw [HV.out, qa, qb]; rfl)
            have hz := HST.out (by exact hv.out)
            go_wp2
            go_ret
            exact ⟨by first | rfl | (rw [hz]; rfl), below_alloc HB.out _⟩
          · have qb2 : (b != 0) = false := by rw [bne, qb]; rfl
            cases qm : (m1 == 0)
            · have qm2 : (m1 != 0) = true := by rw [bne, qm]; rfl
              have hv := Aside0.mk (show loadBad n st j = true by rw [HV.out, qa, qb, qm]; rfl)
              have hz := HST.out (by exact hv.out)
              go_wp2
              go_ret
              exact ⟨by first | rfl | (rw [hz]; rfl), below_alloc HB.out _⟩
            · have qm2 : (m1 != 0) = false := by rw [bne, qm]; rfl
              have hv := Aside0.mk (show loadBad n st j = false by rw [HV.out, qa, qb, qm]; rfl)
              go_wp2
              go_roundg (m - (j + 1))
              case measure => omega
              case rel => exact ⟨j + 1, by first | rfl | go_num, by omega, Nat.le_refl _, ⟨HNX.out (by exact hv.out)⟩, ⟨(heap_old wr _ HW.out).trans HW.out⟩, ⟨below_alloc HB.out _⟩⟩
      · by_cases hA' : j = 2 * n + 1
        · have q0 : ((j : Int) == 0) = false := by simp; omega
          have q1 : ((j : Int) == 2 * (n : Int) + 1) = true := by rw [hA']; simp
          have HV := Aside0.mk (show loadBad n st j = (!(a == 0 && b == 0) || !(m1 == 0)) by unfold loadBad; rw [if_pos (.inr hA'), HSJ.out])
          clear hA hA'
          cases qa : (a == 0)
          · have qa2 : (a != 0) = true := by rw [bne, qa]; rfl
            have hv := Aside0.mk (show loadBad n st j = true by rw [HV.out, qa]; rfl)
            have hz := HST.out (by exact hv.out)
            go_wp2
            go_ret
            exact ⟨by first | rfl | (rw [hz]; rfl), below_alloc HB.out _⟩
          · have qa2 : (a != 0) = false := by rw [bne, qa]; rfl
            cases qb : (b == 0)
            · have qb2 : (b != 0) = true := by rw [bne, qb]; rfl
              have hv := Aside0.mk (show loadBad n st j = true by rw [HV.out, qa, qb]; rfl)
              have hz := HST.out (by exact hv.out)
              go_wp2
              go_ret
              exact ⟨by first | rfl | (rw [hz]; rfl), below_alloc HB.out _⟩
            · have qb2 : (b != 0) = false := by rw [bne, qb]; rfl
              cases qm : (m1 == 0)
              · have qm2 : (m1 != 0) = true := by rw [bne, qm]; rfl
                have hv := Aside0.mk (show loadBad n st j = true by rw [HV.out, qa, qb, qm]; rfl)
                have hz := HST.out (by exact hv.out)
                go_wp2
                go_ret
                exact ⟨by first | rfl | (rw [hz]; rfl), below_alloc HB.out _⟩
              · have qm2 : (m1 != 0) = false := by rw [bne, qm]; rfl
                have hv := Aside0.mk (show loadBad n st j = false by rw [HV.out, qa, qb, qm]; rfl)
                go_wp2
                go_roundg (m - (j + 1))
                case measure => omega
                case rel => exact ⟨j + 1, by first | rfl | go_num, by omega, Nat.le_refl _, ⟨HNX.out (by exact hv.out)⟩, ⟨(heap_old wr _ HW.out).trans HW.out⟩, ⟨below_alloc HB.out _⟩⟩
        · have hMN := HMN.out.1
          by_cases hB : j ≤ n
          · have q0 : ((j : Int) == 0) = false := by simp; omega
            have q1 : ((j : Int) == 2 * (n : Int) + 1) = false := by simp; omega
            have q2 : decide ((j : Int) ≤ (n : Int)) = true := by simp; omega
            have q3 : decide (j ≤ n) = true := by simp; omega
            have CR := Aside0.mk (fun W => refRight.calls a b W)
            have HV := Aside0.mk (show loadBad n st j = !capB a b by unfold loadBad; rw [if_neg (by omega), if_pos hB, HSJ.out])
            generalize capB a b = z1 at CR HV
            clear hA hA' hMN hB
            have HB1 := Aside0.mk (below_alloc HB.out (.cells #[.int .i64 a, .int .i64 b] 58 (0, 0)))
            have HW1 := Aside0.mk ((heap_old wr (.cells #[.int .i64 a, .int .i64 b] 58 (0, 0)) HW.out).trans HW.out)
            cases z1
            · have hz := HST.out HV.out
              go_wp2_with (first | (go_at_call 44; refine (CR.out _).mono ?_; rintro e w3 ⟨rfl, hb⟩; have B3 := Aside0.mk (HB1.out.trans (hb.mono HB1.out.size)); clear hb))
              go_ret
              exact ⟨by first | rfl | (rw [hz]; rfl), B3.out⟩
            · go_wp2_with (first | (go_at_call 44; refine (CR.out _).mono ?_; rintro e w3 ⟨rfl, hb⟩; have B3 := Aside0.mk (HB1.out.trans (hb.mono HB1.out.size)); have HW3 := Aside0.mk ((hb.block _ (Array.getElem?_eq_some_iff.1 HW1.out).1).trans HW1.out); clear hb))
              go_roundg (m - (j + 1))
              case measure => omega
              case rel => exact ⟨j + 1, by first | rfl | go_num, by omega, Nat.le_refl _, ⟨HNX.out HV.out⟩, HW3, B3⟩
          · have HV := Aside0.mk (show loadBad n st j = !(a == -(rd_T63 st ((j - n : Nat) : Int)).f0.f0 && b == -(rd_T63 st ((j - n : Nat) : Int)).f0.f1) by unfold loadBad; rw [if_neg (by omega), if_neg hB, HSJ.out])
            have q0 : ((j : Int) == 0) = false := by simp; omega
            have q1 : ((j : Int) == 2 * (n : Int) + 1) = false := by simp; omega
            have q2 : decide ((j : Int) ≤ (n : Int)) = false := by simp; omega
            have q3 : decide (j ≤ n) = false := by simp; omega
            obtain ⟨r, hr⟩ : ∃ r, r = j - n := ⟨_, rfl⟩
            rw [← hr] at HV
            have q4 : wrap64 ((j : Int) - (n : Int)) = (r : Int) := by have := HMN.out; unfold wrap64; omega
            have q5 : IntKind.i64.wrap ((j : Int) - (n : Int)) = (r : Int) := by have := HMN.out; rw [IntKind.wrap_i64]; omega
            have r1 : (0 : Int) ≤ (r : Int) := by omega
            have r2 : (r : Int) < (m : Int) := by omega
            have HSM := HS.out r (by omega)
            obtain ⟨ad2, e2, k0, k1, _, _, _, _⟩ := at_T63 HX.out (r : Int) r1 r2
            obtain rfl := Option.some.inj e2
            rw [Int.toNat_natCast] at k0 k1
            have k0 := fun o => cell_below (below_alloc (Below.refl wr.heap.size wr) o) (cell_below HB.out k0)
            have k1 := fun o => cell_below (below_alloc (Below.refl wr.heap.size wr) o) (cell_below HB.out k1)
            clear e2
            generalize rd_T63 st (r : Int) = sr at HSM HV k0 k1
            obtain ⟨⟨a', b'⟩, m2, e2, l2, ⟨X2, Y2⟩⟩ := sr
            have u1 : wrap64 (-a') = -a' := by obtain ⟨⟨h1, h2⟩, h3, h4⟩ := HSM; unfold wrap64; simp at h1 h2 h3 h4; omega
            have u2 : wrap64 (-b') = -b' := by obtain ⟨⟨h1, h2⟩, h3, h4⟩ := HSM; unfold wrap64; simp at h1 h2 h3 h4; omega
            have u3 : IntKind.i64.wrap (-a') = -a' := by rw [IntKind.wrap_i64]; obtain ⟨⟨h1, h2⟩, h3, h4⟩ := HSM; simp at h1 h2 h3 h4; omega
            have u4 : IntKind.i64.wrap (-b') = -b' := by rw [IntKind.wrap_i64]; obtain ⟨⟨h1, h2⟩, h3, h4⟩ := HSM; simp at h1 h2 h3 h4; omega
            clear HSM hA hA' hMN hB hr
            have HB1 := Aside0.mk (below_alloc HB.out (.cells #[.int .i64 a, .int .i64 b] 58 (0, 0)))
            have HW1 := Aside0.mk ((heap_old wr (.cells #[.int .i64 a, .int .i64 b] 58 (0, 0)) HW.out).trans HW.out)
            cases qa : (a == -a')
            · have qa2 : (a != -a') = true := by rw [bne, qa]; rfl
              have hv := Aside0.mk (show loadBad n st j = true by rw [HV.out, qa]; rfl)
              have hz := HST.out hv.out
              go_wp2
              go_quiet (fail)
              go_wp2
              go_ret
              exact ⟨by first | rfl | (rw [hz]; rfl), pw_below_drewN HB1.out _⟩
            · have qa2 : (a != -a') = false := by rw [bne, qa]; rfl
              cases qb : (b == -b')
              · have qb2 : (b != -b') = true := by rw [bne, qb]; rfl
                have hv := Aside0.mk (show loadBad n st j = true by rw [HV.out, qa, qb]; rfl)
                have hz := HST.out hv.out
                go_wp2
                go_quiet (fail)
                go_wp2
                go_ret
                exact ⟨by first | rfl | (rw [hz]; rfl), pw_below_drewN HB1.out _⟩
              · have qb2 : (b != -b') = false := by rw [bne, qb]; rfl
                have hv := Aside0.mk (show loadBad n st j = false by rw [HV.out, qa, qb]; rfl)
                go_wp2
                go_quiet (fail)
                go_wp2
                go_roundg (m - (j + 1))
                case measure => omega
                case rel => exact ⟨j + 1, by first | rfl | go_num, by omega, Nat.le_refl _, ⟨HNX.out hv.out⟩, ⟨HW1.out⟩, ⟨pw_below_drewN HB1.out _⟩⟩
    · have cjm : decide ((j : Int) < (m : Int)) = false := by simp; omega
      have y1 : wr.cell? ⟨w.heap.size, 1, none⟩ = some (.slice A1 m c1) := (blk_cell HW.out 1).trans rfl
      have hz := HM.out (fun i hi => K1.out i (by omega))
      go_wp2
      all_goals (go_ret; exact ⟨by first | rfl | (rw [hz]; rfl), HB.out⟩)
end Go.Proofs.YtcdmndhaeiccoaaGreatDoor.P
