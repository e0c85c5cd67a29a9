/- The document's matrix. -/
import Derived.Test.YtcdmndhaeiccoaaGreatDoorMkit
import Derived.Test.YtcdmndhaeiccoaaGreatDoorM17
namespace Go.Proofs.YtcdmndhaeiccoaaGreatDoor.P
open Go Go.Proofs.YtcdmndhaeiccoaaGreatDoorR
open Go.RowKit Go.Proofs.YtcdmndhaeiccoaaGreatDoorW.PrintWords Go.Proofs.YtcdmndhaeiccoaaGreatDoorW.PrintLast
set_option linter.unusedVariables false
set_option linter.unusedSimpArgs false
set_option maxHeartbeats 8000000
set_option maxRecDepth 100000
theorem ref_matrix.calls (p : Lie) (x : InstP) (w : World) (h : InC w p x) (hn : x.rows.length = x.stops.length) (hr : ∀ r ∈ x.rows, r.length = x.stops.length) (hb : x.stops.length ≤ 4096) :
    Calls Tryz.prog 47 #[.agg (instCs p x)] w fun e w' => e = .returned (.int .i64 (if matB x then 23 else 0)) ∧ Below w.heap.size w w' := by
  obtain ⟨A0, c0, A1, c1, A2, c2, A3, c3⟩ := p
  have HX := Aside0.mk h.h3
  show Calls Tryz.prog 47 #[.agg #[.slice A0 x.cars.length c0, .slice A1 x.stops.length c1, .slice A2 x.rides.length c2, .slice A3 x.rows.length c3]] w _
  have HH := Aside0.mk (fun j hj => any_hit ([] : List Int) (fun r => r.any badTime) x.rows j hj)
  have HM := Aside0.mk (any_miss ([] : List Int) (fun r => r.any badTime) x.rows)
  have HLN := Aside0.mk (fun (j : Nat) (hj : j < x.rows.length) => hr (rd_L6 x.rows (j : Int)) (by unfold rd_L6; rw [rd_at [] x.rows j hj]; exact List.getElem_mem hj))
  unfold matB
  obtain ⟨n, hnn⟩ : ∃ n, n = x.stops.length := ⟨_, rfl⟩
  rw [hn, ← hnn] at HX
  rw [hn, ← hnn]
  rw [← hnn] at hb HLN
  have hn' : x.rows.length = n := hn.trans hnn.symm
  generalize x.rows.any (fun r => r.any badTime) = z at HH HM ⊢
  have HN := Aside0.mk hb
  clear h hn hr hnn hb
  generalize x.cars.length = n0
  generalize x.rides.length = n2
  obtain ⟨rows, hrows⟩ : ∃ rows, rows = x.rows := ⟨_, rfl⟩
  rw [← hrows] at HX HH HM hn' HLN
  have HR := Aside0.mk hn'
  clear hrows hn'
  have HB := Aside0.mk (below_alloc (Below.refl w.heap.size w) (.cells #[.slice A0 n0 c0, .slice A1 n c1, .slice A2 n2 c2, .slice A3 n c3] 28 (0, 0)))
  have HW := Aside0.mk (heap_alloc_new w (.cells #[.slice A0 n0 c0, .slice A1 n c1, .slice A2 n2 c2, .slice A3 n c3] 28 (0, 0)))
  have HT := Aside0.mk refTime.calls
  have q1 : ((n : Int) == (n : Int)) = true := by simp
  have q2 : ((n : Int) != (n : Int)) = false := by simp
  go_enter Tryz.func47, Tryz.ntmps47
  go_wp2
  go_loopg [3] n (fun gg v3 wr => ∃ j : Nat, v3 = .int .i64 (j : Int) ∧ j ≤ n ∧ n - j ≤ gg ∧ Aside0 (wr.heap[w.heap.size]? = some (.cells #[.slice A0 n0 c0, .slice A1 n c1, .slice A2 n2 c2, .slice A3 n c3] 28 (0, 0))) ∧ Aside0 (Below w.heap.size w wr))
  case atStart => exact ⟨0, rfl, Nat.zero_le _, Nat.le_refl _, HW, HB⟩
  case round =>
    clear HW HB
    obtain ⟨j, rfl, hj, hm, HW, HB⟩ := hrel
    have y1 : wr.cell? ⟨w.heap.size, 1, none⟩ = some (.slice A1 n c1) := (blk_cell HW.out 1).trans rfl
    have y3 : wr.cell? ⟨w.heap.size, 3, none⟩ = some (.slice A3 n c3) := (blk_cell HW.out 3).trans rfl
    by_cases hjn : j < n
    · have cjm : decide ((j : Int) < (n : Int)) = true := by simp; omega
      have p1 : (0 : Int) ≤ (j : Int) := by omega
      have p2 : (j : Int) < (n : Int) := by omega
      have w1 : wrap64 ((j : Int) + 1) = (j : Int) + 1 := by have := HN.out; unfold wrap64; omega
      obtain ⟨ad, B0, q0, rfl, h0, hq, hC⟩ := at_L6 HX.out (j : Int) p1 p2
      rw [Int.toNat_natCast, HLN.out j (by have := HR.out; omega)] at h0
      have gh0 := cell_below HB.out h0
      clear h0 hC hq
      go_wp2
      go_quiet (fail)
      go_wp2
      go_roundg (n - (j + 1))
      case measure => omega
      case rel => exact ⟨j + 1, by first | rfl | go_num, by omega, Nat.le_refl _, ⟨HW.out⟩, ⟨pw_below_drewN HB.out _⟩⟩
    · have cjm : decide ((j : Int) < (n : Int)) = false := by simp; omega
      have cjm2 : decide (j < n) = false := by simp; omega
      clear hj hm hjn
      go_wp2
      clear cjm y1 y3
      go_loopg [4, 5] n (fun gg v4 v5 wr => ∃ j : Nat, v4 = .int .i64 (j : Int) ∧ j ≤ n ∧ n - j ≤ gg ∧ Aside0 (∀ i : Nat, i < j → (rows.getD ((i : Int)).toNat []).any badTime = false) ∧ Aside0 (wr.heap[w.heap.size]? = some (.cells #[.slice A0 n0 c0, .slice A1 n c1, .slice A2 n2 c2, .slice A3 n c3] 28 (0, 0))) ∧ Aside0 (Below w.heap.size w wr))
      case atStart => exact ⟨0, rfl, Nat.zero_le _, Nat.le_refl _, ⟨fun i hi => absurd hi (Nat.not_lt_zero _)⟩, HW, HB⟩
      case round =>
        clear HW HB
        obtain ⟨i, rfl, hj, hm, K1, HW, HB⟩ := hrel
        have y3 : wr.cell? ⟨w.heap.size, 3, none⟩ = some (.slice A3 n c3) := (blk_cell HW.out 3).trans rfl
        by_cases hjn : i < n
        · have cjm : decide ((i : Int) < (n : Int)) = true := by simp; omega
          have p1 : (0 : Int) ≤ (i : Int) := by omega
          have p2 : (i : Int) < (n : Int) := by omega
          have w1 : wrap64 ((i : Int) + 1) = (i : Int) + 1 := by have := HN.out; unfold wrap64; omega
          obtain ⟨ad, B0, q0, rfl, h0, hq, hC⟩ := at_L6 HX.out (i : Int) p1 p2
          have hll := HLN.out i (by have := HR.out; omega)
          rw [Int.toNat_natCast] at h0
          have HS := Aside0.mk (fun h : (rd_L6 rows (i : Int)).any badTime = false => show ∀ k : Nat, k < i + 1 → (rows.getD ((k : Int)).toNat []).any badTime = false from fun k hk => by
            by_cases e : k = i
            · subst e; exact h
            · exact K1.out k (by omega))
          have H1 := Aside0.mk (fun h : (rd_L6 rows (i : Int)).any badTime = true => HH.out i (by have := HR.out; omega) h)
          generalize rd_L6 rows (i : Int) = row at h0 hq hC hll HS H1
          rw [hll] at h0 hC hq
          have HCR := Aside0.mk hC
          have HLL := Aside0.mk hll
          have HH0 := Aside0.mk h0
          have HRH := Aside0.mk (fun k hk => any_hit (0 : Int) badTime row k hk)
          have HRM := Aside0.mk (any_miss (0 : Int) badTime row)
          have HMS := Aside0.mk hm
          clear h0 hC hq hll hm hj
          go_wp2
          clear y3
          go_loopg [5] n (fun gi v5 wi => ∃ k : Nat, v5 = .int .i64 (k : Int) ∧ k ≤ n ∧ n - k ≤ gi ∧ Aside0 (∀ l : Nat, l < k → badTime (row.getD ((l : Int)).toNat 0) = false) ∧ Aside0 (wi.heap[w.heap.size]? = some (.cells #[.slice A0 n0 c0, .slice A1 n c1, .slice A2 n2 c2, .slice (some ad) n c3] 28 (0, 0))) ∧ Aside0 (Below w.heap.size w wi))
          case atStart => exact ⟨0, rfl, Nat.zero_le _, Nat.le_refl _, ⟨fun i hi => absurd hi (Nat.not_lt_zero _)⟩, HW, HB⟩
          case round =>
            clear HW HB
            obtain ⟨k, rfl, hj, hm, K2, HW, HB⟩ := hrel
            have y3 := (blk_cell HW.out 3).trans rfl
            have gh0 := cell_below HB.out HH0.out
            by_cases hkn : k < n
            · have ckm : decide ((k : Int) < (n : Int)) = true := by simp; omega
              have r1 : (0 : Int) ≤ (k : Int) := by omega
              have r2 : (k : Int) < (n : Int) := by omega
              have w2 : wrap64 ((k : Int) + 1) = (k : Int) + 1 := by have := HN.out; unfold wrap64; omega
              obtain ⟨ad2, rfl, k0⟩ := Kd.at_int HCR.out (k : Int) r1 r2
              rw [Int.toNat_natCast] at k0
              have gk0 := cell_below HB.out k0
              have HK := Aside0.mk (fun h : badTime (rd row (k : Int)) = false => show ∀ l : Nat, l < k + 1 → badTime (row.getD ((l : Int)).toNat 0) = false from fun l hl => by
                by_cases e : l = k
                · subst e; exact h
                · exact K2.out l (by omega))
              have HK1 := Aside0.mk (fun h : badTime (rd row (k : Int)) = true => H1.out (HRH.out k (by have := HLL.out; omega) h))
              clear k0
              unfold badTime at HK HK1
              generalize rd row (k : Int) = t at gk0 HK HK1
              have T1 := Aside0.mk (fun W => HT.out t W)
              generalize timeB t = tb at T1 HK HK1
              cases tb
              · have hz := HK1.out rfl
                go_wp2_with (first | (go_at_call 45; refine (T1.out _).mono ?_; rintro e w2 ⟨rfl, rfl⟩))
                go_ret
                exact ⟨by first | rfl | (rw [hz]; rfl), HB.out⟩
              · go_wp2_with (first | (go_at_call 45; refine (T1.out _).mono ?_; rintro e w2 ⟨rfl, rfl⟩))
                go_roundg (n - (k + 1))
                case measure => omega
                case rel => exact ⟨k + 1, by first | rfl | go_num, by omega, Nat.le_refl _, ⟨HK.out rfl⟩, HW, HB⟩
            · have ckm : decide ((k : Int) < (n : Int)) = false := by simp; omega
              have HZ := Aside0.mk (HS.out (HRM.out (fun l hl => K2.out l (by have := HLL.out; omega))))
              go_wp2
              go_roundg (n - (i + 1))
              case measure => have := HMS.out; omega
              case rel => exact ⟨i + 1, by first | rfl | go_num, by omega, Nat.le_refl _, HZ, HW, HB⟩
        · have cjm : decide ((i : Int) < (n : Int)) = false := by simp; omega
          have hz := HM.out (fun k hk => K1.out k (by have := HR.out; omega))
          go_wp2
          all_goals (go_ret; exact ⟨by first | rfl | (rw [hz]; rfl), HB.out⟩)
end Go.Proofs.YtcdmndhaeiccoaaGreatDoor.P
