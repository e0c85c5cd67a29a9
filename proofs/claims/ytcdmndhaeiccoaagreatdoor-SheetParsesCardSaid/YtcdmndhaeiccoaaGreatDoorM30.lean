/- The document's Parse behind a good head, with spots. -/
import Derived.Test.YtcdmndhaeiccoaaGreatDoorMkit
import Derived.Test.YtcdmndhaeiccoaaGreatDoorM29
namespace Go.Proofs.YtcdmndhaeiccoaaGreatDoor.P
open Go Go.Proofs.YtcdmndhaeiccoaaGreatDoorR
open Go.RowKit Go.Proofs.YtcdmndhaeiccoaaGreatDoorW.PrintWords Go.Proofs.YtcdmndhaeiccoaaGreatDoorW.PrintLast
set_option linter.unusedVariables false
set_option linter.unusedSimpArgs false
set_option maxHeartbeats 8000000
set_option maxRecDepth 100000
theorem ref_parse_spots (t l0 : ByteArray) (ls : List ByteArray) (c n : Nat) (s : Int) (w : World) (h0 : ls[0]? = some l0) (hsz : ∀ x ∈ ls, x.size ≤ 3000) (hll : ls.length ≤ 20000) (hc1 : 1 ≤ c) (hc : c ≤ 64) (hn : 2 * n + 2 ≤ 4096)
    (CL : ∀ W, Calls Tryz.prog 13 #[.string t] W fun r w' => ∃ ad q, r = .returned (.tuple #[.slice (some ad) ls.length q, .int .i64 0]) ∧ Below W.heap.size W w' ∧ w'.cell? ad = some (.string l0) ∧ LinesAt w' w'.heap.size (some ad) ls)
    (CH : ∀ W, Calls Tryz.prog 14 #[.string l0] W fun r w' => r = .returned (.tuple #[.int .i64 c, .int .i64 n, .int .i64 s, .bool true, .int .i64 0]) ∧ Below W.heap.size W w')
    (CK : ∀ W base v0 v1 v2 v3 x, InstAt W base v0 v1 v2 v3 x → goM (stepM ls c n s true) (allM c n true - 1) 1 zI = .ok x → Calls Tryz.prog 16 #[.agg #[v0, v1, v2, v3]] W fun r w' => r = .returned (.int .i64 (chkI x)) ∧ Below W.heap.size W w') :
    Calls Tryz.prog 6 #[.string t] w (AnsP w (outM (finM ls (allM c n true) s (goM (stepM ls c n s true) (allM c n true - 1) 1 zI)))) := by
  have C1 := Aside0.mk CL
  have C2 := Aside0.mk CH
  have C3 := Aside0.mk CK
  have HLL := Aside0.mk hll
  have HSZ := Aside0.mk hsz
  obtain ⟨T, hT⟩ : ∃ T, T = goM (stepM ls c n s true) (allM c n true - 1) 1 zI := ⟨_, rfl⟩
  rw [← hT]
  have HT := Aside0.mk hT
  obtain ⟨m, hm⟩ : ∃ m, m = ls.length := ⟨_, rfl⟩
  have hm0 : m ≠ 0 := by rw [hm]; intro h; rw [List.length_eq_zero_iff.1 h] at h0; cases h0
  have HM := Aside0.mk hm
  have d1 : decide ((m : Int) = 0) = false := by simp [hm0]
  have d2 : (m == 0) = false := by simp [hm0]
  have d3 : ((m : Int) == 0) = false := by simp [hm0]
  have p2 : (0 : Int) < (m : Int) := by omega
  have hu28 := Tryz.underlying28
  have HC := Aside0.mk hc
  have HN := Aside0.mk hn
  rw [← hm] at CL hll
  have C1 := Aside0.mk CL
  have hml : m ≤ 20000 := hll
  clear CL CH CK hT hsz hll hm
  go_enter Tryz.func6, Tryz.ntmps6
  go_wp2_with (first
    | (go_at_call 13; refine (C1.out _).mono ?_; rintro r w1 ⟨ad, q, rfl, hb, hc0, hL⟩; have R1 := Aside0.mk ((hb.block _ (by simp)).trans (heap_alloc_new w zInst)); have B1 := Aside0.mk ((below_alloc (Below.refl w.heap.size w) zInst).trans (hb.mono (by simp))); have L1 := Aside0.mk hL; clear hb hL)
    | (go_at_call 14; refine (C2.out _).mono ?_; rintro r w2 ⟨rfl, hb⟩; have R2 := Aside0.mk ((hb.block _ (Array.getElem?_eq_some_iff.1 R1.out).1).trans R1.out); have B2 := Aside0.mk (B1.out.trans (hb.mono B1.out.size)); have L2 := Aside0.mk (show LinesAt w2 w2.heap.size (some ad) ls from fun j t' hj => by obtain ⟨ad', ha, hlt, hcl⟩ := L1.out j t' hj; exact ⟨ad', ha, Nat.lt_of_lt_of_le hlt hb.size, cell_below hb hcl⟩); clear hb hc0))
  have S1 := Aside0.mk (show StR w (w2.alloc zInst) w2.heap.size (some ad) ls nilV nilV nilV nilV zI from ⟨(heap_old w2 zInst R2.out).trans R2.out, heap_alloc_new w2 zInst, fun j t' hj => by obtain ⟨ad', ha, hlt, hcl⟩ := L2.out j t' hj; exact ⟨ad', ha, hlt, cell_below (below_alloc (Below.refl _ _) _) hcl⟩, instAt_nil _ _, .inr rfl, below_alloc B2.out _, (Array.getElem?_eq_some_iff.1 R2.out).1⟩)
  obtain ⟨all, hall⟩ : ∃ all : Nat, all = 1 + c + (2 * n + 2) + n := ⟨_, rfl⟩
  have HALL := Aside0.mk hall
  have HALM := Aside0.mk (show allM c n true = all by rw [hall]; rfl)
  have hall2 : all ≤ 20000 := by omega
  clear hall d1 d2 d3 p2 hc1 hc hn R1 B1 L1
  go_loopg [15] all (fun gg v15 wr => ∃ (i : Nat) (x : InstP) (A0 A1 A2 A3 : Option Addr) (n0 n1 n2 n3 c0 c1 c2 c3 : Nat), v15 = .int .i64 (i : Int) ∧ 1 ≤ i ∧ i ≤ all ∧ all - i ≤ gg ∧ Aside0 (T = goM (stepM ls c n s true) (all - i) i x) ∧ Aside0 (StR w wr w2.heap.size (some ad) ls (.slice A0 n0 c0) (.slice A1 n1 c1) (.slice A2 n2 c2) (.slice A3 n3 c3) x) ∧ Aside0 (Upto c n i x))
  case atStart => exact ⟨1, zI, none, none, none, none, 0, 0, 0, 0, 0, 0, 0, 0, rfl, Nat.le_refl _, by have := HALL.out; omega, by omega, ⟨by rw [HT.out, HALM.out]⟩, S1, ⟨⟨by simp [zI], by simp [zI], by simp [zI], by simp [zI], by simp [zI], by simp [zI]⟩⟩⟩
  case round =>
    clear S1
    obtain ⟨i, x, A0, A1, A2, A3, n0, n1, n2, n3, c0, c1, c2, c3, rfl, hi1, hia, hgg, HG, S, U⟩ := hrel
    have HGG := Aside0.mk hgg
    have HI1 := Aside0.mk hi1
    clear hgg hi1
    by_cases hj : i < all
    · have e1 : decide ((i : Int) < 1 + (c : Int) + (2 * (n : Int) + 2) + (n : Int)) = true := decide_eq_true (by have := HALL.out; omega)
      have e2 : decide (i < 1 + c + (2 * n + 2) + n) = true := decide_eq_true (by have := HALL.out; omega)
      by_cases hk : i < m
      · have q1 : decide ((i : Int) ≥ (m : Int)) = false := decide_eq_false (by omega)
        have q2 : decide (m ≤ i) = false := decide_eq_false (by omega)
        have q3 : decide ((m : Int) ≤ (i : Int)) = false := decide_eq_false (by omega)
        obtain ⟨ti, hti⟩ : ∃ ti, ls[i]? = some ti := ⟨_, List.getElem?_eq_getElem (by rw [← HM.out]; exact hk)⟩
        have hts := HSZ.out ti (List.mem_of_getElem? hti)
        obtain ⟨ad', ha, hlt, hx⟩ := S.out.lines i ti hti
        cases ha
        have HP := Aside0.mk (show w2.heap.size + 1 ≤ wr.heap.size from (Array.getElem?_eq_some_iff.1 S.out.box).1)
        have hxa := fun o => cell_below (below_alloc (Below.refl wr.heap.size wr) o) hx
        have HXF := Aside0.mk (fun w'' (hB : Below (w2.heap.size + 1) wr w'') => cell_at (P := w2.heap.size + 1) (ad := ad.add i) hB.block hx (by first | omega | (rw [ad_block]; omega)))
        have LR := line_round (s := s) (sp := true) S.out hti hts (by omega) HC.out HN.out (by have := U.out.cars; omega) (by have := U.out.stops; omega) (by have := U.out.rides; omega) (by have := U.out.rows; omega) (fun h => List.length_eq_zero_iff.1 (by have := U.out.rows; omega))
        obtain ⟨⟨b0, b1, b2, b3⟩, -⟩ := four_of S.out.box
        have ne1 : ¬ w2.heap.size = wr.heap.size := by have := HP.out; omega
        have ne2 : ¬ wr.heap.size = w2.heap.size := fun h => ne1 h.symm
        have p1 : (0 : Int) ≤ (i : Int) := by omega
        have p2 : (i : Int) < (m : Int) := by omega
        clear hti hts hlt hml
        rcases LR with ⟨e, hs, he, CB⟩ | ⟨y, hs, CO⟩
        · have HS1 := Aside0.mk hs
          have CB0 := Aside0.mk CB
          have r1 : (e == 0) = false := by simp [he]
          have r2 : (e != 0) = true := by simp [he]
          clear hs he CB
          go_wp2_with fail
          go_region_held2 (fun w' => w'.cell? ⟨w2.heap.size, 0, none⟩ = some (.slice A0 n0 c0) ∧ w'.cell? ⟨w2.heap.size, 1, none⟩ = some (.slice A1 n1 c1) ∧ w'.cell? ⟨w2.heap.size, 2, none⟩ = some (.slice A2 n2 c2) ∧ w'.cell? ⟨w2.heap.size, 3, none⟩ = some (.slice A3 n3 c3) ∧ w'.cell? (ad.add i) = some (.string ti)) (first | exact ⟨b0, b1, b2, b3, hx⟩ | exact ⟨b0, b1, b2, b3, HXF.out _ B4.out⟩ | (refine ⟨?_, ?_, ?_, ?_, HXF.out _ ?_⟩; rotate_left 4; (repeat' first | exact B4.out | exact (below_drew (Below.refl wr.heap.size wr)).mono HP.out | exact (below_alloc (below_drew (Below.refl wr.heap.size wr)) _).mono HP.out | exact B4.out.trans ((below_alloc (Below.refl w4.heap.size w4) _).mono (Nat.le_trans HP.out B4.out.size)) | refine Below.setCell ?_ HP.out _ | refine Below.setCell ?_ (Nat.le_trans HP.out B4.out.size) _); all_goals go_keep)) ((go_at_call 15; refine (CB0.out _ (by first | exact below_drew (Below.refl _ _) | exact below_alloc (below_drew (Below.refl _ _)) _)).mono ?_; rintro r w4 ⟨a0, j0, t0, a1, j1, t1, a2, j2, t2, a3, j3, t3, rfl, hb4, hk4⟩; have B4 := Aside0.mk (show Below (w2.heap.size + 1) wr w4 by first | exact ((below_drew (Below.refl wr.heap.size wr)).mono HP.out).trans hb4.out | exact ((below_alloc (below_drew (Below.refl wr.heap.size wr)) zInst).mono HP.out).trans hb4.out); clear b0 b1 b2 b3; obtain ⟨⟨b0, b1, b2, b3⟩, -⟩ := four_of ((B4.out.block w2.heap.size (Nat.lt_succ_self _)).trans S.out.box); (try (have G16 := Aside0.mk (hk4.out wr.heap.size _ _ (heap_alloc_new wr.drew zInst)); obtain ⟨⟨x0, x1, x2, x3⟩, o0, o1, o2, o3⟩ := four_of G16.out)); clear hb4))
          all_goals
            (first | (obtain ⟨W5, hW5⟩ : ∃ W5, W5 = ((((w4.setCell ⟨wr.heap.size, 0, none⟩ (.slice a0 j0 t0)).setCell ⟨wr.heap.size, 1, none⟩ (.slice a1 j1 t1)).setCell ⟨wr.heap.size, 2, none⟩ (.slice a2 j2 t2)).setCell ⟨wr.heap.size, 3, none⟩ (.slice a3 j3 t3)) := ⟨_, rfl⟩; rw [← hW5]; have D5 := Aside0.mk (show Below (w2.heap.size + 1) wr W5 by rw [hW5]; exact ((((B4.out.setCell (p := ⟨wr.heap.size, 0, none⟩) HP.out _).setCell (p := ⟨wr.heap.size, 1, none⟩) HP.out _).setCell (p := ⟨wr.heap.size, 2, none⟩) HP.out _).setCell (p := ⟨wr.heap.size, 3, none⟩) HP.out _)); have X5 := Aside0.mk (show W5.heap[wr.heap.size]? = some (.cells #[.slice a0 j0 t0, .slice a1 j1 t1, .slice a2 j2 t2, .slice a3 j3 t3] 28 (0, 0)) by rw [hW5]; exact blk_set (blk_set (blk_set (blk_set G16.out 0 _) 1 _) 2 _) 3 _); clear hW5 x0 x1 x2 x3 o0 o1 o2 o3 G16) | (obtain ⟨W5, hW5⟩ : ∃ W5, W5 = w4.alloc (.cells #[.slice a0 j0 t0, .slice a1 j1 t1, .slice a2 j2 t2, .slice a3 j3 t3] 28 (0, 0)) := ⟨_, rfl⟩; rw [← hW5]; have D5 := Aside0.mk (show Below (w2.heap.size + 1) wr W5 by rw [hW5]; exact B4.out.trans ((below_alloc (Below.refl w4.heap.size w4) _).mono (Nat.le_trans HP.out B4.out.size))); have X5 := Aside0.mk (show W5.heap[w4.heap.size]? = some (.cells #[.slice a0 j0 t0, .slice a1 j1 t1, .slice a2 j2 t2, .slice a3 j3 t3] 28 (0, 0)) by rw [hW5]; exact heap_alloc_new w4 _); clear hW5)); have R5 := Aside0.mk ((D5.out.block w.heap.size (by have := S.out.lt; omega)).trans S.out.res); have E5 := Aside0.mk ((D5.out.block w2.heap.size (Nat.lt_succ_self _)).trans S.out.box)
            clear b0 b1 b2 b3
            obtain ⟨⟨y0, y1, y2, y3⟩, f0, f1, f2, f3⟩ := four_of R5.out
            go_wp2
            refine bodyPost_ret (results6_of (v0 := nilV) (v1 := nilV) (v2 := nilV) (v3 := nilV) rfl rfl rfl rfl (blk_set (blk_set (blk_set (blk_set R5.out 0 _) 1 _) 2 _) 3 _)) rfl ?_
            rw [show outM (finM ls (allM c n true) s T) = (zI, 0, (i : Int) + 1, e) by rw [HG.out, go_fail (by omega) HS1.out]; rfl]
            exact ansP_bad (((((S.out.below.trans (D5.out.mono (by have := S.out.lt; omega))).setCell (Nat.le_refl _) _).setCell (Nat.le_refl _) _).setCell (Nat.le_refl _) _).setCell (Nat.le_refl _) _)
        · have HWR := Aside0.mk (show wrap64 ((i : Int) + 1) = ((i + 1 : Nat) : Int) by unfold wrap64; omega)
          have HS1 := Aside0.mk hs
          have CO0 := Aside0.mk CO
          clear hs CO
          go_wp2_with fail
          go_region_held2 (fun w' => w'.cell? ⟨w2.heap.size, 0, none⟩ = some (.slice A0 n0 c0) ∧ w'.cell? ⟨w2.heap.size, 1, none⟩ = some (.slice A1 n1 c1) ∧ w'.cell? ⟨w2.heap.size, 2, none⟩ = some (.slice A2 n2 c2) ∧ w'.cell? ⟨w2.heap.size, 3, none⟩ = some (.slice A3 n3 c3) ∧ w'.cell? (ad.add i) = some (.string ti)) (first | exact ⟨b0, b1, b2, b3, hx⟩ | exact ⟨b0, b1, b2, b3, HXF.out _ B4.out⟩ | (refine ⟨?_, ?_, ?_, ?_, HXF.out _ ?_⟩; rotate_left 4; (repeat' first | exact B4.out | exact (below_drew (Below.refl wr.heap.size wr)).mono HP.out | exact (below_alloc (below_drew (Below.refl wr.heap.size wr)) _).mono HP.out | exact B4.out.trans ((below_alloc (Below.refl w4.heap.size w4) _).mono (Nat.le_trans HP.out B4.out.size)) | refine Below.setCell ?_ HP.out _ | refine Below.setCell ?_ (Nat.le_trans HP.out B4.out.size) _); all_goals go_keep)) ((go_at_call 15; refine (CO0.out _ (by first | exact below_drew (Below.refl _ _) | exact below_alloc (below_drew (Below.refl _ _)) _)).mono ?_; rintro r w4 ⟨a0, j0, t0, a1, j1, t1, a2, j2, t2, a3, j3, t3, rfl, hI4, hn4, hb4, hk4⟩; have B4 := Aside0.mk (show Below (w2.heap.size + 1) wr w4 by first | exact ((below_drew (Below.refl wr.heap.size wr)).mono HP.out).trans hb4.out | exact ((below_alloc (below_drew (Below.refl wr.heap.size wr)) zInst).mono HP.out).trans hb4.out); clear b0 b1 b2 b3; obtain ⟨⟨b0, b1, b2, b3⟩, -⟩ := four_of ((B4.out.block w2.heap.size (Nat.lt_succ_self _)).trans S.out.box); (try (have G16 := Aside0.mk (hk4.out wr.heap.size _ _ (heap_alloc_new wr.drew zInst)); obtain ⟨⟨x0, x1, x2, x3⟩, o0, o1, o2, o3⟩ := four_of G16.out)); clear hb4))
          all_goals
            (first | (obtain ⟨W5, hW5⟩ : ∃ W5, W5 = ((((w4.setCell ⟨wr.heap.size, 0, none⟩ (.slice a0 j0 t0)).setCell ⟨wr.heap.size, 1, none⟩ (.slice a1 j1 t1)).setCell ⟨wr.heap.size, 2, none⟩ (.slice a2 j2 t2)).setCell ⟨wr.heap.size, 3, none⟩ (.slice a3 j3 t3)) := ⟨_, rfl⟩; rw [← hW5]; have D5 := Aside0.mk (show Below (w2.heap.size + 1) wr W5 by rw [hW5]; exact ((((B4.out.setCell (p := ⟨wr.heap.size, 0, none⟩) HP.out _).setCell (p := ⟨wr.heap.size, 1, none⟩) HP.out _).setCell (p := ⟨wr.heap.size, 2, none⟩) HP.out _).setCell (p := ⟨wr.heap.size, 3, none⟩) HP.out _)); have X5 := Aside0.mk (show W5.heap[wr.heap.size]? = some (.cells #[.slice a0 j0 t0, .slice a1 j1 t1, .slice a2 j2 t2, .slice a3 j3 t3] 28 (0, 0)) by rw [hW5]; exact blk_set (blk_set (blk_set (blk_set G16.out 0 _) 1 _) 2 _) 3 _); have I5 := Aside0.mk (show InstAt W5 (w2.heap.size + 1) (.slice a0 j0 t0) (.slice a1 j1 t1) (.slice a2 j2 t2) (.slice a3 j3 t3) y by rw [hW5]; exact instAt_put4 hI4.out G16.out _ _ _ _); clear hW5 x0 x1 x2 x3 o0 o1 o2 o3 G16) | (obtain ⟨W5, hW5⟩ : ∃ W5, W5 = w4.alloc (.cells #[.slice a0 j0 t0, .slice a1 j1 t1, .slice a2 j2 t2, .slice a3 j3 t3] 28 (0, 0)) := ⟨_, rfl⟩; rw [← hW5]; have D5 := Aside0.mk (show Below (w2.heap.size + 1) wr W5 by rw [hW5]; exact B4.out.trans ((below_alloc (Below.refl w4.heap.size w4) _).mono (Nat.le_trans HP.out B4.out.size))); have X5 := Aside0.mk (show W5.heap[w4.heap.size]? = some (.cells #[.slice a0 j0 t0, .slice a1 j1 t1, .slice a2 j2 t2, .slice a3 j3 t3] 28 (0, 0)) by rw [hW5]; exact heap_alloc_new w4 _); have I5 := Aside0.mk (show InstAt W5 (w2.heap.size + 1) (.slice a0 j0 t0) (.slice a1 j1 t1) (.slice a2 j2 t2) (.slice a3 j3 t3) y by rw [hW5]; exact instAt_below hI4.out (below_alloc (Below.refl _ _) _)); clear hW5)); have R5 := Aside0.mk ((D5.out.block w.heap.size (by have := S.out.lt; omega)).trans S.out.res); have E5 := Aside0.mk ((D5.out.block w2.heap.size (Nat.lt_succ_self _)).trans S.out.box)
            clear b0 b1 b2 b3
            obtain ⟨⟨b0, b1, b2, b3⟩, o0, o1, o2, o3⟩ := four_of E5.out
            obtain ⟨⟨x0, x1, x2, x3⟩, -⟩ := four_of X5.out
            go_wp2_with fail
            go_roundg (all - (i + 1))
            case measure => have := HGG.out; omega
            case rel => exact ⟨i + 1, y, a0, a1, a2, a3, j0, j1, j2, j3, t0, t1, t2, t3, by (first | rfl | go_num | rw [HWR.out]), by omega, by omega, Nat.le_refl _, ⟨by rw [HG.out, go_on (by omega) HS1.out, Nat.sub_sub]⟩, ⟨S.out.move D5.out I5.out hn4.out⟩, ⟨step_upto HSZ.out HI1.out U.out HS1.out⟩⟩
      · have q1 : decide ((i : Int) ≥ (m : Int)) = true := decide_eq_true (by omega)
        have q2 : decide (m ≤ i) = true := decide_eq_true (by omega)
        have q3 : decide ((m : Int) ≤ (i : Int)) = true := decide_eq_true (by omega)
        have HTT := Aside0.mk (show outM (finM ls (allM c n true) s T) = (zI, 0, (i : Int) + 1, 20) by rw [HG.out, go_fail (by omega) (step_short (by rw [← HM.out]; omega))]; rfl)
        obtain ⟨⟨y0, y1, y2, y3⟩, f0, f1, f2, f3⟩ := four_of S.out.res
        go_wp2
        refine bodyPost_ret (results6_of (v0 := nilV) (v1 := nilV) (v2 := nilV) (v3 := nilV) rfl rfl rfl rfl (blk_set (blk_set (blk_set (blk_set S.out.res 0 _) 1 _) 2 _) 3 _)) rfl ?_
        rw [HTT.out]
        exact ansP_bad ((((S.out.below.setCell (Nat.le_refl _) _).setCell (Nat.le_refl _) _).setCell (Nat.le_refl _) _).setCell (Nat.le_refl _) _)
    · have HIA := Aside0.mk (show i = all by omega)
      have e1 : decide ((i : Int) < 1 + (c : Int) + (2 * (n : Int) + 2) + (n : Int)) = false := decide_eq_false (by have := HALL.out; have := HIA.out; omega)
      have e2 : decide (i < 1 + c + (2 * n + 2) + n) = false := decide_eq_false (by have := HALL.out; have := HIA.out; omega)
      have HX := Aside0.mk (show T = .ok x by rw [HG.out, HIA.out, Nat.sub_self]; rfl)
      clear hj hia
      by_cases hmm : all < m
      · have g1 : decide ((m : Int) > 1 + (c : Int) + (2 * (n : Int) + 2) + (n : Int)) = true := decide_eq_true (by have := HALL.out; omega)
        have g2 : decide (1 + (c : Int) + (2 * (n : Int) + 2) + (n : Int) < (m : Int)) = true := decide_eq_true (by have := HALL.out; omega)
        have g3 : decide (1 + c + (2 * n + 2) + n < m) = true := decide_eq_true (by have := HALL.out; omega)
        obtain ⟨⟨y0, y1, y2, y3⟩, f0, f1, f2, f3⟩ := four_of S.out.res
        have HTT := Aside0.mk (show outM (finM ls (allM c n true) s T) = (zI, 0, 1 + (c : Int) + (2 * (n : Int) + 2) + (n : Int) + 1, 22) by rw [HX.out, HALM.out]; show outM (if all < ls.length then .error ((all : Int) + 1, 22) else .ok (x, s)) = _; rw [if_pos (by rw [← HM.out]; exact hmm)]; show (zI, (0 : Int), (all : Int) + 1, (22 : Int)) = _; rw [show (all : Int) = 1 + (c : Int) + (2 * (n : Int) + 2) + (n : Int) by have := HALL.out; omega])
        go_wp2
        refine bodyPost_ret (results6_of (v0 := nilV) (v1 := nilV) (v2 := nilV) (v3 := nilV) rfl rfl rfl rfl (blk_set (blk_set (blk_set (blk_set S.out.res 0 _) 1 _) 2 _) 3 _)) rfl ?_
        rw [HTT.out, show wrap64 (1 + (c : Int) + (2 * (n : Int) + 2) + (n : Int) + 1) = 1 + (c : Int) + (2 * (n : Int) + 2) + (n : Int) + 1 by unfold wrap64; have := HALL.out; omega]
        exact ansP_bad ((((S.out.below.setCell (Nat.le_refl _) _).setCell (Nat.le_refl _) _).setCell (Nat.le_refl _) _).setCell (Nat.le_refl _) _)
      · have g1 : decide ((m : Int) > 1 + (c : Int) + (2 * (n : Int) + 2) + (n : Int)) = false := decide_eq_false (by have := HALL.out; omega)
        have g2 : decide (1 + (c : Int) + (2 * (n : Int) + 2) + (n : Int) < (m : Int)) = false := decide_eq_false (by have := HALL.out; omega)
        have g3 : decide (1 + c + (2 * n + 2) + n < m) = false := decide_eq_false (by have := HALL.out; omega)
        have CKK := Aside0.mk (C3.out wr _ _ _ _ _ x S.out.inst (HT.out.symm.trans HX.out))
        have HTT := Aside0.mk (show outM (finM ls (allM c n true) s T) = (if chkI x = 0 then (x, s, 0, 0) else (zI, 0, 0, chkI x)) by rw [HX.out, HALM.out]; show outM (if all < ls.length then .error ((all : Int) + 1, 22) else .ok (x, s)) = _; rw [if_neg (by rw [← HM.out]; exact hmm)]; rfl)
        obtain ⟨⟨b0, b1, b2, b3⟩, -⟩ := four_of S.out.box
        by_cases hch : chkI x = 0
        · rw [hch] at CKK
          have HT2 := Aside0.mk (HTT.out.trans (if_pos hch))
          clear hch
          go_wp2_with (first | (go_at_call 16; refine CKK.out.mono ?_; rintro r w6 ⟨rfl, hb6⟩; have B6 := Aside0.mk hb6; have R6 := Aside0.mk ((hb6.block _ (Array.getElem?_eq_some_iff.1 S.out.res).1).trans S.out.res); have E6 := Aside0.mk ((hb6.block _ (Array.getElem?_eq_some_iff.1 S.out.box).1).trans S.out.box); clear hb6 b0 b1 b2 b3; obtain ⟨⟨b0, b1, b2, b3⟩, -⟩ := four_of E6.out; obtain ⟨⟨y0, y1, y2, y3⟩, f0, f1, f2, f3⟩ := four_of R6.out))
          refine bodyPost_ret (results6_of (v0 := .slice A0 n0 c0) (v1 := .slice A1 n1 c1) (v2 := .slice A2 n2 c2) (v3 := .slice A3 n3 c3) rfl rfl rfl rfl (blk_set (blk_set (blk_set (blk_set R6.out 0 _) 1 _) 2 _) 3 _)) rfl ?_
          rw [HT2.out]
          exact ⟨⟨_, _, _, _, rfl, instAt_put4 (instAt_lower (instAt_below S.out.inst B6.out) (by have := S.out.lt; omega)) R6.out _ _ _ _⟩, ((((S.out.below.trans (B6.out.mono S.out.below.size)).setCell (Nat.le_refl _) _).setCell (Nat.le_refl _) _).setCell (Nat.le_refl _) _).setCell (Nat.le_refl _) _⟩
        · have HT2 := Aside0.mk (HTT.out.trans (if_neg hch))
          obtain ⟨e, he⟩ : ∃ e, e = chkI x := ⟨_, rfl⟩
          rw [← he] at CKK HT2 hch
          have r1 : (e == 0) = false := by simp [hch]
          have r2 : (e != 0) = true := by simp [hch]
          clear he hch
          go_wp2_with (first | (go_at_call 16; refine CKK.out.mono ?_; rintro r w6 ⟨rfl, hb6⟩; have B6 := Aside0.mk hb6; have R6 := Aside0.mk ((hb6.block _ (Array.getElem?_eq_some_iff.1 S.out.res).1).trans S.out.res); clear hb6 b0 b1 b2 b3; obtain ⟨⟨y0, y1, y2, y3⟩, f0, f1, f2, f3⟩ := four_of R6.out))
          refine bodyPost_ret (results6_of (v0 := nilV) (v1 := nilV) (v2 := nilV) (v3 := nilV) rfl rfl rfl rfl (blk_set (blk_set (blk_set (blk_set R6.out 0 _) 1 _) 2 _) 3 _)) rfl ?_
          rw [HT2.out]
          exact ansP_bad (((((S.out.below.trans (B6.out.mono S.out.below.size)).setCell (Nat.le_refl _) _).setCell (Nat.le_refl _) _).setCell (Nat.le_refl _) _).setCell (Nat.le_refl _) _)
end Go.Proofs.YtcdmndhaeiccoaaGreatDoor.P
