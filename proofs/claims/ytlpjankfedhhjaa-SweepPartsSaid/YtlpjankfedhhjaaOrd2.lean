/- The order of a list's requests (seat 17). -/
import Derived.Test.YtlpjankfedhhjaaOrd
namespace Go.Proofs.Ytlpjankfedhhjaa.P
open Go.Proofs.YtlpjankfedhhjaaR
open Go.Shelf Go.Sort
open Go.RowKit Go.Proofs.YtlpjankfedhhjaaW.PrintWords Go.Proofs.YtlpjankfedhhjaaW.PrintLast Go.Proofs.YtlpjankfedhhjaaW.PrintMore
set_option linter.unusedVariables false
set_option linter.unusedSimpArgs false
set_option maxHeartbeats 8000000
set_option maxRecDepth 100000
theorem sweep_at.calls (gc gs gr : Nat) (q : Nat) (w : World) (hS : Samp w gs) (hq : q < 5) : Calls Try.prog 15 #[.agg #[.slice (some ⟨gc, 0, none⟩) 2 2, .slice (some ⟨gs, 0, none⟩) 10 10, .slice (some ⟨gr, 0, none⟩) 4 4, .slice none 0 0], .int .i64 (q : Int)] w fun e w' => e = .returned (.complex .f64 (pX q) (pY q)) ∧ Below w.heap.size w w' := by
  have hc := (hS.here (below_alloc (Below.refl _ _) (.cells #[.slice (some ⟨gc, 0, none⟩) 2 2, .slice (some ⟨gs, 0, none⟩) 10 10, .slice (some ⟨gr, 0, none⟩) 4 4, .slice none 0 0] 34))).cell q hq
  rcases (show q = 0 ∨ q = 1 ∨ q = 2 ∨ q = 3 ∨ q = 4 by omega) with rfl | rfl | rfl | rfl | rfl
  all_goals
    simp only [Nat.reduceMul, Nat.reduceAdd] at hc
    generalize pX _ = x at hc ⊢
    generalize pY _ = y at hc ⊢
    go_enter Try.func15, Try.ntmps15
    go_wp2
    go_ret
    exact ⟨rfl, below_alloc (Below.refl _ _) _⟩
def cx : Kd (Nat × Nat) := Kd.scalar (fun p => Value.complex .f64 p.1 p.2) (fun _ => rfl)
def spL (j : Nat) : List (Nat × Nat) := (List.range j).map fun i => (pX (i + 1), pY (i + 1))
theorem spL_succ (j : Nat) : spL (j + 1) = spL j ++ [(pX (j + 1), pY (j + 1))] := by unfold spL; rw [List.range_succ, List.map_append]; rfl
theorem spL_length (j : Nat) : (spL j).length = j := by unfold spL; simp
def oneL (m : Nat) : List Int := (List.range m).map fun (i : Nat) => ((i + 1 : Nat) : Int)
def sA (i : Nat) : Int := [0, 1, -1, 0].getD i 0
def sB (i : Nat) : Int := [-1, 0, 0, 1].getD i 0
theorem fis_neg1 : FIs 13830554455654793216 (-1) := by
  have h := nearest_exact (-1) (by decide)
  exact (show FloatKind.f64.nearest (-1) = 13830554455654793216 by decide) ▸ h
theorem spot_1 : Spot 4607182418800017408 0 1 0 := ⟨fis_one, fis_zero, ⟨by decide, by decide⟩, ⟨by decide, by decide⟩⟩
theorem spot_i : Spot 0 4607182418800017408 0 1 := ⟨fis_zero, fis_one, ⟨by decide, by decide⟩, ⟨by decide, by decide⟩⟩
theorem spot_m1 : Spot 13830554455654793216 0 (-1) 0 := ⟨fis_neg1, fis_zero, ⟨by decide, by decide⟩, ⟨by decide, by decide⟩⟩
theorem spot_mi : Spot 0 13830554455654793216 0 (-1) := ⟨fis_zero, fis_neg1, ⟨by decide, by decide⟩, ⟨by decide, by decide⟩⟩
theorem row_spots {w : World} {base : Nat} {ok : Nat → Prop} {g cap m : Nat} (h : cx.R 40 w base ok (.slice (some ⟨g, 0, none⟩) m cap) (spL m)) (hm : m ≤ 4) : SpotsAt w g m (fun i => pX (i + 1)) (fun i => pY (i + 1)) sA sB := by
  refine ⟨Kd.R_lt h g rfl, fun i hi => ?_, fun i hi => ?_⟩
  · have h' : cx.R 40 w base ok (.slice (some ⟨g, 0, none⟩) (spL m).length cap) (spL m) := by rw [spL_length]; exact h
    obtain ⟨h1, _⟩ := Kd.R_cell (0, 0) h' (i : Int) (by omega) (by rw [spL_length]; omega)
    rw [Int.toNat_natCast] at h1
    refine h1.trans ?_
    have : rdOf (0, 0) (spL m) (i : Int) = (pX (i + 1), pY (i + 1)) := by unfold rdOf spL; simp [hi]
    rw [this]
  · match i, hi with
    | 0, _ => exact spot_mi
    | 1, _ => exact spot_1
    | 2, _ => exact spot_m1
    | 3, _ => exact spot_i
    | i + 4, h => omega
def oL {m : Nat} [Inhabited (Fin m)] (s : Array (Fin m)) (j : Nat) : List Int := (List.range j).map fun i => (((s[i]!).val + 1 : Nat) : Int)
theorem oL_succ {m : Nat} [Inhabited (Fin m)] (s : Array (Fin m)) (j : Nat) : oL s (j + 1) = oL s j ++ [(((s[j]!).val + 1 : Nat) : Int)] := by unfold oL; rw [List.range_succ, List.map_append]; rfl
theorem oL_length {m : Nat} [Inhabited (Fin m)] (s : Array (Fin m)) (j : Nat) : (oL s j).length = j := by unfold oL; simp
theorem info40 : (Try.prog.info? 40).map (fun i => (i.zero, i.size, i.bytes)) = some (some (.complex .f64 0 0), 1, 16) := by kernel_rfl
theorem sweep_Order.calls (gc gs gr m nn : Nat) (A : Option Addr) (c : Nat) (w : World) [Inhabited (Fin m)] (hS : Samp w gs) (hm : 0 < m ∧ m ≤ 4) (hsome : ∀ W, Below w.heap.size w W → Calls Try.prog 14 #[.agg #[.slice (some ⟨gc, 0, none⟩) 2 2, .slice (some ⟨gs, 0, none⟩) 10 10, .slice (some ⟨gr, 0, none⟩) 4 4, .slice none 0 0], .slice A nn c] W fun e w' => SomeIs W w' e m) :
    Calls Try.prog 10 #[.agg #[.slice (some ⟨gc, 0, none⟩) 2 2, .slice (some ⟨gs, 0, none⟩) 10 10, .slice (some ⟨gr, 0, none⟩) 4 4, .slice none 0 0], .slice A nn c] w fun e w' => ∃ v, e = .returned v ∧ Kd.R (Kd.int .i64) 3 w' w.heap.size (fun _ => True) v (oL (swept 0 0 sA sB m) m) ∧ Below w.heap.size w w' := by
  obtain ⟨W, hW⟩ : ∃ W, W = w.alloc (.cells #[.slice (some ⟨gc, 0, none⟩) 2 2, .slice (some ⟨gs, 0, none⟩) 10 10, .slice (some ⟨gr, 0, none⟩) 4 4, .slice none 0 0] 34) := ⟨_, rfl⟩
  have hB0 : Below w.heap.size w W := by rw [hW]; exact below_alloc (Below.refl _ _) _
  have hX : Box W w.heap.size gc gs gr := by rw [hW]; exact box_new gc gs gr w
  have C1 := Aside0.mk (hsome W hB0)
  have HX := Aside0.mk hX
  have HS := Aside0.mk (hS.here hB0)
  have HB0 := Aside0.mk hB0
  have HM := Aside0.mk hm
  have HW := Aside0.mk (show w.alloc (.cells #[.slice (some ⟨gc, 0, none⟩) 2 2, .slice (some ⟨gs, 0, none⟩) 10 10, .slice (some ⟨gr, 0, none⟩) 4 4, .slice none 0 0] 34) = W from hW.symm)
  have hc0 := hX.c0
  have hc1 := hX.c1
  have hc2 := hX.c2
  have hc3 := hX.c3
  clear hS hm hsome hB0 hX
  subst hW
  clear HW
  go_enter Try.func10, Try.ntmps10
  go_wp2_with (first
    | (go_at_call 14; refine C1.out.mono ?_; rintro e w1 ⟨g, cap, rfl, hcap, hg, hz, hb⟩; have d0 := (HX.out.here hb).c0; have d1 := (HX.out.here hb).c1; have d2 := (HX.out.here hb).c2; have d3 := (HX.out.here hb).c3; have HZ := Aside0.mk hz; have B1 := Aside0.mk hb; have HC := Aside0.mk hcap; clear hz hb hcap hg))
  clear hc0 hc1 hc2 hc3 d0 d1 d2 d3
  go_loopg [6, 8, 22] m (fun gg v6 v8 v22 wr => ∃ j : Nat, v22 = .int .i64 (j : Int) ∧ j ≤ m ∧ m - j ≤ gg ∧ Aside0 (cx.R 40 wr w1.heap.size (fun _ => True) v6 (spL j)) ∧ Aside0 (Below w1.heap.size w1 wr))
  case atStart => exact ⟨0, rfl, Nat.zero_le _, Nat.le_refl _, ⟨Kd.R_nil _ _ _ _ _⟩, ⟨Below.refl _ _⟩⟩
  case round =>
    obtain ⟨j, rfl, hj, hmm, HR, HBr⟩ := hrel
    have HXr := Aside0.mk ((HX.out.here B1.out).here HBr.out)
    have d0 := HXr.out.c0
    have d1 := HXr.out.c1
    have d2 := HXr.out.c2
    have d3 := HXr.out.c3
    by_cases hjn : j < m
    · have c1 : decide ((j : Int) < (m : Int)) = true := decide_eq_true (by omega)
      have p1 : (0 : Int) ≤ (j : Int) := by omega
      have p2 : (j : Int) < (m : Int) := by omega
      have k1 := ((HZ.out.here HBr.out).2 j ((j + 1 : Nat) : Int) (by simp [hjn])).1
      have HA := Aside0.mk (sweep_at.calls gc gs gr (j + 1) wr ((HS.out.here B1.out).here HBr.out) (by have := HM.out; omega))
      have HSp := Aside0.mk (spL_succ j)
      have HJ := Aside0.mk (show ((spL j).length + 1) * 16 ≤ 140737488355328 by rw [spL_length]; have := HM.out; omega)
      have HW := Aside0.mk (show wrap64 ((j : Int) + 1) = ((j + 1 : Nat) : Int) by unfold wrap64; have := HM.out; omega)
      generalize pX (j + 1) = x at HA HSp
      generalize pY (j + 1) = y at HA HSp
      go_wp2_with (first
        | (go_at_call 15; refine HA.out.mono ?_; rintro e w3 ⟨rfl, hb⟩; have R2 := Aside0.mk (Kd.R_below HR.out hb); have B2 := Aside0.mk (HBr.out.trans (hb.mono HBr.out.size)); clear hb)
        | ((with_reducible refine gate_builtin (b := .append) (xs := #[.tmp 26, .tmp 30]) rfl ?_); at_builtin; refine Kd.R_append cx (w0 := w1) w1.heap.size rfl (.tmp 26) (.tmp 30) 41 40 (.complex .f64 0 0) 16 rfl Try.underlying41 info40 rfl (by decide) (by omega) u6 (spL j) (x, y) [.complex .f64 x y] (fun _ => True) (fun _ => False) rfl rfl ?aP (fun _ hk => hk.elim) ?aF R2.out B2.out B2.out.size HJ.out ?_; (case aP => exact rfl); (case aF => exact (fun _ _ => trivial)); intro v1 w4 ho hb hg hat; rw [← HSp.out] at ho; have R4 := Aside0.mk ho; have B4 := Aside0.mk hb; have G4 := Aside0.mk hg; clear ho hb hg hat))
      rw [HW.out]
      go_roundg (m - (j + 1))
      case measure => omega
      case rel => exact ⟨j + 1, rfl, by omega, Nat.le_refl _, R4, B4⟩
    · have c1 : decide ((j : Int) < (m : Int)) = false := decide_eq_false (by omega)
      obtain rfl : j = m := by omega
      obtain ⟨gp, cp, hv, hp1, hp2, -⟩ := Kd.R_form HR.out (by rw [spL_length]; exact HM.out.1)
      rw [spL_length] at hv
      subst hv
      have HSA := Aside0.mk (row_spots HR.out HM.out.2)
      have HA := Aside0.mk (sweep_at.calls gc gs gr 0 wr ((HS.out.here B1.out).here HBr.out) (by decide))
      have px0 : pX 0 = 0 := rfl
      have py0 : pY 0 = 0 := rfl
      rw [px0, py0] at HA
      clear px0 py0
      have HP := Aside0.mk HM.out
      go_wp2_with (first
        | (go_at_call 15; refine HA.out.mono ?_; rintro e w3 ⟨rfl, hb⟩; have B2 := Aside0.mk hb; have HQ := Aside0.mk (show SpotsAt w3 gp j (fun i => pX (i + 1)) (fun i => pY (i + 1)) sA sB from ⟨Nat.lt_of_lt_of_le HSA.out.lt hb.size, fun i hi => (hb.cell (p := ⟨gp, i, none⟩) HSA.out.lt).trans (HSA.out.cell i hi), HSA.out.spot⟩); clear hb)
        | (go_at_call 16; refine (spot_Sweep.calls (c := cp) HQ.out spot_zero HP.out.1 (by have := HP.out.2; omega)).mono ?_; rintro e w5 ⟨g2, c2, rfl, hc2, hg2, hrow, hb⟩; have B3 := Aside0.mk hb; have HR3 := Aside0.mk hrow; clear hb hrow hg2))
      have HBw := Aside0.mk (show Below w.heap.size w w5 from
        (HB0.out.trans (B1.out.mono HB0.out.size)).trans ((HBr.out.trans ((B2.out.trans (B3.out.mono B2.out.size)).mono HBr.out.size)).mono (HB0.out.trans (B1.out.mono HB0.out.size)).size))
      have HZ5 := Aside0.mk (show RowZ w5 g (oneL j) from ((HZ.out.here HBr.out).here B2.out).here B3.out)
      have HS5 := Aside0.mk (swept_size 0 0 sA sB j)
      obtain ⟨s, hs⟩ : ∃ s, s = swept 0 0 sA sB j := ⟨_, rfl⟩
      rw [← hs] at HR3 HS5
      have HSW := Aside0.mk hs
      clear hs
      clear HSA HA HQ d0 d1 d2 d3 c1
      go_loopg [9, 11, 38] j (fun gg v9 v11 v38 wq => ∃ i : Nat, v38 = .int .i64 (i : Int) ∧ i ≤ j ∧ j - i ≤ gg ∧ Aside0 (Kd.R (Kd.int .i64) 3 wq w5.heap.size (fun _ => True) v9 (oL s i)) ∧ Aside0 (Below w5.heap.size w5 wq))
      case atStart => exact ⟨0, rfl, Nat.zero_le _, Nat.le_refl _, ⟨Kd.R_nil _ _ _ _ _⟩, ⟨Below.refl _ _⟩⟩
      case round =>
        obtain ⟨i, rfl, hi, him, HO, HBq⟩ := hrel
        by_cases hin : i < j
        · have c1 : decide ((i : Int) < (j : Int)) = true := decide_eq_true (by omega)
          have p1 : (0 : Int) ≤ (i : Int) := by omega
          have p2 : (i : Int) < (j : Int) := by omega
          have hr5 := HR3.out i hin
          have k1 : wr.cell? ⟨g2, i, none⟩ = some (.int .i64 ((s[i]!).val : Int)) := (HBq.out.cell (p := ⟨g2, i, none⟩) (World.block_lt_of_cell? w5 _ hr5)).trans hr5
          have HSp := Aside0.mk (oL_succ s i)
          have hq := (s[i]!).isLt
          generalize (s[i]!).val = q at k1 HSp hq
          have k2 := ((HZ5.out.here HBq.out).2 q ((q + 1 : Nat) : Int) (by simp [oneL, hq])).1
          have p3 : (0 : Int) ≤ (q : Int) := by omega
          have p4 : (q : Int) < (j : Int) := by omega
          have HJ := Aside0.mk (show ((oL s i).length + 1) * 8 ≤ 140737488355328 by rw [oL_length]; have := HM.out; omega)
          have HW := Aside0.mk (show wrap64 ((i : Int) + 1) = ((i + 1 : Nat) : Int) by unfold wrap64; have := HM.out; omega)
          clear hr5 hq
          generalize ((q + 1 : Nat) : Int) = y at k2 HSp
          go_wp2_with (first
            | ((with_reducible refine gate_builtin (b := .append) (xs := #[.tmp 42, .tmp 47]) rfl ?_); at_builtin; refine Kd.R_append (Kd.int .i64) (w0 := w5) w5.heap.size rfl (.tmp 42) (.tmp 47) 22 3 (.int .i64 0) 8 rfl Try.underlying22 info3 rfl (by decide) (by omega) u9 (oL s i) y [.int .i64 y] (fun _ => True) (fun _ => False) rfl rfl ?aP (fun _ hk => hk.elim) ?aF HO.out HBq.out HBq.out.size HJ.out ?_; (case aP => exact rfl); (case aF => exact (fun _ _ => trivial)); intro v1 w6 ho hb hg hat; rw [← HSp.out] at ho; have R4 := Aside0.mk ho; have B4 := Aside0.mk hb; clear ho hb hg hat))
          rw [HW.out]
          go_roundg (j - (i + 1))
          case measure => omega
          case rel => exact ⟨i + 1, rfl, by omega, Nat.le_refl _, R4, B4⟩
        · have c1 : decide ((i : Int) < (j : Int)) = false := decide_eq_false (by omega)
          obtain rfl : i = j := by omega
          go_wp2
          go_ret
          refine ⟨u9, rfl, ?_, HBw.out.trans (HBq.out.mono HBw.out.size)⟩
          rw [← HSW.out]
          exact Kd.R_lower HO.out HBw.out.size
end Go.Proofs.Ytlpjankfedhhjaa.P
