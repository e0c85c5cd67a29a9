-- printed by the session's own program wip/xprint.py (over the kit's printer); nothing here is trusted: Lean checks it
import Derived.Test.YtlpjankfedhhjaaP0
import Derived.Test.YtlpjankfedhhjaaP3
import Derived.Test.YtlpjankfedhhjaaP6
namespace Go.Proofs.Ytlpjankfedhhjaa.P
open Go.Proofs.YtlpjankfedhhjaaR
open Go.RowKit Go.Proofs.YtlpjankfedhhjaaW.PrintWords Go.Proofs.YtlpjankfedhhjaaW.PrintLast Go.Proofs.YtlpjankfedhhjaaW.PrintMore
attribute [local go_sem] max2_int min2_int max_two min_two max_three min_three max_four min_four   -- for this text's walks alone
set_option linter.unusedVariables false
set_option linter.unusedSimpArgs false

/-! ### jitneyref17_Parts: function 8 -/
mutual
def jitneyref17_Parts.j0 : Nat → List Int → Int → Option ((List (List Int)))
  | 0, _, _ => none
  | k + 1, x0, x1 => jitneyref17_Parts.l0 k x0 x1 (([] : List (List Int))) 0 0
def jitneyref17_Parts.l0 : Nat → List Int → Int → List (List Int) → Int → Int → Option ((List (List Int)))
  | 0, _, _, _, _, _ => none
  | k + 1, x0, x1, x5, x6, x7 => if x7 < x1 then (if (wrap64 (x1 - x7)) = 0 then (none) else ((some (([] : List Int) : List Int)).bind fun y137 => (if 0 ≤ x6 then (if x6 ≤ (wrap64 (x6 + (wrap64 (Int.tdiv (wrap64 ((wrap64 ((wrap64 ((wrap64 ((x0.length : Int) - x6)) + x1)) - x7)) - 1)) (wrap64 (x1 - x7)))))) then (if (wrap64 (x6 + (wrap64 (Int.tdiv (wrap64 ((wrap64 ((wrap64 ((wrap64 ((x0.length : Int) - x6)) + x1)) - x7)) - 1)) (wrap64 (x1 - x7)))))) ≤ (x0.length : Int) then (if y137.length + ((x0.take ((wrap64 (x6 + (wrap64 (Int.tdiv (wrap64 ((wrap64 ((wrap64 ((wrap64 ((x0.length : Int) - x6)) + x1)) - x7)) - 1)) (wrap64 (x1 - x7)))))) : Int).toNat).drop (x6 : Int).toNat).length < 17592186044416 then (if x5.length < 5864062014805 then (jitneyref17_Parts.l0 k x0 x1 (x5 ++ [(y137 ++ ((x0.take ((wrap64 (x6 + (wrap64 (Int.tdiv (wrap64 ((wrap64 ((wrap64 ((wrap64 ((x0.length : Int) - x6)) + x1)) - x7)) - 1)) (wrap64 (x1 - x7)))))) : Int).toNat).drop (x6 : Int).toNat))]) (wrap64 (x6 + (wrap64 (Int.tdiv (wrap64 ((wrap64 ((wrap64 ((wrap64 ((x0.length : Int) - x6)) + x1)) - x7)) - 1)) (wrap64 (x1 - x7)))))) (wrap64 (x7 + 1))) else (none)) else (none)) else (none)) else (none)) else (none)))) else (some x5)
end
def jitneyref17_Parts.f (k : Nat) (l0 : List Int) (a1 : Int) : Option ((List (List Int))) := if a1 < 1 then (jitneyref17_Parts.j0 k l0 1) else (jitneyref17_Parts.j0 k l0 a1)
theorem jitneyref17_Parts.mono_l : ∀ k, (∀ y0 y1, LeO (jitneyref17_Parts.j0 k y0 y1) (jitneyref17_Parts.j0 (k + 1) y0 y1)) ∧ (∀ y0 y1 y2 y3 y4, LeO (jitneyref17_Parts.l0 k y0 y1 y2 y3 y4) (jitneyref17_Parts.l0 (k + 1) y0 y1 y2 y3 y4))
  | 0 => ⟨fun _ _ r h => by simp [jitneyref17_Parts.j0] at h, fun _ _ _ _ _ r h => by simp [jitneyref17_Parts.l0] at h⟩
  | k + 1 => by
    obtain ⟨ih0, ih1⟩ := jitneyref17_Parts.mono_l k
    refine ⟨?_, ?_⟩
    · intro y0 y1
      unfold jitneyref17_Parts.j0
      repeat' first
      | (with_reducible exact ih0 _ _)
      | (with_reducible exact ih1 _ _ _ _ _)
      | (with_reducible exact LeO.refl _)
      | (with_reducible exact LeO.none _)
      | (with_reducible refine LeO.ite ?_ ?_)
      | (with_reducible refine LeO.bind ?_ (fun _ => ?_))
      | exact ih0 _ _
      | exact ih1 _ _ _ _ _
      | exact LeO.none _
      | refine LeO.ite ?_ ?_
      | refine LeO.bind ?_ (fun _ => ?_)
    · intro y0 y1 y2 y3 y4
      unfold jitneyref17_Parts.l0
      repeat' first
      | (with_reducible exact ih0 _ _)
      | (with_reducible exact ih1 _ _ _ _ _)
      | (with_reducible exact LeO.refl _)
      | (with_reducible exact LeO.none _)
      | (with_reducible refine LeO.ite ?_ ?_)
      | (with_reducible refine LeO.bind ?_ (fun _ => ?_))
      | exact ih0 _ _
      | exact ih1 _ _ _ _ _
      | exact LeO.none _
      | refine LeO.ite ?_ ?_
      | refine LeO.bind ?_ (fun _ => ?_)
theorem jitneyref17_Parts.mono : ∀ a0 a1 k, LeO (jitneyref17_Parts.f k a0 a1) (jitneyref17_Parts.f (k + 1) a0 a1) := by
  intro a0 a1 k
  obtain ⟨ih0, ih1⟩ := jitneyref17_Parts.mono_l k
  unfold jitneyref17_Parts.f
  repeat' first
      | (with_reducible exact ih0 _ _)
      | (with_reducible exact ih1 _ _ _ _ _)
      | (with_reducible exact LeO.refl _)
      | (with_reducible exact LeO.none _)
      | (with_reducible refine LeO.ite ?_ ?_)
      | (with_reducible refine LeO.bind ?_ (fun _ => ?_))
      | exact ih0 _ _
      | exact ih1 _ _ _ _ _
      | exact LeO.none _
      | refine LeO.ite ?_ ?_
      | refine LeO.bind ?_ (fun _ => ?_)
set_option maxHeartbeats 8000000 in
set_option maxRecDepth 100000 in
theorem jitneyref17_Parts.calls (k : Nat) (A0 : Option Addr) (c0 : Nat) (l0 : List Int) (a1 : Int) (r : List (List Int)) (w : World) (hr0 : Kd.C (Kd.int .i64) w A0 l0.length l0) (hc0 : l0.length ≤ c0) (h : jitneyref17_Parts.f k l0 a1 = some r) :
    Calls Try.prog 8 #[.slice A0 l0.length c0, .int .i64 a1] w fun e w' => ∃ v0_ : Value, e = .returned (v0_) ∧ Kd.S (Kd.slice 3 (Kd.int .i64)) 22 w' w.heap.size (fun _ => True) v0_ r ∧ Below w.heap.size w w' := by
  have HR0 := Aside0.mk hr0
  have HC0 := Aside0.mk hc0
  clear hr0 hc0
  have HB := Aside0.mk (Below.refl w.heap.size w)
  have H : (if a1 < 1 then (jitneyref17_Parts.j0 k l0 1) else (jitneyref17_Parts.j0 k l0 a1)) = some r := h
  clear h
  have HC3 := Aside0.mk H
  clear H
  go_enter Try.func8, Try.ntmps8
  go_upto_if 11 with (fail)
  go_cut [1] (fun v1 wc => ∃ (kq : Nat) (x1_2 : Int), v1 = .int .i64 x1_2 ∧ Aside0 (jitneyref17_Parts.j0 kq l0 x1_2 = some r) ∧ Aside0 (kq ≤ k) ∧ Aside0 (Below w.heap.size w wc))
  case first =>
    have H := HC3.out
    clear HC3
    by_cases c4 : a1 < 1
    · rw [if_pos c4] at H
      have c4b0 : decide (a1 < 1) = true := decide_eq_true c4
      clear c4
      (first | rw [c4b0] | (simp only [i64_w, i32_w]; rw [c4b0]) | skip)
      have H' := Aside0.mk H
      clear H
      go_wp2
      go_meet
      case rel => exact ⟨_, (1), (by first | rfl | (simp; done) | (simp [*]; done)), H', ⟨by first | omega | exact Nat.le_refl _⟩, ⟨by repeat (first | (with_reducible first | exact HB.out | apply below_alloc | apply pw_below_drewN | apply below_drew1) | exact HB.out)⟩⟩
    · rw [if_neg c4] at H
      have c4b0 : decide (a1 < 1) = false := decide_eq_false c4
      clear c4
      (first | rw [c4b0] | (simp only [i64_w, i32_w]; rw [c4b0]) | skip)
      have H' := Aside0.mk H
      clear H
      go_wp2
      go_meet
      case rel => exact ⟨_, (a1), (by first | rfl | (simp; done) | (simp [*]; done)), H', ⟨by first | omega | exact Nat.le_refl _⟩, ⟨by repeat (first | (with_reducible first | exact HB.out | apply below_alloc | apply pw_below_drewN | apply below_drew1) | exact HB.out)⟩⟩
  case rest =>
    clear HC3
    try clear p2
    try clear c4
    try clear c4b0
    obtain ⟨kq, x1_2, rfl, HA, HJ2, HB⟩ := hcut
    cases kq with
    | zero => exact absurd HA.out (by simp [jitneyref17_Parts.j0])
    | succ kj2 =>
      have H := HA.out
      clear HA
      simp only [jitneyref17_Parts.j0] at H
      obtain ⟨y134, hy134⟩ : ∃ y_ : List (List Int), y_ = (([] : List (List Int))) := ⟨_, rfl⟩
      replace H : (jitneyref17_Parts.l0 kj2 l0 x1_2 y134 0 0) = some r := by first | (rw [hy134]; with_reducible exact H) | (have H2_ := (Option.bind_some _ _).symm.trans H; rw [hy134]; with_reducible exact H2_) | (have H2_ := (Option.bind_some _ _).symm.trans H; with_reducible exact H2_) | with_reducible exact H | (rw [hy134]; exact H) | exact H
      have Ny134 := Aside0.mk hy134
      clear hy134
      have H' := Aside0.mk H
      clear H
      go_wp2_with (first | ((with_reducible refine gate_dst (N := 12) rfl ?_); refine Kd.S_lit (Kd.slice 3 (Kd.int .i64)) _ 22 ?hg (N := 12) ?hd (xs := ([] : List (List Int))) (inner := []) (ok := fun _ => True) (okp := fun _ => True) ?hr ?hp (fun _ hk => hk) trivial (Below.refl _ _) (Nat.le_refl _) (by simp) ?_; (case hd => rfl); (case hg => rfl); (case hr => first | (go_simp; done) | (go_simp; rfl)); (case hp => exact (Reps.none _ _)); intro v135 w5 ho6 hb hg_ hnew_; clear hg_ hnew_; (first | rw [← Ny134.out] at ho6 | (simp only [Int.reduceToNat] at ho6; rw [← Ny134.out] at ho6)); have n0_ := Aside0.mk (Kd.S_lower ho6 (below_size (by repeat (first | (with_reducible first | exact HB.out | apply below_alloc | apply pw_below_drewN | apply below_drew1) | exact HB.out)))); have n1_ := Aside0.mk (below_step (by repeat (first | (with_reducible first | exact HB.out | apply below_alloc | apply pw_below_drewN | apply below_drew1) | exact HB.out)) hb); clear HB; have HO136 := n0_; have HB := n1_; clear n0_ n1_; clear hb ho6))
      go_loopg [5, 6, 7] kj2 (fun kq v5 v6 v7 w' => ∃ (x5_2 : List (List Int)) (x6_2 : Int) (x7_2 : Int), v6 = .int .i64 x6_2 ∧ v7 = .int .i64 x7_2 ∧ Aside0 (jitneyref17_Parts.l0 kq l0 x1_2 x5_2 x6_2 x7_2 = some r) ∧ Aside0 (kq ≤ kj2) ∧ Aside0 (Kd.S (Kd.slice 3 (Kd.int .i64)) 22 w' w.heap.size (fun _ => True) v5 x5_2) ∧ Aside0 (Below w.heap.size w w'))
      case atStart => exact ⟨(y134), (0), (0), (by first | rfl | (simp; done) | (simp [*]; done)), (by first | rfl | (simp; done) | (simp [*]; done)), H', ⟨Nat.le_refl _⟩, ⟨by (with_reducible repeat (first | apply Kd.S_alloc | apply Kd.S_drewN | apply Kd.S_drew)); exact HO136.out⟩, ⟨by repeat (first | (with_reducible first | exact HB.out | apply below_alloc | apply pw_below_drewN | apply below_drew1) | exact HB.out)⟩⟩
      case round =>
        clear H'
        try clear p2
        try clear c4
        try clear c4b0
        try clear p2
        obtain ⟨x5_2, x6_2, x7_2, rfl, rfl, HA, HK2, HO_5, HB⟩ := hrel
        cases gk with
        | zero => exact absurd HA.out (by simp [jitneyref17_Parts.l0])
        | succ k2 =>
          have H := HA.out
          clear HA
          simp only [jitneyref17_Parts.l0] at H
          by_cases c7 : x7_2 < x1_2
          · rw [if_pos c7] at H
            have c7b0 : decide (x7_2 < x1_2) = true := decide_eq_true c7
            clear c7
            by_cases c8 : (wrap64 (x1_2 - x7_2)) = 0
            · rw [if_pos c8] at H
              exact absurd H (by simp)
            · rw [if_neg c8] at H
              have c8b0 : ((wrap64 (x1_2 - x7_2)) == 0) = false := beq_eq_false_iff_ne.mpr c8
              have c8b1 : ((wrap64 (x1_2 - x7_2)) != 0) = true := bne_iff_ne.mpr c8
              obtain ⟨y137, hy137⟩ : ∃ y_ : List Int, y_ = (([] : List Int)) := ⟨_, rfl⟩
              replace H : (if 0 ≤ x6_2 then (if x6_2 ≤ (wrap64 (x6_2 + (wrap64 (Int.tdiv (wrap64 ((wrap64 ((wrap64 ((wrap64 ((l0.length : Int) - x6_2)) + x1_2)) - x7_2)) - 1)) (wrap64 (x1_2 - x7_2)))))) then (if (wrap64 (x6_2 + (wrap64 (Int.tdiv (wrap64 ((wrap64 ((wrap64 ((wrap64 ((l0.length : Int) - x6_2)) + x1_2)) - x7_2)) - 1)) (wrap64 (x1_2 - x7_2)))))) ≤ (l0.length : Int) then (if y137.length + ((l0.take ((wrap64 (x6_2 + (wrap64 (Int.tdiv (wrap64 ((wrap64 ((wrap64 ((wrap64 ((l0.length : Int) - x6_2)) + x1_2)) - x7_2)) - 1)) (wrap64 (x1_2 - x7_2)))))) : Int).toNat).drop (x6_2 : Int).toNat).length < 17592186044416 then (if x5_2.length < 5864062014805 then (jitneyref17_Parts.l0 k2 l0 x1_2 (x5_2 ++ [(y137 ++ ((l0.take ((wrap64 (x6_2 + (wrap64 (Int.tdiv (wrap64 ((wrap64 ((wrap64 ((wrap64 ((l0.length : Int) - x6_2)) + x1_2)) - x7_2)) - 1)) (wrap64 (x1_2 - x7_2)))))) : Int).toNat).drop (x6_2 : Int).toNat))]) (wrap64 (x6_2 + (wrap64 (Int.tdiv (wrap64 ((wrap64 ((wrap64 ((wrap64 ((l0.length : Int) - x6_2)) + x1_2)) - x7_2)) - 1)) (wrap64 (x1_2 - x7_2)))))) (wrap64 (x7_2 + 1))) else (none)) else (none)) else (none)) else (none)) else (none)) = some r := by first | (rw [hy137]; with_reducible exact H) | (have H2_ := (Option.bind_some _ _).symm.trans H; rw [hy137]; with_reducible exact H2_) | (have H2_ := (Option.bind_some _ _).symm.trans H; with_reducible exact H2_) | with_reducible exact H | (rw [hy137]; exact H) | exact H
              have Ny137 := Aside0.mk hy137
              clear hy137
              by_cases c9 : 0 ≤ x6_2
              · rw [if_pos c9] at H
                have c9b0 := eq_true c9
                have c9b1 : decide (0 ≤ x6_2) = true := decide_eq_true c9
                clear c9
                by_cases c10 : x6_2 ≤ (wrap64 (x6_2 + (wrap64 (Int.tdiv (wrap64 ((wrap64 ((wrap64 ((wrap64 ((l0.length : Int) - x6_2)) + x1_2)) - x7_2)) - 1)) (wrap64 (x1_2 - x7_2))))))
                · rw [if_pos c10] at H
                  have c10b0 := eq_true c10
                  have c10b1 : decide (x6_2 ≤ (wrap64 (x6_2 + (wrap64 (Int.tdiv (wrap64 ((wrap64 ((wrap64 ((wrap64 ((l0.length : Int) - x6_2)) + x1_2)) - x7_2)) - 1)) (wrap64 (x1_2 - x7_2))))))) = true := decide_eq_true c10
                  by_cases c11 : (wrap64 (x6_2 + (wrap64 (Int.tdiv (wrap64 ((wrap64 ((wrap64 ((wrap64 ((l0.length : Int) - x6_2)) + x1_2)) - x7_2)) - 1)) (wrap64 (x1_2 - x7_2)))))) ≤ (l0.length : Int)
                  · rw [if_pos c11] at H
                    have c11b0 := eq_true c11
                    have c11b1 : decide ((wrap64 (x6_2 + (wrap64 (Int.tdiv (wrap64 ((wrap64 ((wrap64 ((wrap64 ((l0.length : Int) - x6_2)) + x1_2)) - x7_2)) - 1)) (wrap64 (x1_2 - x7_2)))))) ≤ (l0.length : Int)) = true := decide_eq_true c11
                    by_cases c12 : y137.length + ((l0.take ((wrap64 (x6_2 + (wrap64 (Int.tdiv (wrap64 ((wrap64 ((wrap64 ((wrap64 ((l0.length : Int) - x6_2)) + x1_2)) - x7_2)) - 1)) (wrap64 (x1_2 - x7_2)))))) : Int).toNat).drop (x6_2 : Int).toNat).length < 17592186044416
                    · rw [if_pos c12] at H
                      have LMc12 := Aside0.mk c12
                      clear c12
                      obtain ⟨y141, hy141⟩ : ∃ y_ : List Int, y_ = (y137 ++ ((l0.take ((wrap64 (x6_2 + (wrap64 (Int.tdiv (wrap64 ((wrap64 ((wrap64 ((wrap64 ((l0.length : Int) - x6_2)) + x1_2)) - x7_2)) - 1)) (wrap64 (x1_2 - x7_2)))))) : Int).toNat).drop (x6_2 : Int).toNat)) := ⟨_, rfl⟩
                      replace H : (if x5_2.length < 5864062014805 then (jitneyref17_Parts.l0 k2 l0 x1_2 (x5_2 ++ [y141]) (wrap64 (x6_2 + (wrap64 (Int.tdiv (wrap64 ((wrap64 ((wrap64 ((wrap64 ((l0.length : Int) - x6_2)) + x1_2)) - x7_2)) - 1)) (wrap64 (x1_2 - x7_2)))))) (wrap64 (x7_2 + 1))) else (none)) = some r := by first | (rw [hy141]; with_reducible exact H) | (have H2_ := (Option.bind_some _ _).symm.trans H; rw [hy141]; with_reducible exact H2_) | (have H2_ := (Option.bind_some _ _).symm.trans H; with_reducible exact H2_) | with_reducible exact H | (rw [hy141]; exact H) | exact H
                      have Ny141 := Aside0.mk hy141
                      clear hy141
                      by_cases c13 : x5_2.length < 5864062014805
                      · rw [if_pos c13] at H
                        have LMc13 := Aside0.mk c13
                        clear c13
                        obtain ⟨y144, hy144⟩ : ∃ y_ : List (List Int), y_ = (x5_2 ++ [y141]) := ⟨_, rfl⟩
                        replace H : (jitneyref17_Parts.l0 k2 l0 x1_2 y144 (wrap64 (x6_2 + (wrap64 (Int.tdiv (wrap64 ((wrap64 ((wrap64 ((wrap64 ((l0.length : Int) - x6_2)) + x1_2)) - x7_2)) - 1)) (wrap64 (x1_2 - x7_2)))))) (wrap64 (x7_2 + 1))) = some r := by first | (rw [hy144]; with_reducible exact H) | (have H2_ := (Option.bind_some _ _).symm.trans H; rw [hy144]; with_reducible exact H2_) | (have H2_ := (Option.bind_some _ _).symm.trans H; with_reducible exact H2_) | with_reducible exact H | (rw [hy144]; exact H) | exact H
                        have Ny144 := Aside0.mk hy144
                        clear hy144
                        have H' := Aside0.mk H
                        clear H
                        go_wp2_with (first | ((with_reducible refine gate_dst (N := 33) rfl ?_); refine Kd.R_lit (Kd.int .i64) _ 3 ?hg (N := 33) ?hd (xs := ([] : List Int)) (inner := []) (ok := fun _ => True) (okp := fun _ => True) ?hr ?hp (fun _ hk => hk) trivial (Below.refl _ _) (Nat.le_refl _) (by simp) ?_; (case hd => rfl); (case hg => rfl); (case hr => first | (go_simp; done) | (go_simp; rfl)); (case hp => exact (Reps.none _ _)); intro v138 w14 ho15 hb hg_ hnew_; clear hg_ hnew_; (first | rw [← Ny137.out] at ho15 | (simp only [Int.reduceToNat] at ho15; rw [← Ny137.out] at ho15)); have n0_ := Aside0.mk (Kd.S_elder' (by (with_reducible repeat (first | apply Kd.S_alloc | apply Kd.S_drewN | apply Kd.S_drew)); exact HO_5.out) (Kd.R_base ho15) hb); have n1_ := Aside0.mk (Kd.R_lower ho15 (below_size (by repeat (first | (with_reducible first | exact HB.out | apply below_alloc | apply pw_below_drewN | apply below_drew1) | exact HB.out)))); have n2_ := Aside0.mk (below_step (by repeat (first | (with_reducible first | exact HB.out | apply below_alloc | apply pw_below_drewN | apply below_drew1) | exact HB.out)) hb); clear HO_5; clear HB; have HO_5 := n0_; have HO139 := n1_; have HB := n2_; clear n0_ n1_ n2_; clear hb ho15; obtain ⟨i016, hi016, _, hsz16, _⟩ := info_parts info3; obtain ⟨A16, hcut16, hA16, hC16⟩ := print_mid_of (P := Try.prog) (Value.int .i64) 0 22 3 .i64 .i64 Try.underlying22 hi016 hsz16 A0 c0 l0 x6_2 (wrap64 (x6_2 + (wrap64 (Int.tdiv (wrap64 ((wrap64 ((wrap64 ((wrap64 ((l0.length : Int) - x6_2)) + x1_2)) - x7_2)) - 1)) (wrap64 (x1_2 - x7_2)))))) (of_decide_eq_true (by first | (with_reducible assumption) | assumption)) (by first | omega | exact of_decide_eq_true (by first | (with_reducible assumption) | assumption)) (of_decide_eq_true (by first | (with_reducible assumption) | assumption)) HC0.out; have HR140 := Aside0.mk (Kd.C_of_reads (h1 := fun _ => rfl) (hA16 _ (Kd.reads_of_C HR0.out))); have HC140 := Aside0.mk hC16; clear hA16 hC16 hi016 hsz16) | ((with_reducible refine gate_builtin (b := .append) (xs := #[.tmp 34, .tmp 38]) rfl ?_); at_builtin; refine Kd.R_append_rows (Kd.int .i64) (w0 := w) w.heap.size rfl (.tmp 34) (.tmp 38) 22 3 (.int .i64 0) 8 rfl Try.underlying22 info3 rfl (by decide) (by omega) v138 y137 ((l0.take ((wrap64 (x6_2 + (wrap64 (Int.tdiv (wrap64 ((wrap64 ((wrap64 ((wrap64 ((l0.length : Int) - x6_2)) + x1_2)) - x7_2)) - 1)) (wrap64 (x1_2 - x7_2)))))) : Int).toNat).drop (x6_2 : Int).toNat) _ _ _ (fun _ => True) (fun _ => False) rfl rfl ?aO ?aR (fun _ _ h => h) (fun _ h => h.elim) ?aF ?aB ?aS ?aL ?_; (case aR => first | (rw [← show ((l0.take ((wrap64 (x6_2 + (wrap64 (Int.tdiv (wrap64 ((wrap64 ((wrap64 ((wrap64 ((l0.length : Int) - x6_2)) + x1_2)) - x7_2)) - 1)) (wrap64 (x1_2 - x7_2)))))) : Int).toNat).drop (x6_2 : Int).toNat).length = ((wrap64 (x6_2 + (wrap64 (Int.tdiv (wrap64 ((wrap64 ((wrap64 ((wrap64 ((l0.length : Int) - x6_2)) + x1_2)) - x7_2)) - 1)) (wrap64 (x1_2 - x7_2)))))).toNat - x6_2.toNat) from (by rw [List.length_drop, List.length_take]; have h_ : ((wrap64 (x6_2 + (wrap64 (Int.tdiv (wrap64 ((wrap64 ((wrap64 ((wrap64 ((l0.length : Int) - x6_2)) + x1_2)) - x7_2)) - 1)) (wrap64 (x1_2 - x7_2)))))) : Int) ≤ (l0.length : Int) := of_decide_eq_true (by first | (with_reducible assumption) | assumption); omega)]; repeat (first | exact (Kd.C_below HR140.out HB.out) | (with_reducible refine Kd.C_alloc ?_ _) | (with_reducible refine Kd.C_drewN ?_ _) | (with_reducible refine Kd.C_drew ?_))) | (repeat (first | exact (Kd.C_below HR140.out HB.out) | (with_reducible refine Kd.C_alloc ?_ _) | (with_reducible refine Kd.C_drewN ?_ _) | (with_reducible refine Kd.C_drew ?_)))); (case aB => exact (by repeat (first | (with_reducible first | exact HB.out | apply below_alloc | apply pw_below_drewN | apply below_drew1) | exact HB.out))); (case aF => exact (fun _ _ => trivial)); (case aO => exact (by (with_reducible repeat (first | apply Kd.R_alloc | apply Kd.R_drewN | apply Kd.R_drew)); exact HO139.out)); (case aS => exact (below_size (by repeat (first | (with_reducible first | exact HB.out | apply below_alloc | apply pw_below_drewN | apply below_drew1) | exact HB.out)))); (case aL => have := LMc12.out; have hlx_ := (show ((l0.take ((wrap64 (x6_2 + (wrap64 (Int.tdiv (wrap64 ((wrap64 ((wrap64 ((wrap64 ((l0.length : Int) - x6_2)) + x1_2)) - x7_2)) - 1)) (wrap64 (x1_2 - x7_2)))))) : Int).toNat).drop (x6_2 : Int).toNat).length = ((wrap64 (x6_2 + (wrap64 (Int.tdiv (wrap64 ((wrap64 ((wrap64 ((wrap64 ((l0.length : Int) - x6_2)) + x1_2)) - x7_2)) - 1)) (wrap64 (x1_2 - x7_2)))))).toNat - x6_2.toNat) from (by rw [List.length_drop, List.length_take]; have h_ : ((wrap64 (x6_2 + (wrap64 (Int.tdiv (wrap64 ((wrap64 ((wrap64 ((wrap64 ((l0.length : Int) - x6_2)) + x1_2)) - x7_2)) - 1)) (wrap64 (x1_2 - x7_2)))))) : Int) ≤ (l0.length : Int) := of_decide_eq_true (by first | (with_reducible assumption) | assumption); omega)); omega); intro v142 w17 ho hb hg hat; rw [← Ny141.out] at ho; have n0_ := Aside0.mk (Kd.S_after (ok := (fun _ => True)) (by (with_reducible repeat (first | apply Kd.S_alloc | apply Kd.S_drewN | apply Kd.S_drew)); exact HO_5.out) hg hat); have n1_ := Aside0.mk (hb); have n2_ := Aside0.mk (ho); clear HO_5; clear HB; clear HO139; have HO_5 := n0_; have HB := n1_; have HO143 := n2_; clear n0_ n1_ n2_; clear ho hb hg hat; obtain ⟨Ao19, co19, eo19⟩ := Kd.R_slice HO143.out; subst eo19) | ((with_reducible refine gate_builtin (b := .append) (xs := #[.tmp 40, .tmp 42]) rfl ?_); at_builtin; refine Kd.S_append (Kd.slice 3 (Kd.int .i64)) (w0 := w) w.heap.size rfl (.tmp 40) (.tmp 42) 24 22 (.slice none 0 0) 24 rfl Try.underlying24 info22 rfl (by decide) (by omega) u5 x5_2 y141 [.slice Ao19 y141.length co19] (fun _ => True) (fun k_ => some k_ = (.slice Ao19 y141.length co19 : Value).ownBlock) rfl rfl ?aP (fun k_ hk_ => ((Kd.R_mono (ok' := fun k_ => ((fun _ => True)) k_ ∧ some k_ ≠ (u5 : Value).ownBlock) (Kd.R_apart' (HO143.out) (Kd.S_typed HO_5.out) (by decide)) (fun k_ hk => ⟨trivial, hk.2⟩))).1 k_ hk_.symm) ?aF ?aO ?aB ?aS ?aL ?_; (case aP => exact Kd.M_row (Kd.R_mono (Kd.R_tight rfl (Kd.R_mono (ok' := fun k_ => ((fun _ => True)) k_ ∧ some k_ ≠ (u5 : Value).ownBlock) (Kd.R_apart' (HO143.out) (Kd.S_typed HO_5.out) (by decide)) (fun k_ hk => ⟨trivial, hk.2⟩))) (fun _ h_ => h_))); (case aB => exact (by repeat (first | (with_reducible first | exact HB.out | apply below_alloc | apply pw_below_drewN | apply below_drew1) | exact HB.out))); (case aF => exact (fun _ _ => trivial)); (case aO => exact (by (with_reducible repeat (first | apply Kd.S_alloc | apply Kd.S_drewN | apply Kd.S_drew)); exact Kd.S_mono HO_5.out (fun k_ hk => ⟨trivial, fun e_ => hk.2 e_⟩))); (case aS => exact (below_size (by repeat (first | (with_reducible first | exact HB.out | apply below_alloc | apply pw_below_drewN | apply below_drew1) | exact HB.out)))); (case aL => have := LMc13.out; omega); intro v145 w18 ho hb hg hat; rw [← Ny144.out] at ho; have n0_ := Aside0.mk (hb); have n1_ := Aside0.mk (ho); clear HB; clear HO_5; clear HO143; have HB := n0_; have HO146 := n1_; clear n0_ n1_; clear ho hb hg hat))
                        go_roundg k2
                        case measure => have := HJ2.out; have := HK2.out; omega
                        case rel => exact ⟨(y144), (wrap64 (x6_2 + (wrap64 (Int.tdiv (wrap64 ((wrap64 ((wrap64 ((wrap64 ((l0.length : Int) - x6_2)) + x1_2)) - x7_2)) - 1)) (wrap64 (x1_2 - x7_2)))))), (wrap64 (x7_2 + 1)), (by first | rfl | (simp; done) | (simp [*]; done)), (by first | rfl | (simp; done) | (simp [*]; done)), H', ⟨by have := HJ2.out; have := HK2.out; omega⟩, ⟨by (with_reducible repeat (first | apply Kd.S_alloc | apply Kd.S_drewN | apply Kd.S_drew)); exact HO146.out⟩, ⟨by repeat (first | (with_reducible first | exact HB.out | apply below_alloc | apply pw_below_drewN | apply below_drew1) | exact HB.out)⟩⟩
                      · rw [if_neg c13] at H
                        exact absurd H (by simp)
                    · rw [if_neg c12] at H
                      exact absurd H (by simp)
                  · rw [if_neg c11] at H
                    exact absurd H (by simp)
                · rw [if_neg c10] at H
                  exact absurd H (by simp)
              · rw [if_neg c9] at H
                exact absurd H (by simp)
          · rw [if_neg c7] at H
            have c7b0 : decide (x7_2 < x1_2) = false := decide_eq_false c7
            clear c7
            obtain rfl := Option.some.inj H
            go_wp2
            go_ret
            exact ⟨_, by first | rfl | (simp [errW_none, errW_some] <;> rfl) | (simp [*, errW_none, errW_some] <;> rfl), by (with_reducible repeat (first | apply Kd.S_alloc | apply Kd.S_drewN | apply Kd.S_drew)); exact HO_5.out, by repeat (first | (with_reducible first | exact HB.out | apply below_alloc | apply pw_below_drewN | apply below_drew1) | exact HB.out)⟩

/-! ### jitneylaw17_SweepParts: function 3 -/
mutual
def jitneylaw17_SweepParts.j0 : Nat → List Int → Int → Bool → Option (Bool)
  | 0, _, _, _ => none
  | k + 1, x0, x1, x17 => if x17 = true then (some true) else ((sweep_Parts.f k x0 x1).bind fun t148 => (jitneylaw17_SweepParts.l0 k x0 x1 t148 (([] : List Int)) t148 (t148.length : Int) 0))
def jitneylaw17_SweepParts.l0 : Nat → List Int → Int → List (List Int) → List Int → List (List Int) → Int → Int → Option (Bool)
  | 0, _, _, _, _, _, _, _ => none
  | k + 1, x0, x1, x5, x6, x22, x23, x24 => if x24 < x23 then (if 0 ≤ x24 then (if x24 < (x22.length : Int) then (if x6.length + (rd_L1 x22 x24).length < 17592186044416 then (if 0 < (x5.length : Int) then (if ((rd_L1 x22 x24).length : Int) > ((rd_L1 x5 0).length : Int) then (some false) else (if (wrap64 (((rd_L1 x22 x24).length : Int) + 1)) < ((rd_L1 x5 0).length : Int) then (some false) else (jitneylaw17_SweepParts.l0 k x0 x1 x5 (x6 ++ (rd_L1 x22 x24)) x22 x23 (wrap64 (x24 + 1))))) else (none)) else (none)) else (none)) else (none)) else (if (x5.length : Int) = (mx x1 1) then ((jitneyref01_SameInts.f k x6 x0).bind fun t160 => (if t160 = true then ((jitneyref17_Parts.f k x0 x1).bind fun t161 => ((jitneyref01_SameRows.f k x5 t161).bind fun t164 => (some t164))) else (some false))) else (some false))
end
def jitneylaw17_SweepParts.f (k : Nat) (l0 : List Int) (a1 : Int) : Option (Bool) := (jitneylaw17_alive.f).bind fun t147 => (if t147 = true then (if (l0.length : Int) > 100 then (jitneylaw17_SweepParts.j0 k l0 a1 true) else (jitneylaw17_SweepParts.j0 k l0 a1 (decide (a1 > 100)))) else (some false))
theorem jitneylaw17_SweepParts.mono_l : ∀ k, (∀ y0 y1 y2, LeO (jitneylaw17_SweepParts.j0 k y0 y1 y2) (jitneylaw17_SweepParts.j0 (k + 1) y0 y1 y2)) ∧ (∀ y0 y1 y2 y3 y4 y5 y6, LeO (jitneylaw17_SweepParts.l0 k y0 y1 y2 y3 y4 y5 y6) (jitneylaw17_SweepParts.l0 (k + 1) y0 y1 y2 y3 y4 y5 y6))
  | 0 => ⟨fun _ _ _ r h => by simp [jitneylaw17_SweepParts.j0] at h, fun _ _ _ _ _ _ _ r h => by simp [jitneylaw17_SweepParts.l0] at h⟩
  | k + 1 => by
    obtain ⟨ih0, ih1⟩ := jitneylaw17_SweepParts.mono_l k
    refine ⟨?_, ?_⟩
    · intro y0 y1 y2
      unfold jitneylaw17_SweepParts.j0
      repeat' first
      | (with_reducible exact ih0 _ _ _)
      | (with_reducible exact ih1 _ _ _ _ _ _ _)
      | (with_reducible exact jitneyref01_SameInts.mono _ _ _)
      | (with_reducible exact jitneyref01_SameRows.mono _ _ _)
      | (with_reducible exact jitneyref17_Parts.mono _ _ _)
      | (with_reducible exact sweep_Parts.mono _ _ _)
      | (with_reducible exact LeO.refl _)
      | (with_reducible exact LeO.none _)
      | (with_reducible refine LeO.ite ?_ ?_)
      | (with_reducible refine LeO.bind ?_ (fun _ => ?_))
      | exact ih0 _ _ _
      | exact ih1 _ _ _ _ _ _ _
      | exact jitneyref01_SameInts.mono _ _ _
      | exact jitneyref01_SameRows.mono _ _ _
      | exact jitneyref17_Parts.mono _ _ _
      | exact sweep_Parts.mono _ _ _
      | exact LeO.none _
      | refine LeO.ite ?_ ?_
      | refine LeO.bind ?_ (fun _ => ?_)
    · intro y0 y1 y2 y3 y4 y5 y6
      unfold jitneylaw17_SweepParts.l0
      repeat' first
      | (with_reducible exact ih0 _ _ _)
      | (with_reducible exact ih1 _ _ _ _ _ _ _)
      | (with_reducible exact jitneyref01_SameInts.mono _ _ _)
      | (with_reducible exact jitneyref01_SameRows.mono _ _ _)
      | (with_reducible exact jitneyref17_Parts.mono _ _ _)
      | (with_reducible exact sweep_Parts.mono _ _ _)
      | (with_reducible exact LeO.refl _)
      | (with_reducible exact LeO.none _)
      | (with_reducible refine LeO.ite ?_ ?_)
      | (with_reducible refine LeO.bind ?_ (fun _ => ?_))
      | exact ih0 _ _ _
      | exact ih1 _ _ _ _ _ _ _
      | exact jitneyref01_SameInts.mono _ _ _
      | exact jitneyref01_SameRows.mono _ _ _
      | exact jitneyref17_Parts.mono _ _ _
      | exact sweep_Parts.mono _ _ _
      | exact LeO.none _
      | refine LeO.ite ?_ ?_
      | refine LeO.bind ?_ (fun _ => ?_)
theorem jitneylaw17_SweepParts.mono : ∀ a0 a1 k, LeO (jitneylaw17_SweepParts.f k a0 a1) (jitneylaw17_SweepParts.f (k + 1) a0 a1) := by
  intro a0 a1 k
  obtain ⟨ih0, ih1⟩ := jitneylaw17_SweepParts.mono_l k
  unfold jitneylaw17_SweepParts.f
  repeat' first
      | (with_reducible exact ih0 _ _ _)
      | (with_reducible exact ih1 _ _ _ _ _ _ _)
      | (with_reducible exact jitneyref01_SameInts.mono _ _ _)
      | (with_reducible exact jitneyref01_SameRows.mono _ _ _)
      | (with_reducible exact jitneyref17_Parts.mono _ _ _)
      | (with_reducible exact sweep_Parts.mono _ _ _)
      | (with_reducible exact LeO.refl _)
      | (with_reducible exact LeO.none _)
      | (with_reducible refine LeO.ite ?_ ?_)
      | (with_reducible refine LeO.bind ?_ (fun _ => ?_))
      | exact ih0 _ _ _
      | exact ih1 _ _ _ _ _ _ _
      | exact jitneyref01_SameInts.mono _ _ _
      | exact jitneyref01_SameRows.mono _ _ _
      | exact jitneyref17_Parts.mono _ _ _
      | exact sweep_Parts.mono _ _ _
      | exact LeO.none _
      | refine LeO.ite ?_ ?_
      | refine LeO.bind ?_ (fun _ => ?_)
set_option maxHeartbeats 8000000 in
set_option maxRecDepth 100000 in
theorem jitneylaw17_SweepParts.calls (k : Nat) (A0 : Option Addr) (c0 : Nat) (l0 : List Int) (a1 : Int) (r : Bool) (w : World) (hr0 : Kd.C (Kd.int .i64) w A0 l0.length l0) (hc0 : l0.length ≤ c0) (h : jitneylaw17_SweepParts.f k l0 a1 = some r) :
    Calls Try.prog 3 #[.slice A0 l0.length c0, .int .i64 a1] w fun e w' => e = .returned (.bool r) ∧ Below w.heap.size w w' := by
  have HR0 := Aside0.mk hr0
  have HC0 := Aside0.mk hc0
  clear hr0 hc0
  have HB := Aside0.mk (Below.refl w.heap.size w)
  have H : ((jitneylaw17_alive.f).bind fun t147 => (if t147 = true then (if (l0.length : Int) > 100 then (jitneylaw17_SweepParts.j0 k l0 a1 true) else (jitneylaw17_SweepParts.j0 k l0 a1 (decide (a1 > 100)))) else (some false))) = some r := h
  clear h
  replace H := Option.bind_eq_some_iff.mp H
  obtain ⟨t147, A30, H⟩ := H
  replace H : (if t147 = true then (if (l0.length : Int) > 100 then (jitneylaw17_SweepParts.j0 k l0 a1 true) else (jitneylaw17_SweepParts.j0 k l0 a1 (decide (a1 > 100)))) else (some false)) = some r := H
  have A3 := Aside0.mk A30
  clear A30
  by_cases c4 : t147 = true
  · subst c4
    have H1 : (if (l0.length : Int) > 100 then (jitneylaw17_SweepParts.j0 k l0 a1 true) else (jitneylaw17_SweepParts.j0 k l0 a1 (decide (a1 > 100)))) = some r := by rw [if_pos rfl] at H; exact H
    clear H
    have H := H1
    clear H1
    have HC5 := Aside0.mk H
    clear H
    go_enter Try.func3, Try.ntmps3
    go_upto_region 3 with (first | ((with_reducible refine gate_callee (f := 4) rfl ?_); refine goesL_ (some 9) rfl rfl Try.func4 (by kernel_rfl) rfl #[] rfl (by (try simp only [List.map_toArray, List.map_cons, List.map_nil]); first | done | rfl | (simp only [List.length_drop, List.length_take]; rfl)) ?_; (with_reducible refine (jitneylaw17_alive.calls  true _ A3.out).mono ?_); rintro e w6 ⟨rfl, hb⟩; refine ⟨_, rfl, ?_⟩; have n0_ := Aside0.mk (below_step (by repeat (first | (with_reducible first | exact HB.out | apply below_alloc | apply pw_below_drewN | apply below_drew1) | exact HB.out)) hb); clear HB; have HB := n0_; clear n0_; (try clear hb); (try clear hb2); (try clear hk); (try clear hi)))
    (try simp only [Act.put, List.setIfInBounds_toArray, List.set_cons_zero, List.set_cons_succ])
    go_cut [17] (fun v17 wc => ∃ (kq : Nat) (x17_4 : Bool), v17 = .bool x17_4 ∧ Aside0 (jitneylaw17_SweepParts.j0 kq l0 a1 x17_4 = some r) ∧ Aside0 (kq ≤ k) ∧ Aside0 (Below w.heap.size w wc))
    case first =>
      have H := HC5.out
      clear HC5
      by_cases c7 : (l0.length : Int) > 100
      · rw [if_pos c7] at H
        have c7b0 : decide (100 < (l0.length : Int)) = true := decide_eq_true c7
        have c7b1 : decide (100 < l0.length) = true := decide_eq_true (by omega)
        clear c7
        (first | rw [c7b0] | (simp only [i64_w, i32_w]; rw [c7b0]) | skip)
        have H' := Aside0.mk H
        clear H
        go_wp2
        go_meet
        case rel => exact ⟨_, (true), (by first | rfl | (simp; done) | (simp [*]; done)), H', ⟨by first | omega | exact Nat.le_refl _⟩, ⟨by repeat (first | (with_reducible first | exact HB.out | apply below_alloc | apply pw_below_drewN | apply below_drew1) | exact HB.out)⟩⟩
      · rw [if_neg c7] at H
        have c7b0 : decide (100 < (l0.length : Int)) = false := decide_eq_false c7
        have c7b1 : decide (100 < l0.length) = false := decide_eq_false (by omega)
        clear c7
        (first | rw [c7b0] | (simp only [i64_w, i32_w]; rw [c7b0]) | skip)
        have H' := Aside0.mk H
        clear H
        go_wp2
        go_meet
        case rel => exact ⟨_, (decide (a1 > 100)), (by first | rfl | (simp; done) | (simp [*]; done)), H', ⟨by first | omega | exact Nat.le_refl _⟩, ⟨by repeat (first | (with_reducible first | exact HB.out | apply below_alloc | apply pw_below_drewN | apply below_drew1) | exact HB.out)⟩⟩
    case rest =>
      clear HC5
      try clear p2
      try clear c3
      try clear c4
      try clear c7
      try clear c7b0
      try clear c7b1
      obtain ⟨kq, x17_4, rfl, HA, HJ4, HB⟩ := hcut
      cases kq with
      | zero => exact absurd HA.out (by simp [jitneylaw17_SweepParts.j0])
      | succ kj4 =>
        have H := HA.out
        clear HA
        simp only [jitneylaw17_SweepParts.j0] at H
        by_cases c8 : x17_4 = true
        · subst c8
          have H1 : (some true) = some r := by rw [if_pos rfl] at H; exact H
          clear H
          have H := H1
          clear H1
          obtain rfl := Option.some.inj H
          go_wp2
          go_ret
          exact ⟨by first | rfl | (simp [errW_none, errW_some] <;> rfl) | (simp [*, errW_none, errW_some] <;> rfl), by repeat (first | (with_reducible first | exact HB.out | apply below_alloc | apply pw_below_drewN | apply below_drew1) | exact HB.out)⟩
        · replace c8 := Bool.eq_false_iff.mpr c8
          subst c8
          have H1 : ((sweep_Parts.f kj4 l0 a1).bind fun t148 => (jitneylaw17_SweepParts.l0 kj4 l0 a1 t148 (([] : List Int)) t148 (t148.length : Int) 0)) = some r := by rw [if_neg (show ¬ (false = true) by decide)] at H; exact H
          clear H
          have H := H1
          clear H1
          replace H := Option.bind_eq_some_iff.mp H
          obtain ⟨t148, A90, H⟩ := H
          replace H : (jitneylaw17_SweepParts.l0 kj4 l0 a1 t148 (([] : List Int)) t148 (t148.length : Int) 0) = some r := H
          have A9 := Aside0.mk A90
          clear A90
          obtain ⟨y151, hy151⟩ : ∃ y_ : List Int, y_ = (([] : List Int)) := ⟨_, rfl⟩
          replace H : (jitneylaw17_SweepParts.l0 kj4 l0 a1 t148 y151 t148 (t148.length : Int) 0) = some r := by first | (rw [hy151]; with_reducible exact H) | (have H2_ := (Option.bind_some _ _).symm.trans H; rw [hy151]; with_reducible exact H2_) | (have H2_ := (Option.bind_some _ _).symm.trans H; with_reducible exact H2_) | with_reducible exact H | (rw [hy151]; exact H) | exact H
          have Ny151 := Aside0.mk hy151
          clear hy151
          have H' := Aside0.mk H
          clear H
          go_wp2_with (first | ((with_reducible refine gate_callee (f := 5) rfl ?_); refine goesL_ (some 20) rfl rfl Try.func5 (by kernel_rfl) rfl #[.slice A0 l0.length c0, .int .i64 a1] rfl (by (try simp only [List.map_toArray, List.map_cons, List.map_nil]); first | done | rfl | (simp only [List.length_drop, List.length_take]; rfl)) ?_; (with_reducible refine (sweep_Parts.calls kj4 _ _ l0 a1 t148 _ ?side1 ?side2 A9.out).mono ?_); (case side1 => repeat (first | exact (Kd.C_below HR0.out HB.out) | (with_reducible refine Kd.C_alloc ?_ _) | (with_reducible refine Kd.C_drewN ?_ _) | (with_reducible refine Kd.C_drew ?_))); (case side2 => exact HC0.out); rintro e w10 ⟨v149, rfl, ho0, hb⟩; refine ⟨_, rfl, ?_⟩; have n0_ := Aside0.mk (Kd.S_lower ho0 (below_size (by repeat (first | (with_reducible first | exact HB.out | apply below_alloc | apply pw_below_drewN | apply below_drew1) | exact HB.out)))); have n1_ := Aside0.mk (below_step (by repeat (first | (with_reducible first | exact HB.out | apply below_alloc | apply pw_below_drewN | apply below_drew1) | exact HB.out)) hb); clear HB; have HO150 := n0_; have HB := n1_; clear n0_ n1_; (try clear hb); (try clear hb2); (try clear hk); (try clear hi); (try clear ho0)) | ((with_reducible refine gate_dst (N := 21) rfl ?_); (try (refine gate_guard (by rfl) ?_; dsimp only)); refine Kd.R_lit (Kd.int .i64) _ 3 ?hg (N := 21) ?hd (xs := ([] : List Int)) (inner := []) (ok := fun _ => True) (okp := fun _ => True) ?hr ?hp (fun _ hk => hk) trivial (Below.refl _ _) (Nat.le_refl _) (by simp) ?_; (case hd => rfl); (case hg => rfl); (case hr => first | (go_simp; done) | (go_simp; rfl)); (case hp => exact (Reps.none _ _)); intro v152 w11 ho12 hb hg_ hnew_; clear hg_ hnew_; (first | rw [← Ny151.out] at ho12 | (simp only [Int.reduceToNat] at ho12; rw [← Ny151.out] at ho12)); have n0_ := Aside0.mk (Kd.S_elder' (by (with_reducible repeat (first | apply Kd.S_alloc | apply Kd.S_drewN | apply Kd.S_drew)); exact HO150.out) (Kd.R_base ho12) hb); have n1_ := Aside0.mk (Kd.R_lower ho12 (below_size (by repeat (first | (with_reducible first | exact HB.out | apply below_alloc | apply pw_below_drewN | apply below_drew1) | exact HB.out)))); have n2_ := Aside0.mk (below_step (by repeat (first | (with_reducible first | exact HB.out | apply below_alloc | apply pw_below_drewN | apply below_drew1) | exact HB.out)) hb); clear HO150; clear HB; have HO150 := n0_; have HO153 := n1_; have HB := n2_; clear n0_ n1_ n2_; clear hb ho12; obtain ⟨Ao13, co13, eo13⟩ := Kd.S_slice HO150.out; subst eo13))
          go_loopg [6, 24] kj4 (fun kq v6 v24 w' => ∃ (x6_2 : List Int) (x24_2 : Int), v24 = .int .i64 x24_2 ∧ Aside0 (jitneylaw17_SweepParts.l0 kq l0 a1 t148 x6_2 t148 (t148.length : Int) x24_2 = some r) ∧ Aside0 (kq ≤ kj4) ∧ Aside0 (Kd.S (Kd.slice 3 (Kd.int .i64)) 22 w' w.heap.size (fun k_ => some k_ ≠ (v6 : Value).ownBlock) (.slice Ao13 t148.length co13) t148) ∧ Aside0 (Kd.R (Kd.int .i64) 3 w' w.heap.size (fun _ => True) v6 x6_2) ∧ Aside0 (Kd.S (Kd.slice 3 (Kd.int .i64)) 22 w' w.heap.size (fun k_ => some k_ ≠ (v6 : Value).ownBlock) (.slice Ao13 t148.length co13) t148) ∧ Aside0 (Below w.heap.size w w'))
          case atStart => exact ⟨(y151), (0), (by first | rfl | (simp; done) | (simp [*]; done)), H', ⟨Nat.le_refl _⟩, ⟨by (with_reducible repeat (first | apply Kd.S_alloc | apply Kd.S_drewN | apply Kd.S_drew)); exact Kd.S_mono HO150.out (fun _ hk => hk.2)⟩, ⟨by (with_reducible repeat (first | apply Kd.R_alloc | apply Kd.R_drewN | apply Kd.R_drew)); exact HO153.out⟩, ⟨by (with_reducible repeat (first | apply Kd.S_alloc | apply Kd.S_drewN | apply Kd.S_drew)); exact Kd.S_mono HO150.out (fun _ hk => hk.2)⟩, ⟨by repeat (first | (with_reducible first | exact HB.out | apply below_alloc | apply pw_below_drewN | apply below_drew1) | exact HB.out)⟩⟩
          case round =>
            clear H'
            try clear p2
            try clear c3
            try clear c4
            try clear c5
            try clear c7
            try clear c7b0
            try clear c7b1
            try clear c8
            try clear p2
            obtain ⟨x6_2, x24_2, rfl, HA, HK2, HO_5, HO_6, HO_22, HB⟩ := hrel
            cases gk with
            | zero => exact absurd HA.out (by simp [jitneylaw17_SweepParts.l0])
            | succ k2 =>
              have H := HA.out
              clear HA
              simp only [jitneylaw17_SweepParts.l0] at H
              by_cases c14 : x24_2 < (t148.length : Int)
              · rw [if_pos c14] at H
                have c14b0 : decide (x24_2 < (t148.length : Int)) = true := decide_eq_true c14
                clear c14
                by_cases c15 : 0 ≤ x24_2
                · rw [if_pos c15] at H
                  have c15b0 : decide (0 ≤ x24_2) = true := decide_eq_true c15
                  clear c15
                  by_cases c16 : x24_2 < (t148.length : Int)
                  · rw [if_pos c16] at H
                    have c16b0 : decide (x24_2 < (t148.length : Int)) = true := decide_eq_true c16
                    clear c16
                    by_cases c17 : x6_2.length + (rd_L1 t148 x24_2).length < 17592186044416
                    · rw [if_pos c17] at H
                      have LMc17 := Aside0.mk c17
                      clear c17
                      obtain ⟨y155, hy155⟩ : ∃ y_ : List Int, y_ = (x6_2 ++ (rd_L1 t148 x24_2)) := ⟨_, rfl⟩
                      replace H : (if 0 < (t148.length : Int) then (if ((rd_L1 t148 x24_2).length : Int) > ((rd_L1 t148 0).length : Int) then (some false) else (if (wrap64 (((rd_L1 t148 x24_2).length : Int) + 1)) < ((rd_L1 t148 0).length : Int) then (some false) else (jitneylaw17_SweepParts.l0 k2 l0 a1 t148 y155 t148 (t148.length : Int) (wrap64 (x24_2 + 1))))) else (none)) = some r := by first | (rw [hy155]; with_reducible exact H) | (have H2_ := (Option.bind_some _ _).symm.trans H; rw [hy155]; with_reducible exact H2_) | (have H2_ := (Option.bind_some _ _).symm.trans H; with_reducible exact H2_) | with_reducible exact H | (rw [hy155]; exact H) | exact H
                      have Ny155 := Aside0.mk hy155
                      clear hy155
                      by_cases c18 : 0 < (t148.length : Int)
                      · rw [if_pos c18] at H
                        have c18b0 : decide (0 < (t148.length : Int)) = true := decide_eq_true c18
                        have c18b1 : decide (0 < t148.length) = true := decide_eq_true (by omega)
                        clear c18
                        by_cases c19 : ((rd_L1 t148 x24_2).length : Int) > ((rd_L1 t148 0).length : Int)
                        · rw [if_pos c19] at H
                          have c19b0 : decide (((rd_L1 t148 0).length : Int) < ((rd_L1 t148 x24_2).length : Int)) = true := decide_eq_true c19
                          have c19b1 : decide ((rd_L1 t148 0).length < (rd_L1 t148 x24_2).length) = true := decide_eq_true (Int.ofNat_lt.mp c19)
                          clear c19
                          obtain rfl := Option.some.inj H
                          have p154 : 0 ≤ (x24_2 : Int) := of_decide_eq_true (by first | (with_reducible assumption) | assumption)
                          have q154 : x24_2 < (t148.length : Int) := of_decide_eq_true (by first | (with_reducible assumption) | assumption)
                          obtain ⟨ad154, A154_0, c154_0, e154, hx154_0, hl154_0, hi154_0⟩ := at_L1 (Kd.S_reads' HO_22.out).2.2 x24_2 p154 q154
                          cases e154
                          obtain ⟨ce154, hce154, hMe154, hcc154⟩ := Kd.S_get HO_22.out [] x24_2 p154 (by first | exact q154 | exact of_decide_eq_true (by first | (with_reducible assumption) | assumption) | (have e_ := (Kd.S_reads' HO_22.out).1; omega))
                          obtain ⟨ve154_0, rfl, ge154_0⟩ := hMe154
                          have hv154_0 := hcc154 0 _ rfl
                          rw [Nat.add_zero, show ((Kd.slice 3 (Kd.int .i64))).sz = 1 from rfl, Nat.mul_one] at hv154_0
                          replace hv154_0 := Option.some.inj (hv154_0.symm.trans hx154_0)
                          rw [hv154_0] at ge154_0
                          have HL154_0 := Aside0.mk (show Kd.R (Kd.int .i64) 3 _ _ _ _ (rd_L1 t148 x24_2) from ge154_0)
                          clear hv154_0 ge154_0
                          clear hcc154 hce154
                          have HR154_0 := Aside0.mk hi154_0
                          have HC154_0 := Aside0.mk hl154_0
                          clear hi154_0 hl154_0
                          replace p154 := eq_true p154
                          replace q154 := eq_true q154
                          go_wp2_with (first | ((with_reducible refine gate_builtin (b := .append) (xs := #[.tmp 28, .tmp 29]) rfl ?_); (try (refine gate_guard (by rfl) ?_; dsimp only)); at_builtin; refine Kd.R_append_rows (Kd.int .i64) (w0 := w) w.heap.size rfl (.tmp 28) (.tmp 29) 22 3 (.int .i64 0) 8 rfl Try.underlying22 info3 rfl (by decide) (by omega) u6 x6_2 (rd_L1 t148 x24_2) _ _ _ (fun _ => True) (fun _ => False) rfl rfl ?aO ?aR (fun _ _ h => h) (fun _ h => h.elim) ?aF ?aB ?aS ?aL ?_; (case aR => repeat (first | exact (by repeat (first | (with_reducible exact HR154_0.out) | (with_reducible refine Kd.C_alloc ?_ _) | (with_reducible refine Kd.C_drewN ?_ _) | (with_reducible refine Kd.C_drew ?_) | exact HR154_0.out)) | (with_reducible refine Kd.C_alloc ?_ _) | (with_reducible refine Kd.C_drewN ?_ _) | (with_reducible refine Kd.C_drew ?_))); (case aB => exact (by repeat (first | (with_reducible first | exact HB.out | apply below_alloc | apply pw_below_drewN | apply below_drew1) | exact HB.out))); (case aF => exact (fun _ _ => trivial)); (case aO => exact (by (with_reducible repeat (first | apply Kd.R_alloc | apply Kd.R_drewN | apply Kd.R_drew)); exact HO_6.out)); (case aS => exact (below_size (by repeat (first | (with_reducible first | exact HB.out | apply below_alloc | apply pw_below_drewN | apply below_drew1) | exact HB.out)))); (case aL => have := LMc17.out; omega); intro v156 w20 ho hb hg hat; rw [← Ny155.out] at ho; have n0_ := Aside0.mk (Kd.S_after (ok := (fun _ => True)) (by (with_reducible repeat (first | apply Kd.S_alloc | apply Kd.S_drewN | apply Kd.S_drew)); exact Kd.S_mono HO_5.out (fun _ hk => ⟨trivial, hk⟩)) hg hat); have n1_ := Aside0.mk (Kd.S_after (ok := (fun _ => True)) (by (with_reducible repeat (first | apply Kd.S_alloc | apply Kd.S_drewN | apply Kd.S_drew)); exact Kd.S_mono HO_22.out (fun _ hk => ⟨trivial, hk⟩)) hg hat); have n2_ := Aside0.mk (Kd.R_after (ok := (fun k_ => some k_ ≠ (.slice (some ad154) t148.length co13 : Value).ownBlock)) (by (with_reducible repeat (first | apply Kd.R_alloc | apply Kd.R_drewN | apply Kd.R_drew)); exact Kd.R_mono HL154_0.out (fun _ hk => ⟨hk.2, hk.1⟩)) hg hat); have n3_ := Aside0.mk (hb); have n4_ := Aside0.mk (ho); clear HO_5; clear HO_22; clear HL154_0; clear HB; clear HO_6; have HO_5 := n0_; have HO_22 := n1_; have HL154_0 := n2_; have HB := n3_; have HO157 := n4_; clear n0_ n1_ n2_ n3_ n4_; clear ho hb hg hat; have p158 : 0 ≤ (0 : Int) := (by omega); have q158 : 0 < (t148.length : Int) := of_decide_eq_true (by first | (with_reducible assumption) | assumption); obtain ⟨ad158, A158_0, c158_0, e158, hx158_0, hl158_0, hi158_0⟩ := at_L1 (Kd.S_reads' HO_5.out).2.2 0 p158 q158; obtain rfl : ad154 = ad158 := (by injection e158); obtain ⟨ce158, hce158, hMe158, hcc158⟩ := Kd.S_get HO_5.out [] 0 p158 (by first | exact q158 | exact of_decide_eq_true (by first | (with_reducible assumption) | assumption) | (have e_ := (Kd.S_reads' HO_5.out).1; omega)); obtain ⟨ve158_0, rfl, ge158_0⟩ := hMe158; have hv158_0 := hcc158 0 _ rfl; rw [Nat.add_zero, show ((Kd.slice 3 (Kd.int .i64))).sz = 1 from rfl, Nat.mul_one] at hv158_0; replace hv158_0 := Option.some.inj (hv158_0.symm.trans hx158_0); rw [hv158_0] at ge158_0; have HL158_0 := Aside0.mk (show Kd.R (Kd.int .i64) 3 _ _ _ _ (rd_L1 t148 0) from ge158_0); clear hv158_0 ge158_0; clear hcc158 hce158; have qi158 : (0 < t148.length) = True := eq_true (by omega); (try rw [show ((0 : Int)).toNat = 0 from rfl] at hx158_0); (try rw [Addr.add_zero'] at hx158_0); have HR158_0 := Aside0.mk hi158_0; have HC158_0 := Aside0.mk hl158_0; clear hi158_0 hl158_0; replace p158 := eq_true p158; replace q158 := eq_true q158))
                          go_ret
                          exact ⟨by first | rfl | (simp [errW_none, errW_some] <;> rfl) | (simp [*, errW_none, errW_some] <;> rfl), by repeat (first | (with_reducible first | exact HB.out | apply below_alloc | apply pw_below_drewN | apply below_drew1) | exact HB.out)⟩
                        · rw [if_neg c19] at H
                          have c19b0 : decide (((rd_L1 t148 0).length : Int) < ((rd_L1 t148 x24_2).length : Int)) = false := decide_eq_false c19
                          have c19b1 : decide ((rd_L1 t148 0).length < (rd_L1 t148 x24_2).length) = false := decide_eq_false (fun h => c19 (Int.ofNat_lt.mpr h))
                          clear c19
                          by_cases c21 : (wrap64 (((rd_L1 t148 x24_2).length : Int) + 1)) < ((rd_L1 t148 0).length : Int)
                          · rw [if_pos c21] at H
                            have c21b0 : decide ((wrap64 (((rd_L1 t148 x24_2).length : Int) + 1)) < ((rd_L1 t148 0).length : Int)) = true := decide_eq_true c21
                            clear c21
                            obtain rfl := Option.some.inj H
                            have p154 : 0 ≤ (x24_2 : Int) := of_decide_eq_true (by first | (with_reducible assumption) | assumption)
                            have q154 : x24_2 < (t148.length : Int) := of_decide_eq_true (by first | (with_reducible assumption) | assumption)
                            obtain ⟨ad154, A154_0, c154_0, e154, hx154_0, hl154_0, hi154_0⟩ := at_L1 (Kd.S_reads' HO_22.out).2.2 x24_2 p154 q154
                            cases e154
                            obtain ⟨ce154, hce154, hMe154, hcc154⟩ := Kd.S_get HO_22.out [] x24_2 p154 (by first | exact q154 | exact of_decide_eq_true (by first | (with_reducible assumption) | assumption) | (have e_ := (Kd.S_reads' HO_22.out).1; omega))
                            obtain ⟨ve154_0, rfl, ge154_0⟩ := hMe154
                            have hv154_0 := hcc154 0 _ rfl
                            rw [Nat.add_zero, show ((Kd.slice 3 (Kd.int .i64))).sz = 1 from rfl, Nat.mul_one] at hv154_0
                            replace hv154_0 := Option.some.inj (hv154_0.symm.trans hx154_0)
                            rw [hv154_0] at ge154_0
                            have HL154_0 := Aside0.mk (show Kd.R (Kd.int .i64) 3 _ _ _ _ (rd_L1 t148 x24_2) from ge154_0)
                            clear hv154_0 ge154_0
                            clear hcc154 hce154
                            have HR154_0 := Aside0.mk hi154_0
                            have HC154_0 := Aside0.mk hl154_0
                            clear hi154_0 hl154_0
                            replace p154 := eq_true p154
                            replace q154 := eq_true q154
                            go_wp2_with (first | ((with_reducible refine gate_builtin (b := .append) (xs := #[.tmp 28, .tmp 29]) rfl ?_); (try (refine gate_guard (by rfl) ?_; dsimp only)); at_builtin; refine Kd.R_append_rows (Kd.int .i64) (w0 := w) w.heap.size rfl (.tmp 28) (.tmp 29) 22 3 (.int .i64 0) 8 rfl Try.underlying22 info3 rfl (by decide) (by omega) u6 x6_2 (rd_L1 t148 x24_2) _ _ _ (fun _ => True) (fun _ => False) rfl rfl ?aO ?aR (fun _ _ h => h) (fun _ h => h.elim) ?aF ?aB ?aS ?aL ?_; (case aR => repeat (first | exact (by repeat (first | (with_reducible exact HR154_0.out) | (with_reducible refine Kd.C_alloc ?_ _) | (with_reducible refine Kd.C_drewN ?_ _) | (with_reducible refine Kd.C_drew ?_) | exact HR154_0.out)) | (with_reducible refine Kd.C_alloc ?_ _) | (with_reducible refine Kd.C_drewN ?_ _) | (with_reducible refine Kd.C_drew ?_))); (case aB => exact (by repeat (first | (with_reducible first | exact HB.out | apply below_alloc | apply pw_below_drewN | apply below_drew1) | exact HB.out))); (case aF => exact (fun _ _ => trivial)); (case aO => exact (by (with_reducible repeat (first | apply Kd.R_alloc | apply Kd.R_drewN | apply Kd.R_drew)); exact HO_6.out)); (case aS => exact (below_size (by repeat (first | (with_reducible first | exact HB.out | apply below_alloc | apply pw_below_drewN | apply below_drew1) | exact HB.out)))); (case aL => have := LMc17.out; omega); intro v156 w22 ho hb hg hat; rw [← Ny155.out] at ho; have n0_ := Aside0.mk (Kd.S_after (ok := (fun _ => True)) (by (with_reducible repeat (first | apply Kd.S_alloc | apply Kd.S_drewN | apply Kd.S_drew)); exact Kd.S_mono HO_5.out (fun _ hk => ⟨trivial, hk⟩)) hg hat); have n1_ := Aside0.mk (Kd.S_after (ok := (fun _ => True)) (by (with_reducible repeat (first | apply Kd.S_alloc | apply Kd.S_drewN | apply Kd.S_drew)); exact Kd.S_mono HO_22.out (fun _ hk => ⟨trivial, hk⟩)) hg hat); have n2_ := Aside0.mk (Kd.R_after (ok := (fun k_ => some k_ ≠ (.slice (some ad154) t148.length co13 : Value).ownBlock)) (by (with_reducible repeat (first | apply Kd.R_alloc | apply Kd.R_drewN | apply Kd.R_drew)); exact Kd.R_mono HL154_0.out (fun _ hk => ⟨hk.2, hk.1⟩)) hg hat); have n3_ := Aside0.mk (hb); have n4_ := Aside0.mk (ho); clear HO_5; clear HO_22; clear HL154_0; clear HB; clear HO_6; have HO_5 := n0_; have HO_22 := n1_; have HL154_0 := n2_; have HB := n3_; have HO157 := n4_; clear n0_ n1_ n2_ n3_ n4_; clear ho hb hg hat; have p158 : 0 ≤ (0 : Int) := (by omega); have q158 : 0 < (t148.length : Int) := of_decide_eq_true (by first | (with_reducible assumption) | assumption); obtain ⟨ad158, A158_0, c158_0, e158, hx158_0, hl158_0, hi158_0⟩ := at_L1 (Kd.S_reads' HO_5.out).2.2 0 p158 q158; obtain rfl : ad154 = ad158 := (by injection e158); obtain ⟨ce158, hce158, hMe158, hcc158⟩ := Kd.S_get HO_5.out [] 0 p158 (by first | exact q158 | exact of_decide_eq_true (by first | (with_reducible assumption) | assumption) | (have e_ := (Kd.S_reads' HO_5.out).1; omega)); obtain ⟨ve158_0, rfl, ge158_0⟩ := hMe158; have hv158_0 := hcc158 0 _ rfl; rw [Nat.add_zero, show ((Kd.slice 3 (Kd.int .i64))).sz = 1 from rfl, Nat.mul_one] at hv158_0; replace hv158_0 := Option.some.inj (hv158_0.symm.trans hx158_0); rw [hv158_0] at ge158_0; have HL158_0 := Aside0.mk (show Kd.R (Kd.int .i64) 3 _ _ _ _ (rd_L1 t148 0) from ge158_0); clear hv158_0 ge158_0; clear hcc158 hce158; have qi158 : (0 < t148.length) = True := eq_true (by omega); (try rw [show ((0 : Int)).toNat = 0 from rfl] at hx158_0); (try rw [Addr.add_zero'] at hx158_0); have HR158_0 := Aside0.mk hi158_0; have HC158_0 := Aside0.mk hl158_0; clear hi158_0 hl158_0; replace p158 := eq_true p158; replace q158 := eq_true q158; have p159 : 0 ≤ (0 : Int) := (by omega); have q159 : 0 < (t148.length : Int) := of_decide_eq_true (by first | (with_reducible assumption) | assumption); obtain ⟨ad159, A159_0, c159_0, e159, hx159_0, hl159_0, hi159_0⟩ := at_L1 (Kd.S_reads' HO_5.out).2.2 0 p159 q159; obtain rfl : ad154 = ad159 := (by injection e159); obtain ⟨ce159, hce159, hMe159, hcc159⟩ := Kd.S_get HO_5.out [] 0 p159 (by first | exact q159 | exact of_decide_eq_true (by first | (with_reducible assumption) | assumption) | (have e_ := (Kd.S_reads' HO_5.out).1; omega)); obtain ⟨ve159_0, rfl, ge159_0⟩ := hMe159; have hv159_0 := hcc159 0 _ rfl; rw [Nat.add_zero, show ((Kd.slice 3 (Kd.int .i64))).sz = 1 from rfl, Nat.mul_one] at hv159_0; replace hv159_0 := Option.some.inj (hv159_0.symm.trans hx159_0); rw [hv159_0] at ge159_0; have HL159_0 := Aside0.mk (show Kd.R (Kd.int .i64) 3 _ _ _ _ (rd_L1 t148 0) from ge159_0); clear hv159_0 ge159_0; clear hcc159 hce159; have qi159 : (0 < t148.length) = True := eq_true (by omega); (try rw [show ((0 : Int)).toNat = 0 from rfl] at hx159_0); (try rw [Addr.add_zero'] at hx159_0); have HR159_0 := Aside0.mk hi159_0; have HC159_0 := Aside0.mk hl159_0; clear hi159_0 hl159_0; replace p159 := eq_true p159; replace q159 := eq_true q159; have ea_ := Option.some.inj (hx158_0.symm.trans hx159_0); injection ea_ with ea_ en_ ec_; subst ea_; subst ec_; clear en_))
                            go_ret
                            exact ⟨by first | rfl | (simp [errW_none, errW_some] <;> rfl) | (simp [*, errW_none, errW_some] <;> rfl), by repeat (first | (with_reducible first | exact HB.out | apply below_alloc | apply pw_below_drewN | apply below_drew1) | exact HB.out)⟩
                          · rw [if_neg c21] at H
                            have c21b0 : decide ((wrap64 (((rd_L1 t148 x24_2).length : Int) + 1)) < ((rd_L1 t148 0).length : Int)) = false := decide_eq_false c21
                            clear c21
                            have H' := Aside0.mk H
                            clear H
                            have p154 : 0 ≤ (x24_2 : Int) := of_decide_eq_true (by first | (with_reducible assumption) | assumption)
                            have q154 : x24_2 < (t148.length : Int) := of_decide_eq_true (by first | (with_reducible assumption) | assumption)
                            obtain ⟨ad154, A154_0, c154_0, e154, hx154_0, hl154_0, hi154_0⟩ := at_L1 (Kd.S_reads' HO_22.out).2.2 x24_2 p154 q154
                            cases e154
                            obtain ⟨ce154, hce154, hMe154, hcc154⟩ := Kd.S_get HO_22.out [] x24_2 p154 (by first | exact q154 | exact of_decide_eq_true (by first | (with_reducible assumption) | assumption) | (have e_ := (Kd.S_reads' HO_22.out).1; omega))
                            obtain ⟨ve154_0, rfl, ge154_0⟩ := hMe154
                            have hv154_0 := hcc154 0 _ rfl
                            rw [Nat.add_zero, show ((Kd.slice 3 (Kd.int .i64))).sz = 1 from rfl, Nat.mul_one] at hv154_0
                            replace hv154_0 := Option.some.inj (hv154_0.symm.trans hx154_0)
                            rw [hv154_0] at ge154_0
                            have HL154_0 := Aside0.mk (show Kd.R (Kd.int .i64) 3 _ _ _ _ (rd_L1 t148 x24_2) from ge154_0)
                            clear hv154_0 ge154_0
                            clear hcc154 hce154
                            have HR154_0 := Aside0.mk hi154_0
                            have HC154_0 := Aside0.mk hl154_0
                            clear hi154_0 hl154_0
                            replace p154 := eq_true p154
                            replace q154 := eq_true q154
                            go_wp2_with (first | ((with_reducible refine gate_builtin (b := .append) (xs := #[.tmp 28, .tmp 29]) rfl ?_); (try (refine gate_guard (by rfl) ?_; dsimp only)); at_builtin; refine Kd.R_append_rows (Kd.int .i64) (w0 := w) w.heap.size rfl (.tmp 28) (.tmp 29) 22 3 (.int .i64 0) 8 rfl Try.underlying22 info3 rfl (by decide) (by omega) u6 x6_2 (rd_L1 t148 x24_2) _ _ _ (fun _ => True) (fun _ => False) rfl rfl ?aO ?aR (fun _ _ h => h) (fun _ h => h.elim) ?aF ?aB ?aS ?aL ?_; (case aR => repeat (first | exact (by repeat (first | (with_reducible exact HR154_0.out) | (with_reducible refine Kd.C_alloc ?_ _) | (with_reducible refine Kd.C_drewN ?_ _) | (with_reducible refine Kd.C_drew ?_) | exact HR154_0.out)) | (with_reducible refine Kd.C_alloc ?_ _) | (with_reducible refine Kd.C_drewN ?_ _) | (with_reducible refine Kd.C_drew ?_))); (case aB => exact (by repeat (first | (with_reducible first | exact HB.out | apply below_alloc | apply pw_below_drewN | apply below_drew1) | exact HB.out))); (case aF => exact (fun _ _ => trivial)); (case aO => exact (by (with_reducible repeat (first | apply Kd.R_alloc | apply Kd.R_drewN | apply Kd.R_drew)); exact HO_6.out)); (case aS => exact (below_size (by repeat (first | (with_reducible first | exact HB.out | apply below_alloc | apply pw_below_drewN | apply below_drew1) | exact HB.out)))); (case aL => have := LMc17.out; omega); intro v156 w23 ho hb hg hat; rw [← Ny155.out] at ho; have n0_ := Aside0.mk (Kd.S_after (ok := (fun _ => True)) (by (with_reducible repeat (first | apply Kd.S_alloc | apply Kd.S_drewN | apply Kd.S_drew)); exact Kd.S_mono HO_5.out (fun _ hk => ⟨trivial, hk⟩)) hg hat); have n1_ := Aside0.mk (Kd.S_after (ok := (fun _ => True)) (by (with_reducible repeat (first | apply Kd.S_alloc | apply Kd.S_drewN | apply Kd.S_drew)); exact Kd.S_mono HO_22.out (fun _ hk => ⟨trivial, hk⟩)) hg hat); have n2_ := Aside0.mk (Kd.R_after (ok := (fun k_ => some k_ ≠ (.slice (some ad154) t148.length co13 : Value).ownBlock)) (by (with_reducible repeat (first | apply Kd.R_alloc | apply Kd.R_drewN | apply Kd.R_drew)); exact Kd.R_mono HL154_0.out (fun _ hk => ⟨hk.2, hk.1⟩)) hg hat); have n3_ := Aside0.mk (hb); have n4_ := Aside0.mk (ho); clear HO_5; clear HO_22; clear HL154_0; clear HB; clear HO_6; have HO_5 := n0_; have HO_22 := n1_; have HL154_0 := n2_; have HB := n3_; have HO157 := n4_; clear n0_ n1_ n2_ n3_ n4_; clear ho hb hg hat; have p158 : 0 ≤ (0 : Int) := (by omega); have q158 : 0 < (t148.length : Int) := of_decide_eq_true (by first | (with_reducible assumption) | assumption); obtain ⟨ad158, A158_0, c158_0, e158, hx158_0, hl158_0, hi158_0⟩ := at_L1 (Kd.S_reads' HO_5.out).2.2 0 p158 q158; obtain rfl : ad154 = ad158 := (by injection e158); obtain ⟨ce158, hce158, hMe158, hcc158⟩ := Kd.S_get HO_5.out [] 0 p158 (by first | exact q158 | exact of_decide_eq_true (by first | (with_reducible assumption) | assumption) | (have e_ := (Kd.S_reads' HO_5.out).1; omega)); obtain ⟨ve158_0, rfl, ge158_0⟩ := hMe158; have hv158_0 := hcc158 0 _ rfl; rw [Nat.add_zero, show ((Kd.slice 3 (Kd.int .i64))).sz = 1 from rfl, Nat.mul_one] at hv158_0; replace hv158_0 := Option.some.inj (hv158_0.symm.trans hx158_0); rw [hv158_0] at ge158_0; have HL158_0 := Aside0.mk (show Kd.R (Kd.int .i64) 3 _ _ _ _ (rd_L1 t148 0) from ge158_0); clear hv158_0 ge158_0; clear hcc158 hce158; have qi158 : (0 < t148.length) = True := eq_true (by omega); (try rw [show ((0 : Int)).toNat = 0 from rfl] at hx158_0); (try rw [Addr.add_zero'] at hx158_0); have HR158_0 := Aside0.mk hi158_0; have HC158_0 := Aside0.mk hl158_0; clear hi158_0 hl158_0; replace p158 := eq_true p158; replace q158 := eq_true q158; have p159 : 0 ≤ (0 : Int) := (by omega); have q159 : 0 < (t148.length : Int) := of_decide_eq_true (by first | (with_reducible assumption) | assumption); obtain ⟨ad159, A159_0, c159_0, e159, hx159_0, hl159_0, hi159_0⟩ := at_L1 (Kd.S_reads' HO_5.out).2.2 0 p159 q159; obtain rfl : ad154 = ad159 := (by injection e159); obtain ⟨ce159, hce159, hMe159, hcc159⟩ := Kd.S_get HO_5.out [] 0 p159 (by first | exact q159 | exact of_decide_eq_true (by first | (with_reducible assumption) | assumption) | (have e_ := (Kd.S_reads' HO_5.out).1; omega)); obtain ⟨ve159_0, rfl, ge159_0⟩ := hMe159; have hv159_0 := hcc159 0 _ rfl; rw [Nat.add_zero, show ((Kd.slice 3 (Kd.int .i64))).sz = 1 from rfl, Nat.mul_one] at hv159_0; replace hv159_0 := Option.some.inj (hv159_0.symm.trans hx159_0); rw [hv159_0] at ge159_0; have HL159_0 := Aside0.mk (show Kd.R (Kd.int .i64) 3 _ _ _ _ (rd_L1 t148 0) from ge159_0); clear hv159_0 ge159_0; clear hcc159 hce159; have qi159 : (0 < t148.length) = True := eq_true (by omega); (try rw [show ((0 : Int)).toNat = 0 from rfl] at hx159_0); (try rw [Addr.add_zero'] at hx159_0); have HR159_0 := Aside0.mk hi159_0; have HC159_0 := Aside0.mk hl159_0; clear hi159_0 hl159_0; replace p159 := eq_true p159; replace q159 := eq_true q159; have ea_ := Option.some.inj (hx158_0.symm.trans hx159_0); injection ea_ with ea_ en_ ec_; subst ea_; subst ec_; clear en_))
                            go_roundg k2
                            case measure => have := HJ4.out; have := HK2.out; omega
                            case rel => exact ⟨(y155), (wrap64 (x24_2 + 1)), (by first | rfl | (simp; done) | (simp [*]; done)), H', ⟨by have := HJ4.out; have := HK2.out; omega⟩, ⟨by (with_reducible repeat (first | apply Kd.S_alloc | apply Kd.S_drewN | apply Kd.S_drew)); exact Kd.S_mono HO_5.out (fun _ hk => hk.2)⟩, ⟨by (with_reducible repeat (first | apply Kd.R_alloc | apply Kd.R_drewN | apply Kd.R_drew)); exact HO157.out⟩, ⟨by (with_reducible repeat (first | apply Kd.S_alloc | apply Kd.S_drewN | apply Kd.S_drew)); exact Kd.S_mono HO_22.out (fun _ hk => hk.2)⟩, ⟨by repeat (first | (with_reducible first | exact HB.out | apply below_alloc | apply pw_below_drewN | apply below_drew1) | exact HB.out)⟩⟩
                      · rw [if_neg c18] at H
                        exact absurd H (by simp)
                    · rw [if_neg c17] at H
                      exact absurd H (by simp)
                  · rw [if_neg c16] at H
                    exact absurd H (by simp)
                · rw [if_neg c15] at H
                  exact absurd H (by simp)
              · rw [if_neg c14] at H
                have c14b0 : decide (x24_2 < (t148.length : Int)) = false := decide_eq_false c14
                clear c14
                obtain ⟨ji24, hji24⟩ : ∃ j_ : Int, (mx a1 1) = j_ := ⟨_, rfl⟩
                replace H : (if (t148.length : Int) = (ji24) then ((jitneyref01_SameInts.f k2 x6_2 l0).bind fun t160 => (if t160 = true then ((jitneyref17_Parts.f k2 l0 a1).bind fun t161 => ((jitneyref01_SameRows.f k2 t148 t161).bind fun t164 => (some t164))) else (some false))) else (some false)) = some r := by first | (rw [hji24] at H; exact H) | (simp only [hji24] at H ⊢; exact H)
                (try (have hji24l : 1 ≤ ji24 := by (rw [← hji24]; unfold mx; (repeat' split) <;> omega)))
                (try (have hji24m : 0 ≤ ji24 := by omega))
                have hji24_ : (if a1 < 1 then 1 else a1) = ji24 := hji24
                by_cases c25 : (t148.length : Int) = (ji24)
                · rw [if_pos c25] at H
                  have c25b0 : ((t148.length : Int) == (ji24)) = true := beq_iff_eq.mpr c25
                  have c25b1 : ((t148.length : Int) != (ji24)) = false := bne_eq_false_iff_eq.mpr c25
                  clear c25
                  replace H := Option.bind_eq_some_iff.mp H
                  obtain ⟨t160, A260, H⟩ := H
                  replace H : (if t160 = true then ((jitneyref17_Parts.f k2 l0 a1).bind fun t161 => ((jitneyref01_SameRows.f k2 t148 t161).bind fun t164 => (some t164))) else (some false)) = some r := H
                  have A26 := Aside0.mk A260
                  clear A260
                  by_cases c27 : t160 = true
                  · subst c27
                    have H1 : ((jitneyref17_Parts.f k2 l0 a1).bind fun t161 => ((jitneyref01_SameRows.f k2 t148 t161).bind fun t164 => (some t164))) = some r := by rw [if_pos rfl] at H; exact H
                    clear H
                    have H := H1
                    clear H1
                    replace H := Option.bind_eq_some_iff.mp H
                    obtain ⟨t161, A280, H⟩ := H
                    replace H : ((jitneyref01_SameRows.f k2 t148 t161).bind fun t164 => (some t164)) = some r := H
                    have A28 := Aside0.mk A280
                    clear A280
                    replace H := Option.bind_eq_some_iff.mp H
                    obtain ⟨t164, A290, H⟩ := H
                    replace H : (some t164) = some r := H
                    have A29 := Aside0.mk A290
                    clear A290
                    obtain rfl := Option.some.inj H
                    obtain ⟨Ao30, co30, eo30⟩ := Kd.R_slice HO_6.out
                    subst eo30
                    go_wp2_with (first | (go_at_call 6; (with_reducible refine (jitneyref01_SameInts.calls k2 _ _ x6_2 _ _ l0 true _ ?side1 ?side2 ?side3 ?side4 A26.out).mono ?_); (case side1 => repeat (first | exact (Kd.R_reads' HO_6.out).2.2 | (with_reducible refine Kd.C_alloc ?_ _) | (with_reducible refine Kd.C_drewN ?_ _) | (with_reducible refine Kd.C_drew ?_))); (case side2 => exact (Kd.R_reads' HO_6.out).2.1); (case side3 => repeat (first | exact (Kd.C_below HR0.out HB.out) | (with_reducible refine Kd.C_alloc ?_ _) | (with_reducible refine Kd.C_drewN ?_ _) | (with_reducible refine Kd.C_drew ?_))); (case side4 => exact HC0.out); rintro e w' ⟨rfl, ⟨nd, rfl⟩⟩) | (go_at_call 8; (with_reducible refine (jitneyref17_Parts.calls k2 _ _ l0 a1 t161 _ ?side1 ?side2 A28.out).mono ?_); (case side1 => repeat (first | exact (Kd.C_below HR0.out (by repeat (first | (with_reducible first | exact HB.out | apply below_alloc | apply pw_below_drewN | apply below_drew1) | exact HB.out))) | (with_reducible refine Kd.C_alloc ?_ _) | (with_reducible refine Kd.C_drewN ?_ _) | (with_reducible refine Kd.C_drew ?_))); (case side2 => exact HC0.out); rintro e w31 ⟨v162, rfl, ho0, hb⟩; have n0_ := Aside0.mk (Kd.S_elder' (by (with_reducible repeat (first | apply Kd.S_alloc | apply Kd.S_drewN | apply Kd.S_drew)); exact HO_5.out) (Kd.S_base ho0) hb); have n1_ := Aside0.mk (Kd.R_below (by (with_reducible repeat (first | apply Kd.R_alloc | apply Kd.R_drewN | apply Kd.R_drew)); exact HO_6.out) hb); have n2_ := Aside0.mk (Kd.S_elder' (by (with_reducible repeat (first | apply Kd.S_alloc | apply Kd.S_drewN | apply Kd.S_drew)); exact HO_22.out) (Kd.S_base ho0) hb); have n3_ := Aside0.mk (Kd.S_lower (Kd.S_new' (Kd.S_new' (Kd.S_new' ho0 (Kd.S_lt (by (with_reducible repeat (first | apply Kd.S_alloc | apply Kd.S_drewN | apply Kd.S_drew)); exact HO_5.out))) (Kd.R_lt (by (with_reducible repeat (first | apply Kd.R_alloc | apply Kd.R_drewN | apply Kd.R_drew)); exact HO_6.out))) (Kd.S_lt (by (with_reducible repeat (first | apply Kd.S_alloc | apply Kd.S_drewN | apply Kd.S_drew)); exact HO_22.out))) (below_size (by repeat (first | (with_reducible first | exact HB.out | apply below_alloc | apply pw_below_drewN | apply below_drew1) | exact HB.out)))); have n4_ := Aside0.mk (below_step (by repeat (first | (with_reducible first | exact HB.out | apply below_alloc | apply pw_below_drewN | apply below_drew1) | exact HB.out)) hb); clear HO_5; clear HO_6; clear HO_22; clear HB; have HO_5 := n0_; have HO_6 := n1_; have HO_22 := n2_; have HO163 := n3_; have HB := n4_; clear n0_ n1_ n2_ n3_ n4_; (try clear hb); (try clear hb2); (try clear hk); (try clear hi); (try clear ho0); obtain ⟨Ao32, co32, eo32⟩ := Kd.S_slice HO163.out; subst eo32) | (go_at_call 7; (with_reducible refine (jitneyref01_SameRows.calls k2 _ _ t148 _ _ t161 t164 _ ?side1 ?side2 ?side3 ?side4 A29.out).mono ?_); (case side1 => repeat (first | exact (Kd.S_reads' HO_5.out).2.2 | (with_reducible refine Kd.C_alloc ?_ _) | (with_reducible refine Kd.C_drewN ?_ _) | (with_reducible refine Kd.C_drew ?_))); (case side2 => exact (Kd.S_reads' HO_5.out).2.1); (case side3 => repeat (first | exact (Kd.S_reads' HO163.out).2.2 | (with_reducible refine Kd.C_alloc ?_ _) | (with_reducible refine Kd.C_drewN ?_ _) | (with_reducible refine Kd.C_drew ?_))); (case side4 => exact (Kd.S_reads' HO163.out).2.1); rintro e w' ⟨rfl, ⟨nd, rfl⟩⟩))
                    go_ret
                    exact ⟨by first | rfl | (simp [errW_none, errW_some] <;> rfl) | (simp only [← hji24]; first | rfl | (simp [errW_none, errW_some] <;> rfl)) | (simp [*, errW_none, errW_some] <;> rfl), by repeat (first | (with_reducible first | exact HB.out | apply below_alloc | apply pw_below_drewN | apply below_drew1) | exact HB.out)⟩
                  · replace c27 := Bool.eq_false_iff.mpr c27
                    subst c27
                    have H1 : (some false) = some r := by rw [if_neg (show ¬ (false = true) by decide)] at H; exact H
                    clear H
                    have H := H1
                    clear H1
                    obtain rfl := Option.some.inj H
                    obtain ⟨Ao33, co33, eo33⟩ := Kd.R_slice HO_6.out
                    subst eo33
                    go_wp2_with (first | (go_at_call 6; (with_reducible refine (jitneyref01_SameInts.calls k2 _ _ x6_2 _ _ l0 false _ ?side1 ?side2 ?side3 ?side4 A26.out).mono ?_); (case side1 => repeat (first | exact (Kd.R_reads' HO_6.out).2.2 | (with_reducible refine Kd.C_alloc ?_ _) | (with_reducible refine Kd.C_drewN ?_ _) | (with_reducible refine Kd.C_drew ?_))); (case side2 => exact (Kd.R_reads' HO_6.out).2.1); (case side3 => repeat (first | exact (Kd.C_below HR0.out HB.out) | (with_reducible refine Kd.C_alloc ?_ _) | (with_reducible refine Kd.C_drewN ?_ _) | (with_reducible refine Kd.C_drew ?_))); (case side4 => exact HC0.out); rintro e w' ⟨rfl, ⟨nd, rfl⟩⟩))
                    go_ret
                    exact ⟨by first | rfl | (simp [errW_none, errW_some] <;> rfl) | (simp only [← hji24]; first | rfl | (simp [errW_none, errW_some] <;> rfl)) | (simp [*, errW_none, errW_some] <;> rfl), by repeat (first | (with_reducible first | exact HB.out | apply below_alloc | apply pw_below_drewN | apply below_drew1) | exact HB.out)⟩
                · rw [if_neg c25] at H
                  have c25b0 : ((t148.length : Int) == (ji24)) = false := beq_eq_false_iff_ne.mpr c25
                  have c25b1 : ((t148.length : Int) != (ji24)) = true := bne_iff_ne.mpr c25
                  obtain rfl := Option.some.inj H
                  go_wp2
                  go_ret
                  exact ⟨by first | rfl | (simp [errW_none, errW_some] <;> rfl) | (simp only [← hji24]; first | rfl | (simp [errW_none, errW_some] <;> rfl)) | (simp [*, errW_none, errW_some] <;> rfl), by repeat (first | (with_reducible first | exact HB.out | apply below_alloc | apply pw_below_drewN | apply below_drew1) | exact HB.out)⟩
  · replace c4 := Bool.eq_false_iff.mpr c4
    subst c4
    have H1 : (some false) = some r := by rw [if_neg (show ¬ (false = true) by decide)] at H; exact H
    clear H
    have H := H1
    clear H1
    obtain rfl := Option.some.inj H
    go_enter Try.func3, Try.ntmps3
    go_wp2_with (first | ((with_reducible refine gate_callee (f := 4) rfl ?_); refine goesL_ (some 9) rfl rfl Try.func4 (by kernel_rfl) rfl #[] rfl (by (try simp only [List.map_toArray, List.map_cons, List.map_nil]); first | done | rfl | (simp only [List.length_drop, List.length_take]; rfl)) ?_; (with_reducible refine (jitneylaw17_alive.calls  false _ A3.out).mono ?_); rintro e w34 ⟨rfl, hb⟩; refine ⟨_, rfl, ?_⟩; have n0_ := Aside0.mk (below_step (by repeat (first | (with_reducible first | exact HB.out | apply below_alloc | apply pw_below_drewN | apply below_drew1) | exact HB.out)) hb); clear HB; have HB := n0_; clear n0_; (try clear hb); (try clear hb2); (try clear hk); (try clear hi)))
    go_ret
    exact ⟨by first | rfl | (simp [errW_none, errW_some] <;> rfl) | (simp [*, errW_none, errW_some] <;> rfl), by repeat (first | (with_reducible first | exact HB.out | apply below_alloc | apply pw_below_drewN | apply below_drew1) | exact HB.out)⟩

end Go.Proofs.Ytlpjankfedhhjaa.P
