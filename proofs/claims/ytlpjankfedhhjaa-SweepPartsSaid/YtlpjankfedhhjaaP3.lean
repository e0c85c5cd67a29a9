-- printed by the session's own program wip/xprint.py (over the kit's printer); nothing here is trusted: Lean checks it
import Derived.Test.YtlpjankfedhhjaaP0
import Derived.Test.YtlpjankfedhhjaaP1
import Derived.Test.YtlpjankfedhhjaaP2
namespace Go.Proofs.Ytlpjankfedhhjaa.P
open Go.Proofs.YtlpjankfedhhjaaR
open Go.RowKit Go.Proofs.YtlpjankfedhhjaaW.PrintWords Go.Proofs.YtlpjankfedhhjaaW.PrintLast Go.Proofs.YtlpjankfedhhjaaW.PrintMore
attribute [local go_sem] max2_int min2_int max_two min_two max_three min_three max_four min_four   -- for this text's walks alone
set_option linter.unusedVariables false
set_option linter.unusedSimpArgs false

/-! ### sweep_Parts: function 5 -/
def sweep_Parts.l0 : Nat → List Int → Int → List (List Int) → Int → Int → Int → Option ((List (List Int)))
  | 0, _, _, _, _, _, _ => none
  | k + 1, x0, x1, x5, x6, x14, x15 => if x15 < x14 then (if x1 = 0 then (none) else (if x15 < ((x0.length : Int) % x1) then (if 0 ≤ x6 then (if x6 ≤ (wrap64 (x6 + (wrap64 ((wrap64 ((x0.length : Int) / x1)) + 1)))) then (if (wrap64 (x6 + (wrap64 ((wrap64 ((x0.length : Int) / x1)) + 1)))) ≤ (x0.length : Int) then ((slices_Clone_int_int.f ((x0.take ((wrap64 (x6 + (wrap64 ((wrap64 ((x0.length : Int) / x1)) + 1)))) : Int).toNat).drop (x6 : Int).toNat)).bind fun t110 => (if 0 ≤ x15 then (if x15 < (x5.length : Int) then (sweep_Parts.l0 k x0 x1 (x5.set (x15 : Int).toNat t110) (wrap64 (x6 + (wrap64 ((wrap64 ((x0.length : Int) / x1)) + 1)))) x14 (wrap64 (x15 + 1))) else (none)) else (none))) else (none)) else (none)) else (none)) else (if 0 ≤ x6 then (if x6 ≤ (wrap64 (x6 + (wrap64 ((x0.length : Int) / x1)))) then (if (wrap64 (x6 + (wrap64 ((x0.length : Int) / x1)))) ≤ (x0.length : Int) then ((slices_Clone_int_int.f ((x0.take ((wrap64 (x6 + (wrap64 ((x0.length : Int) / x1)))) : Int).toNat).drop (x6 : Int).toNat)).bind fun t115 => (if 0 ≤ x15 then (if x15 < (x5.length : Int) then (sweep_Parts.l0 k x0 x1 (x5.set (x15 : Int).toNat t115) (wrap64 (x6 + (wrap64 ((x0.length : Int) / x1)))) x14 (wrap64 (x15 + 1))) else (none)) else (none))) else (none)) else (none)) else (none)))) else (some x5)
def sweep_Parts.f (k : Nat) (l0 : List Int) (a1 : Int) : Option ((List (List Int))) := if 0 ≤ (mx a1 1) then (if (mx a1 1 : Int).toNat ≤ 11728124029610 then ((some (List.replicate (mx a1 1 : Int).toNat [] : List (List Int))).bind fun y106 => (sweep_Parts.l0 k l0 (mx a1 1) y106 0 (y106.length : Int) 0)) else (none)) else (none)
theorem sweep_Parts.mono_l : ∀ k, (∀ y0 y1 y2 y3 y4 y5, LeO (sweep_Parts.l0 k y0 y1 y2 y3 y4 y5) (sweep_Parts.l0 (k + 1) y0 y1 y2 y3 y4 y5))
  | 0 => fun _ _ _ _ _ _ r h => by simp [sweep_Parts.l0] at h
  | k + 1 => by
    have ih0 := sweep_Parts.mono_l k
    · intro y0 y1 y2 y3 y4 y5
      unfold sweep_Parts.l0
      repeat' first
      | (with_reducible exact ih0 _ _ _ _ _ _)
      | (with_reducible exact LeO.refl _)
      | (with_reducible exact LeO.none _)
      | (with_reducible refine LeO.ite ?_ ?_)
      | (with_reducible refine LeO.bind ?_ (fun _ => ?_))
      | exact ih0 _ _ _ _ _ _
      | exact LeO.none _
      | refine LeO.ite ?_ ?_
      | refine LeO.bind ?_ (fun _ => ?_)
theorem sweep_Parts.mono : ∀ a0 a1 k, LeO (sweep_Parts.f k a0 a1) (sweep_Parts.f (k + 1) a0 a1) := by
  intro a0 a1 k
  have ih0 := sweep_Parts.mono_l k
  unfold sweep_Parts.f
  repeat' first
      | (with_reducible exact ih0 _ _ _ _ _ _)
      | (with_reducible exact LeO.refl _)
      | (with_reducible exact LeO.none _)
      | (with_reducible refine LeO.ite ?_ ?_)
      | (with_reducible refine LeO.bind ?_ (fun _ => ?_))
      | exact ih0 _ _ _ _ _ _
      | exact LeO.none _
      | refine LeO.ite ?_ ?_
      | refine LeO.bind ?_ (fun _ => ?_)
set_option maxHeartbeats 8000000 in
set_option maxRecDepth 100000 in
theorem sweep_Parts.calls (k : Nat) (A0 : Option Addr) (c0 : Nat) (l0 : List Int) (a1 : Int) (r : List (List Int)) (w : World) (hr0 : Kd.C (Kd.int .i64) w A0 l0.length l0) (hc0 : l0.length ≤ c0) (h : sweep_Parts.f k l0 a1 = some r) :
    Calls Try.prog 5 #[.slice A0 l0.length c0, .int .i64 a1] w fun e w' => ∃ v0_ : Value, e = .returned (v0_) ∧ Kd.S (Kd.slice 3 (Kd.int .i64)) 22 w' w.heap.size (fun _ => True) v0_ r ∧ Below w.heap.size w w' := by
  have HR0 := Aside0.mk hr0
  have HC0 := Aside0.mk hc0
  clear hr0 hc0
  have HB := Aside0.mk (Below.refl w.heap.size w)
  have H : (if 0 ≤ (mx a1 1) then (if (mx a1 1 : Int).toNat ≤ 11728124029610 then ((some (List.replicate (mx a1 1 : Int).toNat [] : List (List Int))).bind fun y106 => (sweep_Parts.l0 k l0 (mx a1 1) y106 0 (y106.length : Int) 0)) else (none)) else (none)) = some r := h
  clear h
  obtain ⟨ji3, hji3⟩ : ∃ j_ : Int, (mx a1 1) = j_ := ⟨_, rfl⟩
  replace H : (if 0 ≤ (ji3) then (if (ji3 : Int).toNat ≤ 11728124029610 then ((some (List.replicate (ji3 : Int).toNat [] : List (List Int))).bind fun y106 => (sweep_Parts.l0 k l0 ji3 y106 0 (y106.length : Int) 0)) else (none)) else (none)) = some r := by first | (rw [hji3] at H; exact H) | (simp only [hji3] at H ⊢; exact H)
  (try (have hji3l : 1 ≤ ji3 := by (rw [← hji3]; unfold mx; (repeat' split) <;> omega)))
  (try (have hji3m : 0 ≤ ji3 := by omega))
  have hji3_ : (if a1 < 1 then 1 else a1) = ji3 := hji3
  by_cases c4 : 0 ≤ (ji3)
  · rw [if_pos c4] at H
    have c4b0 := eq_true c4
    have c4b1 : decide (0 ≤ (ji3)) = true := decide_eq_true c4
    clear c4
    by_cases c5 : (ji3 : Int).toNat ≤ 11728124029610
    · rw [if_pos c5] at H
      have c5b0 := eq_true c5
      have c5b1 : decide ((ji3 : Int).toNat ≤ 11728124029610) = true := decide_eq_true c5
      clear c5
      obtain ⟨y106, hy106⟩ : ∃ y_ : List (List Int), y_ = (List.replicate (ji3 : Int).toNat []) := ⟨_, rfl⟩
      replace H : (sweep_Parts.l0 k l0 ji3 y106 0 (y106.length : Int) 0) = some r := by first | (rw [hy106]; with_reducible exact H) | (have H2_ := (Option.bind_some _ _).symm.trans H; rw [hy106]; with_reducible exact H2_) | (have H2_ := (Option.bind_some _ _).symm.trans H; with_reducible exact H2_) | with_reducible exact H | (rw [hy106]; exact H) | exact H
      have Ny106 := Aside0.mk hy106
      clear hy106
      have H' := Aside0.mk H
      clear H
      go_enter Try.func5, Try.ntmps5
      go_wp2_with (first | ((with_reducible refine gate_dst (N := 12) rfl ?_); refine Kd.S_make (Kd.slice 3 (Kd.int .i64)) _ 22 rfl (N := 12) rfl 24 _ _ rfl ji3 rfl rfl Try.underlying24 (.slice none 0 0) 24 info22 rfl (by decide) (by omega) [] (ok := fun _ => True) (okp := fun _ => True) ⟨_, rfl, Kd.R_nil _ _ _ _ _⟩ (fun _ hk => hk) trivial (of_decide_eq_true (by first | (with_reducible assumption) | assumption)) (Nat.le_trans (Nat.mul_le_mul_right _ (of_decide_eq_true (by first | (with_reducible assumption) | assumption) : ji3.toNat ≤ 11728124029610)) (by omega)) (Below.refl _ _) (Nat.le_refl _) ?_; intro v107 w6 ho7 hb hg_ hnew_; clear hg_ hnew_; (first | rw [← Ny106.out] at ho7 | (simp only [Int.reduceToNat] at ho7; rw [← Ny106.out] at ho7)); have n0_ := Aside0.mk (Kd.S_lower ho7 (below_size (by repeat (first | (with_reducible first | exact HB.out | apply below_alloc | apply pw_below_drewN | apply below_drew1) | exact HB.out)))); have n1_ := Aside0.mk (below_step (by repeat (first | (with_reducible first | exact HB.out | apply below_alloc | apply pw_below_drewN | apply below_drew1) | exact HB.out)) hb); clear HB; have HO108 := n0_; have HB := n1_; clear n0_ n1_; clear hb ho7; obtain ⟨Ao8, co8, eo8⟩ := Kd.S_slice HO108.out; subst eo8))
      go_loopg [6, 15] k (fun kq v6 v15 w' => ∃ (x5_1 : List (List Int)) (x6_1 : Int) (x15_1 : Int), v6 = .int .i64 x6_1 ∧ v15 = .int .i64 x15_1 ∧ Aside0 (sweep_Parts.l0 kq l0 ji3 x5_1 x6_1 (y106.length : Int) x15_1 = some r) ∧ Aside0 (kq ≤ k) ∧ Aside0 (Kd.S (Kd.slice 3 (Kd.int .i64)) 22 w' w.heap.size (fun _ => True) (.slice Ao8 y106.length co8) x5_1) ∧ Aside0 (Below w.heap.size w w'))
      case atStart => exact ⟨(y106), (0), (0), (by first | rfl | (simp; done) | (simp [*]; done)), (by first | rfl | (simp; done) | (simp [*]; done)), H', ⟨Nat.le_refl _⟩, ⟨by (with_reducible repeat (first | apply Kd.S_alloc | apply Kd.S_drewN | apply Kd.S_drew)); exact HO108.out⟩, ⟨by repeat (first | (with_reducible first | exact HB.out | apply below_alloc | apply pw_below_drewN | apply below_drew1) | exact HB.out)⟩⟩
      case round =>
        clear H'
        try clear p2
        try clear c4
        try clear c4b0
        try clear c4b1
        try clear c5
        try clear c5b0
        try clear c5b1
        obtain ⟨x5_1, x6_1, x15_1, rfl, rfl, HA, HK1, HO_5, HB⟩ := hrel
        have hl5_1 := (Kd.S_reads' HO_5.out).1
        rw [hl5_1] at HO_5
        (try simp only [hl5_1])
        cases gk with
        | zero => exact absurd HA.out (by simp [sweep_Parts.l0])
        | succ k1 =>
          have H := HA.out
          clear HA
          simp only [sweep_Parts.l0] at H
          by_cases c9 : x15_1 < (y106.length : Int)
          · rw [if_pos c9] at H
            have c9b0 : decide (x15_1 < (y106.length : Int)) = true := decide_eq_true c9
            clear c9
            by_cases c10 : ji3 = 0
            · rw [if_pos c10] at H
              exact absurd H (by simp)
            · rw [if_neg c10] at H
              have c10b0 : (ji3 == 0) = false := beq_eq_false_iff_ne.mpr c10
              have c10b1 : (ji3 != 0) = true := bne_iff_ne.mpr c10
              by_cases c11 : x15_1 < ((l0.length : Int) % ji3)
              · rw [if_pos c11] at H
                have c11b0 : decide (x15_1 < ((l0.length : Int) % ji3)) = true := decide_eq_true c11
                clear c11
                by_cases c12 : 0 ≤ x6_1
                · rw [if_pos c12] at H
                  have c12b0 := eq_true c12
                  have c12b1 : decide (0 ≤ x6_1) = true := decide_eq_true c12
                  clear c12
                  by_cases c13 : x6_1 ≤ (wrap64 (x6_1 + (wrap64 ((wrap64 ((l0.length : Int) / ji3)) + 1))))
                  · rw [if_pos c13] at H
                    have c13b0 := eq_true c13
                    have c13b1 : decide (x6_1 ≤ (wrap64 (x6_1 + (wrap64 ((wrap64 ((l0.length : Int) / ji3)) + 1))))) = true := decide_eq_true c13
                    by_cases c14 : (wrap64 (x6_1 + (wrap64 ((wrap64 ((l0.length : Int) / ji3)) + 1)))) ≤ (l0.length : Int)
                    · rw [if_pos c14] at H
                      have c14b0 := eq_true c14
                      have c14b1 : decide ((wrap64 (x6_1 + (wrap64 ((wrap64 ((l0.length : Int) / ji3)) + 1)))) ≤ (l0.length : Int)) = true := decide_eq_true c14
                      replace H := Option.bind_eq_some_iff.mp H
                      obtain ⟨t110, A150, H⟩ := H
                      replace H : (if 0 ≤ x15_1 then (if x15_1 < (x5_1.length : Int) then (sweep_Parts.l0 k1 l0 ji3 (x5_1.set (x15_1 : Int).toNat t110) (wrap64 (x6_1 + (wrap64 ((wrap64 ((l0.length : Int) / ji3)) + 1)))) (y106.length : Int) (wrap64 (x15_1 + 1))) else (none)) else (none)) = some r := H
                      have A15 := Aside0.mk A150
                      clear A150
                      by_cases c16 : 0 ≤ x15_1
                      · rw [if_pos c16] at H
                        have c16b0 : decide (0 ≤ x15_1) = true := decide_eq_true c16
                        clear c16
                        by_cases c17 : x15_1 < (x5_1.length : Int)
                        · rw [if_pos c17] at H
                          have c17b0 : decide (x15_1 < (x5_1.length : Int)) = true := decide_eq_true c17
                          clear c17
                          obtain ⟨y113, hy113⟩ : ∃ y_ : List (List Int), y_ = (x5_1.set (x15_1 : Int).toNat t110) := ⟨_, rfl⟩
                          replace H : (sweep_Parts.l0 k1 l0 ji3 y113 (wrap64 (x6_1 + (wrap64 ((wrap64 ((l0.length : Int) / ji3)) + 1)))) (y106.length : Int) (wrap64 (x15_1 + 1))) = some r := by first | (rw [hy113]; with_reducible exact H) | (have H2_ := (Option.bind_some _ _).symm.trans H; rw [hy113]; with_reducible exact H2_) | (have H2_ := (Option.bind_some _ _).symm.trans H; with_reducible exact H2_) | with_reducible exact H | (rw [hy113]; exact H) | exact H
                          have Ny113 := Aside0.mk hy113
                          clear hy113
                          have H' := Aside0.mk H
                          clear H
                          obtain ⟨i019, hi019, _, hsz19, _⟩ := info_parts info3
                          obtain ⟨A19, hcut19, hA19, hC19⟩ := print_mid_of (P := Try.prog) (Value.int .i64) 0 22 3 .i64 .i64 Try.underlying22 hi019 hsz19 A0 c0 l0 x6_1 (wrap64 (x6_1 + (wrap64 ((wrap64 ((l0.length : Int) / ji3)) + 1)))) (of_decide_eq_true (by first | (with_reducible assumption) | assumption)) (by first | omega | exact of_decide_eq_true (by first | (with_reducible assumption) | assumption)) (of_decide_eq_true (by first | (with_reducible assumption) | assumption)) HC0.out
                          have HR109 := Aside0.mk (Kd.C_of_reads (h1 := fun _ => rfl) (hA19 _ (Kd.reads_of_C HR0.out)))
                          have HC109 := Aside0.mk hC19
                          clear hA19 hC19 hi019 hsz19
                          go_wp2_with (first | ((with_reducible refine gate_callee (f := 13) rfl ?_); refine goesL_ (some 38) rfl rfl Try.func13 (by kernel_rfl) rfl #[.slice A19 ((l0.take ((wrap64 (x6_1 + (wrap64 ((wrap64 ((l0.length : Int) / ji3)) + 1)))) : Int).toNat).drop (x6_1 : Int).toNat).length (c0 - x6_1.toNat)] rfl (by (try simp only [List.map_toArray, List.map_cons, List.map_nil]); first | done | (rw [show ((l0.take ((wrap64 (x6_1 + (wrap64 ((wrap64 ((l0.length : Int) / ji3)) + 1)))) : Int).toNat).drop (x6_1 : Int).toNat).length = ((wrap64 (x6_1 + (wrap64 ((wrap64 ((l0.length : Int) / ji3)) + 1)))).toNat - x6_1.toNat) from (by rw [List.length_drop, List.length_take]; have h_ : ((wrap64 (x6_1 + (wrap64 ((wrap64 ((l0.length : Int) / ji3)) + 1)))) : Int) ≤ (l0.length : Int) := of_decide_eq_true (by first | (with_reducible assumption) | assumption); omega)] <;> rfl) | (simp only [hji3]; rfl) | rfl | (simp only [List.length_drop, List.length_take]; rfl)) ?_; (with_reducible refine (slices_Clone_int_int.calls _ _ ((l0.take ((wrap64 (x6_1 + (wrap64 ((wrap64 ((l0.length : Int) / ji3)) + 1)))) : Int).toNat).drop (x6_1 : Int).toNat) t110 _ ?side1 ?side2 A15.out).mono ?_); (case side1 => repeat (first | exact (Kd.C_below HR109.out HB.out) | (with_reducible refine Kd.C_alloc ?_ _) | (with_reducible refine Kd.C_drewN ?_ _) | (with_reducible refine Kd.C_drew ?_))); (case side2 => exact HC109.out); rintro e w20 ⟨v111, rfl, ho0, hb⟩; obtain ⟨Aq_, cq_, eq_⟩ := Kd.R_slice ho0; subst eq_; refine ⟨_, rfl, ?_⟩; have n0_ := Aside0.mk (Kd.S_elder' (by (with_reducible repeat (first | apply Kd.S_alloc | apply Kd.S_drewN | apply Kd.S_drew)); exact HO_5.out) (Kd.R_base ho0) hb); have n1_ := Aside0.mk (Kd.R_lower ho0 (below_size (by repeat (first | (with_reducible first | exact HB.out | apply below_alloc | apply pw_below_drewN | apply below_drew1) | exact HB.out)))); have n2_ := Aside0.mk (below_step (by repeat (first | (with_reducible first | exact HB.out | apply below_alloc | apply pw_below_drewN | apply below_drew1) | exact HB.out)) hb); clear HO_5; clear HB; have HO_5 := n0_; have HO112 := n1_; have HB := n2_; clear n0_ n1_ n2_; (try clear hb); (try clear hb2); (try clear hk); (try clear hi); (try clear ho0); have p18 : 0 ≤ (x15_1 : Int) := of_decide_eq_true (by first | (with_reducible assumption) | assumption); have q18 : (x15_1 : Int) < ((x5_1.length : Int) : Int) := of_decide_eq_true (by first | (with_reducible assumption) | assumption); obtain ⟨go18, co18, eo18, gb18, gl18, cl18, HG18⟩ := Kd.S_form HO_5.out (by omega); (first | cases eo18 | (injection eo18 with ea_ en_ ec_; (first | subst ea_ | (injection ea_ with ea_; subst ea_)); subst ec_; clear en_)); have GB18 := Aside0.mk gb18; have GG18 := Aside0.mk HG18; clear gb18 gl18 HG18; obtain ⟨_, ce18, hcl18, hM18, hcc18, hfr18, _, _⟩ := Kd.S_elem HO_5.out [] (x15_1 : Int) p18 q18; obtain ⟨ve18_0, rfl, ge18_0⟩ := hM18; have hx18_0 := hcc18 0 _ rfl; have hf18_0 := hfr18 0; (try simp only [show ((Kd.slice 3 (Kd.int .i64))).sz = 1 from rfl, Nat.mul_one, Nat.add_zero] at hx18_0); (try simp only [show ((Kd.slice 3 (Kd.int .i64))).sz = 1 from rfl, Nat.mul_one, Nat.add_zero] at hf18_0); (try clear hcl18); (try clear hcc18); (try clear hfr18); (try clear hM18); replace p18 := eq_true p18; replace q18 := eq_true q18; have n_ := Aside0.mk (Kd.S_mono (ok' := (fun k_ => some k_ ≠ ((Value.slice Aq_ t110.length cq_) : Value).ownBlock)) HO_5.out (fun k_ hk => hk.2)); clear HO_5; have HO_5 := n_; clear n_; have HX21 := Aside0.mk (show Kd.S (Kd.slice 3 (Kd.int .i64)) 22 w20 w.heap.size (fun k_ => ((fun _ => True)) k_ ∧ ¬ ((fun k_ => some k_ = ((Value.slice Aq_ t110.length cq_) : Value).ownBlock)) k_) (.slice (some ⟨go18, 0, none⟩) x5_1.length co8) x5_1 from (by (with_reducible repeat (first | apply Kd.S_alloc | apply Kd.S_drewN | apply Kd.S_drew)); exact Kd.S_mono HO_5.out (fun k_ hk => ⟨trivial, fun e_ => hk e_⟩))); obtain ⟨oki21, ce21, hcl21, hM21, hcc21, hfr21, hoki21, hH21⟩ := Kd.S_elem HX21.out [] (x15_1 : Int) (of_decide_eq_true (by first | (with_reducible assumption) | assumption)) (by have h_ : (x15_1 : Int) < ((x5_1.length : Int) : Int) := of_decide_eq_true (by first | (with_reducible assumption) | assumption); first | exact h_ | (have e_ := (Kd.S_reads' HO_5.out).1; omega) | simpa using h_); obtain ⟨ve21_0, rfl, ge21_0⟩ := hM21; have HP21 := Kd.S_seg hH21 (of_decide_eq_true (by first | (with_reducible assumption) | assumption)) (by have h_ : (x15_1 : Int) < ((x5_1.length : Int) : Int) := of_decide_eq_true (by first | (with_reducible assumption) | assumption); first | exact h_ | (have e_ := (Kd.S_reads' HO_5.out).1; omega) | simpa using h_) (seg := [(Value.slice Aq_ t110.length cq_)]) (j := 0) (show 1 ≤ 1 from by decide) (x' := t110) (Kd.M_row (Kd.R_mono (Kd.R_tight rfl (Kd.R_mono (ok' := fun k_ => ((fun _ => True)) k_ ∧ k_ ≠ go18) (Kd.R_apart' (HO112.out) (Kd.S_typed HO_5.out) (by decide)) (fun k_ hk => ⟨trivial, fun e_ => (hk.2) (by rw [e_]; rfl)⟩))) (fun _ h_ => Or.inr (h_)))) (fun _ hk => hk) (fun k_ hk_ => ((Kd.R_mono (ok' := fun k_ => ((fun _ => True)) k_ ∧ k_ ≠ go18) (Kd.R_apart' (HO112.out) (Kd.S_typed HO_5.out) (by decide)) (fun k_ hk => ⟨trivial, fun e_ => (hk.2) (by rw [e_]; rfl)⟩))).1 k_ hk_.symm); have hx21_0 := hcc21 0 _ rfl; (try simp only [show ((Kd.slice 3 (Kd.int .i64))).sz = 1 from rfl, Nat.mul_one, Nat.add_zero] at hx21_0); have hf21_0 := hfr21 0; (try simp only [show ((Kd.slice 3 (Kd.int .i64))).sz = 1 from rfl, Nat.mul_one, Nat.add_zero] at hf21_0); (try clear hcl21); (try clear hcc21); (try clear hfr21); (try clear hM21); (try clear hoki21); (try clear hH21); (try simp only [show ((Kd.slice 3 (Kd.int .i64))).sz = 1 from rfl, Nat.mul_one, Nat.add_zero] at HP21)) | ((with_reducible refine gate_store (t := 22) (p := 39) rfl ?_); refine store_event (t := 22) (p := 39) (v := ?vo_w22) (w1 := (w20.setCell ⟨go18, (x15_1 : Int).toNat, none⟩ ((Value.slice Aq_ t110.length cq_)))) ?hg ?ho ?hn ?hr ?_; (case ho => rfl); (case hg => rfl); (case hn => rfl); (case hr => first | (go_simp; done) | (go_simp; rfl)); intro w22 hw; have hg : w20.grownBy w22 (some go18) := (by rw [hw]; exact HP21.2); have hp_ : Kd.S (Kd.slice 3 (Kd.int .i64)) 22 w22 w.heap.size (fun _ => True) (.slice (some ⟨go18, 0, none⟩) x5_1.length co8) y113 := (by rw [hw, Ny113.out]; exact HP21.1); clear HP21; have n0_ := Aside0.mk (hp_); have n1_ := Aside0.mk ((by rw [hw]; exact below_set (HB.out) GB18.out : Below w.heap.size w w22)); clear HO_5; clear HB; clear HO112; have HO_5 := n0_; have HB := n1_; clear n0_ n1_; clear hg hw hp_))
                          (try simp only [← hl5_1])
                          go_roundg k1
                          case measure => have := HK1.out; omega
                          case rel => exact ⟨(y113), (wrap64 (x6_1 + (wrap64 ((wrap64 ((l0.length : Int) / ji3)) + 1)))), (wrap64 (x15_1 + 1)), (by first | rfl | (simp; done) | (simp only [← hji3] <;> (first | rfl | simp)) | (simp [*]; done)), (by first | rfl | (simp; done) | (simp [*]; done)), H', ⟨by have := HK1.out; omega⟩, ⟨by (try simp only [hl5_1]); (with_reducible repeat (first | apply Kd.S_alloc | apply Kd.S_drewN | apply Kd.S_drew)); exact HO_5.out⟩, ⟨by repeat (first | (with_reducible first | exact HB.out | apply below_alloc | apply pw_below_drewN | apply below_drew1) | exact HB.out)⟩⟩
                        · rw [if_neg c17] at H
                          exact absurd H (by simp)
                      · rw [if_neg c16] at H
                        exact absurd H (by simp)
                    · rw [if_neg c14] at H
                      exact absurd H (by simp)
                  · rw [if_neg c13] at H
                    exact absurd H (by simp)
                · rw [if_neg c12] at H
                  exact absurd H (by simp)
              · rw [if_neg c11] at H
                have c11b0 : decide (x15_1 < ((l0.length : Int) % ji3)) = false := decide_eq_false c11
                clear c11
                by_cases c23 : 0 ≤ x6_1
                · rw [if_pos c23] at H
                  have c23b0 := eq_true c23
                  have c23b1 : decide (0 ≤ x6_1) = true := decide_eq_true c23
                  clear c23
                  by_cases c24 : x6_1 ≤ (wrap64 (x6_1 + (wrap64 ((l0.length : Int) / ji3))))
                  · rw [if_pos c24] at H
                    have c24b0 := eq_true c24
                    have c24b1 : decide (x6_1 ≤ (wrap64 (x6_1 + (wrap64 ((l0.length : Int) / ji3))))) = true := decide_eq_true c24
                    by_cases c25 : (wrap64 (x6_1 + (wrap64 ((l0.length : Int) / ji3)))) ≤ (l0.length : Int)
                    · rw [if_pos c25] at H
                      have c25b0 := eq_true c25
                      have c25b1 : decide ((wrap64 (x6_1 + (wrap64 ((l0.length : Int) / ji3)))) ≤ (l0.length : Int)) = true := decide_eq_true c25
                      replace H := Option.bind_eq_some_iff.mp H
                      obtain ⟨t115, A260, H⟩ := H
                      replace H : (if 0 ≤ x15_1 then (if x15_1 < (x5_1.length : Int) then (sweep_Parts.l0 k1 l0 ji3 (x5_1.set (x15_1 : Int).toNat t115) (wrap64 (x6_1 + (wrap64 ((l0.length : Int) / ji3)))) (y106.length : Int) (wrap64 (x15_1 + 1))) else (none)) else (none)) = some r := H
                      have A26 := Aside0.mk A260
                      clear A260
                      by_cases c27 : 0 ≤ x15_1
                      · rw [if_pos c27] at H
                        have c27b0 : decide (0 ≤ x15_1) = true := decide_eq_true c27
                        clear c27
                        by_cases c28 : x15_1 < (x5_1.length : Int)
                        · rw [if_pos c28] at H
                          have c28b0 : decide (x15_1 < (x5_1.length : Int)) = true := decide_eq_true c28
                          clear c28
                          obtain ⟨y118, hy118⟩ : ∃ y_ : List (List Int), y_ = (x5_1.set (x15_1 : Int).toNat t115) := ⟨_, rfl⟩
                          replace H : (sweep_Parts.l0 k1 l0 ji3 y118 (wrap64 (x6_1 + (wrap64 ((l0.length : Int) / ji3)))) (y106.length : Int) (wrap64 (x15_1 + 1))) = some r := by first | (rw [hy118]; with_reducible exact H) | (have H2_ := (Option.bind_some _ _).symm.trans H; rw [hy118]; with_reducible exact H2_) | (have H2_ := (Option.bind_some _ _).symm.trans H; with_reducible exact H2_) | with_reducible exact H | (rw [hy118]; exact H) | exact H
                          have Ny118 := Aside0.mk hy118
                          clear hy118
                          have H' := Aside0.mk H
                          clear H
                          obtain ⟨i030, hi030, _, hsz30, _⟩ := info_parts info3
                          obtain ⟨A30, hcut30, hA30, hC30⟩ := print_mid_of (P := Try.prog) (Value.int .i64) 0 22 3 .i64 .i64 Try.underlying22 hi030 hsz30 A0 c0 l0 x6_1 (wrap64 (x6_1 + (wrap64 ((l0.length : Int) / ji3)))) (of_decide_eq_true (by first | (with_reducible assumption) | assumption)) (by first | omega | exact of_decide_eq_true (by first | (with_reducible assumption) | assumption)) (of_decide_eq_true (by first | (with_reducible assumption) | assumption)) HC0.out
                          have HR114 := Aside0.mk (Kd.C_of_reads (h1 := fun _ => rfl) (hA30 _ (Kd.reads_of_C HR0.out)))
                          have HC114 := Aside0.mk hC30
                          clear hA30 hC30 hi030 hsz30
                          go_wp2_with (first | ((with_reducible refine gate_callee (f := 13) rfl ?_); refine goesL_ (some 38) rfl rfl Try.func13 (by kernel_rfl) rfl #[.slice A30 ((l0.take ((wrap64 (x6_1 + (wrap64 ((l0.length : Int) / ji3)))) : Int).toNat).drop (x6_1 : Int).toNat).length (c0 - x6_1.toNat)] rfl (by (try simp only [List.map_toArray, List.map_cons, List.map_nil]); first | done | (rw [show ((l0.take ((wrap64 (x6_1 + (wrap64 ((l0.length : Int) / ji3)))) : Int).toNat).drop (x6_1 : Int).toNat).length = ((wrap64 (x6_1 + (wrap64 ((l0.length : Int) / ji3)))).toNat - x6_1.toNat) from (by rw [List.length_drop, List.length_take]; have h_ : ((wrap64 (x6_1 + (wrap64 ((l0.length : Int) / ji3)))) : Int) ≤ (l0.length : Int) := of_decide_eq_true (by first | (with_reducible assumption) | assumption); omega)] <;> rfl) | (simp only [hji3]; rfl) | rfl | (simp only [List.length_drop, List.length_take]; rfl)) ?_; (with_reducible refine (slices_Clone_int_int.calls _ _ ((l0.take ((wrap64 (x6_1 + (wrap64 ((l0.length : Int) / ji3)))) : Int).toNat).drop (x6_1 : Int).toNat) t115 _ ?side1 ?side2 A26.out).mono ?_); (case side1 => repeat (first | exact (Kd.C_below HR114.out HB.out) | (with_reducible refine Kd.C_alloc ?_ _) | (with_reducible refine Kd.C_drewN ?_ _) | (with_reducible refine Kd.C_drew ?_))); (case side2 => exact HC114.out); rintro e w31 ⟨v116, rfl, ho0, hb⟩; obtain ⟨Aq_, cq_, eq_⟩ := Kd.R_slice ho0; subst eq_; refine ⟨_, rfl, ?_⟩; have n0_ := Aside0.mk (Kd.S_elder' (by (with_reducible repeat (first | apply Kd.S_alloc | apply Kd.S_drewN | apply Kd.S_drew)); exact HO_5.out) (Kd.R_base ho0) hb); have n1_ := Aside0.mk (Kd.R_lower ho0 (below_size (by repeat (first | (with_reducible first | exact HB.out | apply below_alloc | apply pw_below_drewN | apply below_drew1) | exact HB.out)))); have n2_ := Aside0.mk (below_step (by repeat (first | (with_reducible first | exact HB.out | apply below_alloc | apply pw_below_drewN | apply below_drew1) | exact HB.out)) hb); clear HO_5; clear HB; have HO_5 := n0_; have HO117 := n1_; have HB := n2_; clear n0_ n1_ n2_; (try clear hb); (try clear hb2); (try clear hk); (try clear hi); (try clear ho0); have p29 : 0 ≤ (x15_1 : Int) := of_decide_eq_true (by first | (with_reducible assumption) | assumption); have q29 : (x15_1 : Int) < ((x5_1.length : Int) : Int) := of_decide_eq_true (by first | (with_reducible assumption) | assumption); obtain ⟨go29, co29, eo29, gb29, gl29, cl29, HG29⟩ := Kd.S_form HO_5.out (by omega); (first | cases eo29 | (injection eo29 with ea_ en_ ec_; (first | subst ea_ | (injection ea_ with ea_; subst ea_)); subst ec_; clear en_)); have GB29 := Aside0.mk gb29; have GG29 := Aside0.mk HG29; clear gb29 gl29 HG29; obtain ⟨_, ce29, hcl29, hM29, hcc29, hfr29, _, _⟩ := Kd.S_elem HO_5.out [] (x15_1 : Int) p29 q29; obtain ⟨ve29_0, rfl, ge29_0⟩ := hM29; have hx29_0 := hcc29 0 _ rfl; have hf29_0 := hfr29 0; (try simp only [show ((Kd.slice 3 (Kd.int .i64))).sz = 1 from rfl, Nat.mul_one, Nat.add_zero] at hx29_0); (try simp only [show ((Kd.slice 3 (Kd.int .i64))).sz = 1 from rfl, Nat.mul_one, Nat.add_zero] at hf29_0); (try clear hcl29); (try clear hcc29); (try clear hfr29); (try clear hM29); replace p29 := eq_true p29; replace q29 := eq_true q29; have n_ := Aside0.mk (Kd.S_mono (ok' := (fun k_ => some k_ ≠ ((Value.slice Aq_ t115.length cq_) : Value).ownBlock)) HO_5.out (fun k_ hk => hk.2)); clear HO_5; have HO_5 := n_; clear n_; have HX32 := Aside0.mk (show Kd.S (Kd.slice 3 (Kd.int .i64)) 22 w31 w.heap.size (fun k_ => ((fun _ => True)) k_ ∧ ¬ ((fun k_ => some k_ = ((Value.slice Aq_ t115.length cq_) : Value).ownBlock)) k_) (.slice (some ⟨go29, 0, none⟩) x5_1.length co8) x5_1 from (by (with_reducible repeat (first | apply Kd.S_alloc | apply Kd.S_drewN | apply Kd.S_drew)); exact Kd.S_mono HO_5.out (fun k_ hk => ⟨trivial, fun e_ => hk e_⟩))); obtain ⟨oki32, ce32, hcl32, hM32, hcc32, hfr32, hoki32, hH32⟩ := Kd.S_elem HX32.out [] (x15_1 : Int) (of_decide_eq_true (by first | (with_reducible assumption) | assumption)) (by have h_ : (x15_1 : Int) < ((x5_1.length : Int) : Int) := of_decide_eq_true (by first | (with_reducible assumption) | assumption); first | exact h_ | (have e_ := (Kd.S_reads' HO_5.out).1; omega) | simpa using h_); obtain ⟨ve32_0, rfl, ge32_0⟩ := hM32; have HP32 := Kd.S_seg hH32 (of_decide_eq_true (by first | (with_reducible assumption) | assumption)) (by have h_ : (x15_1 : Int) < ((x5_1.length : Int) : Int) := of_decide_eq_true (by first | (with_reducible assumption) | assumption); first | exact h_ | (have e_ := (Kd.S_reads' HO_5.out).1; omega) | simpa using h_) (seg := [(Value.slice Aq_ t115.length cq_)]) (j := 0) (show 1 ≤ 1 from by decide) (x' := t115) (Kd.M_row (Kd.R_mono (Kd.R_tight rfl (Kd.R_mono (ok' := fun k_ => ((fun _ => True)) k_ ∧ k_ ≠ go29) (Kd.R_apart' (HO117.out) (Kd.S_typed HO_5.out) (by decide)) (fun k_ hk => ⟨trivial, fun e_ => (hk.2) (by rw [e_]; rfl)⟩))) (fun _ h_ => Or.inr (h_)))) (fun _ hk => hk) (fun k_ hk_ => ((Kd.R_mono (ok' := fun k_ => ((fun _ => True)) k_ ∧ k_ ≠ go29) (Kd.R_apart' (HO117.out) (Kd.S_typed HO_5.out) (by decide)) (fun k_ hk => ⟨trivial, fun e_ => (hk.2) (by rw [e_]; rfl)⟩))).1 k_ hk_.symm); have hx32_0 := hcc32 0 _ rfl; (try simp only [show ((Kd.slice 3 (Kd.int .i64))).sz = 1 from rfl, Nat.mul_one, Nat.add_zero] at hx32_0); have hf32_0 := hfr32 0; (try simp only [show ((Kd.slice 3 (Kd.int .i64))).sz = 1 from rfl, Nat.mul_one, Nat.add_zero] at hf32_0); (try clear hcl32); (try clear hcc32); (try clear hfr32); (try clear hM32); (try clear hoki32); (try clear hH32); (try simp only [show ((Kd.slice 3 (Kd.int .i64))).sz = 1 from rfl, Nat.mul_one, Nat.add_zero] at HP32)) | ((with_reducible refine gate_store (t := 22) (p := 39) rfl ?_); refine store_event (t := 22) (p := 39) (v := ?vo_w33) (w1 := (w31.setCell ⟨go29, (x15_1 : Int).toNat, none⟩ ((Value.slice Aq_ t115.length cq_)))) ?hg ?ho ?hn ?hr ?_; (case ho => rfl); (case hg => rfl); (case hn => rfl); (case hr => first | (go_simp; done) | (go_simp; rfl)); intro w33 hw; have hg : w31.grownBy w33 (some go29) := (by rw [hw]; exact HP32.2); have hp_ : Kd.S (Kd.slice 3 (Kd.int .i64)) 22 w33 w.heap.size (fun _ => True) (.slice (some ⟨go29, 0, none⟩) x5_1.length co8) y118 := (by rw [hw, Ny118.out]; exact HP32.1); clear HP32; have n0_ := Aside0.mk (hp_); have n1_ := Aside0.mk ((by rw [hw]; exact below_set (HB.out) GB29.out : Below w.heap.size w w33)); clear HO_5; clear HB; clear HO117; have HO_5 := n0_; have HB := n1_; clear n0_ n1_; clear hg hw hp_))
                          (try simp only [← hl5_1])
                          go_roundg k1
                          case measure => have := HK1.out; omega
                          case rel => exact ⟨(y118), (wrap64 (x6_1 + (wrap64 ((l0.length : Int) / ji3)))), (wrap64 (x15_1 + 1)), (by first | rfl | (simp; done) | (simp only [← hji3] <;> (first | rfl | simp)) | (simp [*]; done)), (by first | rfl | (simp; done) | (simp [*]; done)), H', ⟨by have := HK1.out; omega⟩, ⟨by (try simp only [hl5_1]); (with_reducible repeat (first | apply Kd.S_alloc | apply Kd.S_drewN | apply Kd.S_drew)); exact HO_5.out⟩, ⟨by repeat (first | (with_reducible first | exact HB.out | apply below_alloc | apply pw_below_drewN | apply below_drew1) | exact HB.out)⟩⟩
                        · rw [if_neg c28] at H
                          exact absurd H (by simp)
                      · rw [if_neg c27] at H
                        exact absurd H (by simp)
                    · rw [if_neg c25] at H
                      exact absurd H (by simp)
                  · rw [if_neg c24] at H
                    exact absurd H (by simp)
                · rw [if_neg c23] at H
                  exact absurd H (by simp)
          · rw [if_neg c9] at H
            have c9b0 : decide (x15_1 < (y106.length : Int)) = false := decide_eq_false c9
            rw [hl5_1] at c9b0
            clear c9
            obtain rfl := Option.some.inj H
            go_wp2
            go_ret
            exact ⟨_, by first | rfl | (simp [errW_none, errW_some] <;> rfl) | (simp only [← hji3]; first | rfl | (simp [errW_none, errW_some] <;> rfl)) | (simp [*, errW_none, errW_some] <;> rfl), by (with_reducible repeat (first | apply Kd.S_alloc | apply Kd.S_drewN | apply Kd.S_drew)); exact HO_5.out, by repeat (first | (with_reducible first | exact HB.out | apply below_alloc | apply pw_below_drewN | apply below_drew1) | exact HB.out)⟩
    · rw [if_neg c5] at H
      exact absurd H (by simp)
  · rw [if_neg c4] at H
    exact absurd H (by simp)

/-! ### jitneyref01_SameInts: function 6 -/
def jitneyref01_SameInts.l0 : Nat → List Int → List Int → Int → Option (Bool)
  | 0, _, _, _ => none
  | k + 1, x0, x1, x5 => if x5 < (x0.length : Int) then (if 0 ≤ x5 then (if x5 < (x1.length : Int) then (if (rd x0 x5) = (rd x1 x5) then (jitneyref01_SameInts.l0 k x0 x1 (wrap64 (x5 + 1))) else (some false)) else (none)) else (none)) else (some true)
def jitneyref01_SameInts.f (k : Nat) (l0 : List Int) (l1 : List Int) : Option (Bool) := if (l0.length : Int) = (l1.length : Int) then (jitneyref01_SameInts.l0 k l0 l1 0) else (some false)
theorem jitneyref01_SameInts.mono_l : ∀ k, (∀ y0 y1 y2, LeO (jitneyref01_SameInts.l0 k y0 y1 y2) (jitneyref01_SameInts.l0 (k + 1) y0 y1 y2))
  | 0 => fun _ _ _ r h => by simp [jitneyref01_SameInts.l0] at h
  | k + 1 => by
    have ih0 := jitneyref01_SameInts.mono_l k
    · intro y0 y1 y2
      unfold jitneyref01_SameInts.l0
      repeat' first
      | (with_reducible exact ih0 _ _ _)
      | (with_reducible exact LeO.refl _)
      | (with_reducible exact LeO.none _)
      | (with_reducible refine LeO.ite ?_ ?_)
      | (with_reducible refine LeO.bind ?_ (fun _ => ?_))
      | exact ih0 _ _ _
      | exact LeO.none _
      | refine LeO.ite ?_ ?_
      | refine LeO.bind ?_ (fun _ => ?_)
theorem jitneyref01_SameInts.mono : ∀ a0 a1 k, LeO (jitneyref01_SameInts.f k a0 a1) (jitneyref01_SameInts.f (k + 1) a0 a1) := by
  intro a0 a1 k
  have ih0 := jitneyref01_SameInts.mono_l k
  unfold jitneyref01_SameInts.f
  repeat' first
      | (with_reducible exact ih0 _ _ _)
      | (with_reducible exact LeO.refl _)
      | (with_reducible exact LeO.none _)
      | (with_reducible refine LeO.ite ?_ ?_)
      | (with_reducible refine LeO.bind ?_ (fun _ => ?_))
      | exact ih0 _ _ _
      | exact LeO.none _
      | refine LeO.ite ?_ ?_
      | refine LeO.bind ?_ (fun _ => ?_)
set_option maxHeartbeats 8000000 in
set_option maxRecDepth 100000 in
theorem jitneyref01_SameInts.calls (k : Nat) (A0 : Option Addr) (c0 : Nat) (l0 : List Int) (A1 : Option Addr) (c1 : Nat) (l1 : List Int) (r : Bool) (w : World) (hr0 : Kd.C (Kd.int .i64) w A0 l0.length l0) (hc0 : l0.length ≤ c0) (hr1 : Kd.C (Kd.int .i64) w A1 l1.length l1) (hc1 : l1.length ≤ c1) (h : jitneyref01_SameInts.f k l0 l1 = some r) :
    Calls Try.prog 6 #[.slice A0 l0.length c0, .slice A1 l1.length c1] w fun e w' => e = .returned (.bool r) ∧ Drawn0 w w' := by
  have HR0 := Aside0.mk hr0
  have HC0 := Aside0.mk hc0
  clear hr0 hc0
  have HR1 := Aside0.mk hr1
  have HC1 := Aside0.mk hc1
  clear hr1 hc1
  have H : (if (l0.length : Int) = (l1.length : Int) then (jitneyref01_SameInts.l0 k l0 l1 0) else (some false)) = some r := h
  clear h
  by_cases c3 : (l0.length : Int) = (l1.length : Int)
  · rw [if_pos c3] at H
    have c3b0 : ((l0.length : Int) == (l1.length : Int)) = true := beq_iff_eq.mpr c3
    have c3b1 : ((l0.length : Int) != (l1.length : Int)) = false := bne_eq_false_iff_eq.mpr c3
    have c3b2 : (l0.length == l1.length) = true := by first | simpa using c3 | (simp at c3 ⊢; omega)
    clear c3
    have H' := Aside0.mk H
    clear H
    go_enter Try.func6, Try.ntmps6
    go_wp2
    repeat (go_quiet (fail); try go_wp2)
    go_loopg [5] k (fun kq v5 w' => ∃ (x5_1 : Int), v5 = .int .i64 x5_1 ∧ Aside0 (jitneyref01_SameInts.l0 kq l0 l1 x5_1 = some r) ∧ Aside0 (kq ≤ k) ∧ Drawn0 w w')
    case atStart => exact ⟨(0), (by first | rfl | (simp; done) | (simp [*]; done)), H', ⟨Nat.le_refl _⟩, by repeat (first | exact Drawn0.refl _ | apply Drawn0.step)⟩
    case round =>
      clear H'
      try clear c1
      try clear p2
      try clear c3
      try clear c3b0
      try clear c3b1
      try clear c3b2
      obtain ⟨x5_1, rfl, HA, HK1, ⟨m1, rfl⟩⟩ := hrel
      cases gk with
      | zero => exact absurd HA.out (by simp [jitneyref01_SameInts.l0])
      | succ k1 =>
        have H := HA.out
        clear HA
        simp only [jitneyref01_SameInts.l0] at H
        by_cases c4 : x5_1 < (l0.length : Int)
        · rw [if_pos c4] at H
          have c4b0 : decide (x5_1 < (l0.length : Int)) = true := decide_eq_true c4
          clear c4
          by_cases c5 : 0 ≤ x5_1
          · rw [if_pos c5] at H
            have c5b0 : decide (0 ≤ x5_1) = true := decide_eq_true c5
            clear c5
            by_cases c6 : x5_1 < (l1.length : Int)
            · rw [if_pos c6] at H
              have c6b0 : decide (x5_1 < (l1.length : Int)) = true := decide_eq_true c6
              clear c6
              by_cases c7 : (rd l0 x5_1) = (rd l1 x5_1)
              · rw [if_pos c7] at H
                have c7b0 : ((rd l0 x5_1) == (rd l1 x5_1)) = true := beq_iff_eq.mpr c7
                have c7b1 : ((rd l0 x5_1) != (rd l1 x5_1)) = false := bne_eq_false_iff_eq.mpr c7
                clear c7
                have H' := Aside0.mk H
                clear H
                have p119 : 0 ≤ (x5_1 : Int) := of_decide_eq_true (by first | (with_reducible assumption) | assumption)
                have q119 : x5_1 < (l0.length : Int) := of_decide_eq_true (by first | (with_reducible assumption) | assumption)
                obtain ⟨ad119, e119, hx119_0⟩ := Kd.at_int HR0.out x5_1 p119 q119
                cases e119
                replace p119 := eq_true p119
                replace q119 := eq_true q119
                have p120 : 0 ≤ (x5_1 : Int) := of_decide_eq_true (by first | (with_reducible assumption) | assumption)
                have q120 : x5_1 < (l1.length : Int) := of_decide_eq_true (by first | (with_reducible assumption) | assumption)
                obtain ⟨ad120, e120, hx120_0⟩ := Kd.at_int HR1.out x5_1 p120 q120
                cases e120
                replace p120 := eq_true p120
                replace q120 := eq_true q120
                go_wp2
                repeat (go_quiet (fail); try go_wp2)
                go_roundg k1
                case measure => have := HK1.out; omega
                case rel => exact ⟨(wrap64 (x5_1 + 1)), (by first | rfl | (simp; done) | (simp [*]; done)), H', ⟨by have := HK1.out; omega⟩, by repeat (first | exact Drawn0.refl _ | apply Drawn0.step)⟩
              · rw [if_neg c7] at H
                have c7b0 : ((rd l0 x5_1) == (rd l1 x5_1)) = false := beq_eq_false_iff_ne.mpr c7
                have c7b1 : ((rd l0 x5_1) != (rd l1 x5_1)) = true := bne_iff_ne.mpr c7
                obtain rfl := Option.some.inj H
                have p119 : 0 ≤ (x5_1 : Int) := of_decide_eq_true (by first | (with_reducible assumption) | assumption)
                have q119 : x5_1 < (l0.length : Int) := of_decide_eq_true (by first | (with_reducible assumption) | assumption)
                obtain ⟨ad119, e119, hx119_0⟩ := Kd.at_int HR0.out x5_1 p119 q119
                cases e119
                replace p119 := eq_true p119
                replace q119 := eq_true q119
                have p120 : 0 ≤ (x5_1 : Int) := of_decide_eq_true (by first | (with_reducible assumption) | assumption)
                have q120 : x5_1 < (l1.length : Int) := of_decide_eq_true (by first | (with_reducible assumption) | assumption)
                obtain ⟨ad120, e120, hx120_0⟩ := Kd.at_int HR1.out x5_1 p120 q120
                cases e120
                replace p120 := eq_true p120
                replace q120 := eq_true q120
                go_wp2
                repeat (go_quiet (fail); try go_wp2)
                go_ret
                exact ⟨by first | rfl | (simp; done) | (simp [*]; done), by repeat (first | exact Drawn0.refl _ | apply Drawn0.step)⟩
            · rw [if_neg c6] at H
              exact absurd H (by simp)
          · rw [if_neg c5] at H
            exact absurd H (by simp)
        · rw [if_neg c4] at H
          have c4b0 : decide (x5_1 < (l0.length : Int)) = false := decide_eq_false c4
          clear c4
          obtain rfl := Option.some.inj H
          go_wp2
          repeat (go_quiet (fail); try go_wp2)
          go_ret
          exact ⟨by first | rfl | (simp; done) | (simp [*]; done), by repeat (first | exact Drawn0.refl _ | apply Drawn0.step)⟩
  · rw [if_neg c3] at H
    have c3b0 : ((l0.length : Int) == (l1.length : Int)) = false := beq_eq_false_iff_ne.mpr c3
    have c3b1 : ((l0.length : Int) != (l1.length : Int)) = true := bne_iff_ne.mpr c3
    have c3b2 : (l0.length == l1.length) = false := by first | simpa using c3 | (simp at c3 ⊢; omega)
    obtain rfl := Option.some.inj H
    go_enter Try.func6, Try.ntmps6
    go_wp2
    repeat (go_quiet (fail); try go_wp2)
    go_ret
    exact ⟨by first | rfl | (simp; done) | (simp [*]; done), by repeat (first | exact Drawn0.refl _ | apply Drawn0.step)⟩

/-! ### jitneyref01_SameRows: function 7 -/
def jitneyref01_SameRows.l0 : Nat → List (List Int) → List (List Int) → Int → Option (Bool)
  | 0, _, _, _ => none
  | k + 1, x0, x1, x5 => if x5 < (x0.length : Int) then (if 0 ≤ x5 then (if x5 < (x1.length : Int) then ((jitneyref01_SameInts.f k (rd_L1 x0 x5) (rd_L1 x1 x5)).bind fun t123 => (if t123 = true then (jitneyref01_SameRows.l0 k x0 x1 (wrap64 (x5 + 1))) else (some false))) else (none)) else (none)) else (some true)
def jitneyref01_SameRows.f (k : Nat) (l0 : List (List Int)) (l1 : List (List Int)) : Option (Bool) := if (l0.length : Int) = (l1.length : Int) then (jitneyref01_SameRows.l0 k l0 l1 0) else (some false)
theorem jitneyref01_SameRows.mono_l : ∀ k, (∀ y0 y1 y2, LeO (jitneyref01_SameRows.l0 k y0 y1 y2) (jitneyref01_SameRows.l0 (k + 1) y0 y1 y2))
  | 0 => fun _ _ _ r h => by simp [jitneyref01_SameRows.l0] at h
  | k + 1 => by
    have ih0 := jitneyref01_SameRows.mono_l k
    · intro y0 y1 y2
      unfold jitneyref01_SameRows.l0
      repeat' first
      | (with_reducible exact ih0 _ _ _)
      | (with_reducible exact jitneyref01_SameInts.mono _ _ _)
      | (with_reducible exact LeO.refl _)
      | (with_reducible exact LeO.none _)
      | (with_reducible refine LeO.ite ?_ ?_)
      | (with_reducible refine LeO.bind ?_ (fun _ => ?_))
      | exact ih0 _ _ _
      | exact jitneyref01_SameInts.mono _ _ _
      | exact LeO.none _
      | refine LeO.ite ?_ ?_
      | refine LeO.bind ?_ (fun _ => ?_)
theorem jitneyref01_SameRows.mono : ∀ a0 a1 k, LeO (jitneyref01_SameRows.f k a0 a1) (jitneyref01_SameRows.f (k + 1) a0 a1) := by
  intro a0 a1 k
  have ih0 := jitneyref01_SameRows.mono_l k
  unfold jitneyref01_SameRows.f
  repeat' first
      | (with_reducible exact ih0 _ _ _)
      | (with_reducible exact jitneyref01_SameInts.mono _ _ _)
      | (with_reducible exact LeO.refl _)
      | (with_reducible exact LeO.none _)
      | (with_reducible refine LeO.ite ?_ ?_)
      | (with_reducible refine LeO.bind ?_ (fun _ => ?_))
      | exact ih0 _ _ _
      | exact jitneyref01_SameInts.mono _ _ _
      | exact LeO.none _
      | refine LeO.ite ?_ ?_
      | refine LeO.bind ?_ (fun _ => ?_)
set_option maxHeartbeats 8000000 in
set_option maxRecDepth 100000 in
theorem jitneyref01_SameRows.calls (k : Nat) (A0 : Option Addr) (c0 : Nat) (l0 : List (List Int)) (A1 : Option Addr) (c1 : Nat) (l1 : List (List Int)) (r : Bool) (w : World) (hr0 : Kd.C (Kd.slice 3 (Kd.int .i64)) w A0 l0.length l0) (hc0 : l0.length ≤ c0) (hr1 : Kd.C (Kd.slice 3 (Kd.int .i64)) w A1 l1.length l1) (hc1 : l1.length ≤ c1) (h : jitneyref01_SameRows.f k l0 l1 = some r) :
    Calls Try.prog 7 #[.slice A0 l0.length c0, .slice A1 l1.length c1] w fun e w' => e = .returned (.bool r) ∧ Drawn0 w w' := by
  have HR0 := Aside0.mk hr0
  have HC0 := Aside0.mk hc0
  clear hr0 hc0
  have HR1 := Aside0.mk hr1
  have HC1 := Aside0.mk hc1
  clear hr1 hc1
  have H : (if (l0.length : Int) = (l1.length : Int) then (jitneyref01_SameRows.l0 k l0 l1 0) else (some false)) = some r := h
  clear h
  by_cases c3 : (l0.length : Int) = (l1.length : Int)
  · rw [if_pos c3] at H
    have c3b0 : ((l0.length : Int) == (l1.length : Int)) = true := beq_iff_eq.mpr c3
    have c3b1 : ((l0.length : Int) != (l1.length : Int)) = false := bne_eq_false_iff_eq.mpr c3
    have c3b2 : (l0.length == l1.length) = true := by first | simpa using c3 | (simp at c3 ⊢; omega)
    clear c3
    have H' := Aside0.mk H
    clear H
    go_enter Try.func7, Try.ntmps7
    go_wp2
    repeat (go_quiet (fail); try go_wp2)
    go_loopg [5] k (fun kq v5 w' => ∃ (x5_1 : Int), v5 = .int .i64 x5_1 ∧ Aside0 (jitneyref01_SameRows.l0 kq l0 l1 x5_1 = some r) ∧ Aside0 (kq ≤ k) ∧ Drawn0 w w')
    case atStart => exact ⟨(0), (by first | rfl | (simp; done) | (simp [*]; done)), H', ⟨Nat.le_refl _⟩, by repeat (first | exact Drawn0.refl _ | apply Drawn0.step)⟩
    case round =>
      clear H'
      try clear c1
      try clear p2
      try clear c3
      try clear c3b0
      try clear c3b1
      try clear c3b2
      obtain ⟨x5_1, rfl, HA, HK1, ⟨m1, rfl⟩⟩ := hrel
      cases gk with
      | zero => exact absurd HA.out (by simp [jitneyref01_SameRows.l0])
      | succ k1 =>
        have H := HA.out
        clear HA
        simp only [jitneyref01_SameRows.l0] at H
        by_cases c4 : x5_1 < (l0.length : Int)
        · rw [if_pos c4] at H
          have c4b0 : decide (x5_1 < (l0.length : Int)) = true := decide_eq_true c4
          clear c4
          by_cases c5 : 0 ≤ x5_1
          · rw [if_pos c5] at H
            have c5b0 : decide (0 ≤ x5_1) = true := decide_eq_true c5
            clear c5
            by_cases c6 : x5_1 < (l1.length : Int)
            · rw [if_pos c6] at H
              have c6b0 : decide (x5_1 < (l1.length : Int)) = true := decide_eq_true c6
              clear c6
              replace H := Option.bind_eq_some_iff.mp H
              obtain ⟨t123, A70, H⟩ := H
              replace H : (if t123 = true then (jitneyref01_SameRows.l0 k1 l0 l1 (wrap64 (x5_1 + 1))) else (some false)) = some r := H
              have A7 := Aside0.mk A70
              clear A70
              by_cases c8 : t123 = true
              · subst c8
                have H1 : (jitneyref01_SameRows.l0 k1 l0 l1 (wrap64 (x5_1 + 1))) = some r := by rw [if_pos rfl] at H; exact H
                clear H
                have H := H1
                clear H1
                have H' := Aside0.mk H
                clear H
                have p121 : 0 ≤ (x5_1 : Int) := of_decide_eq_true (by first | (with_reducible assumption) | assumption)
                have q121 : x5_1 < (l0.length : Int) := of_decide_eq_true (by first | (with_reducible assumption) | assumption)
                obtain ⟨ad121, A121_0, c121_0, e121, hx121_0, hl121_0, hi121_0⟩ := at_L1 HR0.out x5_1 p121 q121
                cases e121
                have HR121_0 := Aside0.mk hi121_0
                have HC121_0 := Aside0.mk hl121_0
                clear hi121_0 hl121_0
                replace p121 := eq_true p121
                replace q121 := eq_true q121
                have p122 : 0 ≤ (x5_1 : Int) := of_decide_eq_true (by first | (with_reducible assumption) | assumption)
                have q122 : x5_1 < (l1.length : Int) := of_decide_eq_true (by first | (with_reducible assumption) | assumption)
                obtain ⟨ad122, A122_0, c122_0, e122, hx122_0, hl122_0, hi122_0⟩ := at_L1 HR1.out x5_1 p122 q122
                cases e122
                have HR122_0 := Aside0.mk hi122_0
                have HC122_0 := Aside0.mk hl122_0
                clear hi122_0 hl122_0
                replace p122 := eq_true p122
                replace q122 := eq_true q122
                go_wp2_with (first | (go_at_call 6; (with_reducible refine (jitneyref01_SameInts.calls k1 _ _ (rd_L1 l0 x5_1) _ _ (rd_L1 l1 x5_1) true _ ?side1 ?side2 ?side3 ?side4 A7.out).mono ?_); (case side1 => repeat (first | exact HR121_0.out | (with_reducible refine Kd.C_alloc ?_ _) | (with_reducible refine Kd.C_drewN ?_ _) | (with_reducible refine Kd.C_drew ?_))); (case side2 => exact HC121_0.out); (case side3 => repeat (first | exact HR122_0.out | (with_reducible refine Kd.C_alloc ?_ _) | (with_reducible refine Kd.C_drewN ?_ _) | (with_reducible refine Kd.C_drew ?_))); (case side4 => exact HC122_0.out); rintro e w' ⟨rfl, ⟨nd, rfl⟩⟩; (try first | exact ⟨rfl, _, World.drewN_drewN _ _ _⟩ | exact ⟨rfl, _, Eq.trans (World.drewN_drewN _ _ _) (congrArg (World.drewN _) (Nat.add_assoc _ _ _))⟩)))
                repeat (go_quiet (first | (go_at_call 6; (with_reducible refine (jitneyref01_SameInts.calls k1 _ _ (rd_L1 l0 x5_1) _ _ (rd_L1 l1 x5_1) true _ ?side1 ?side2 ?side3 ?side4 A7.out).mono ?_); (case side1 => repeat (first | exact HR121_0.out | (with_reducible refine Kd.C_alloc ?_ _) | (with_reducible refine Kd.C_drewN ?_ _) | (with_reducible refine Kd.C_drew ?_))); (case side2 => exact HC121_0.out); (case side3 => repeat (first | exact HR122_0.out | (with_reducible refine Kd.C_alloc ?_ _) | (with_reducible refine Kd.C_drewN ?_ _) | (with_reducible refine Kd.C_drew ?_))); (case side4 => exact HC122_0.out); rintro e w' ⟨rfl, ⟨nd, rfl⟩⟩; (try first | exact ⟨rfl, _, World.drewN_drewN _ _ _⟩ | exact ⟨rfl, _, Eq.trans (World.drewN_drewN _ _ _) (congrArg (World.drewN _) (Nat.add_assoc _ _ _))⟩))); try go_wp2_with (first | (go_at_call 6; (with_reducible refine (jitneyref01_SameInts.calls k1 _ _ (rd_L1 l0 x5_1) _ _ (rd_L1 l1 x5_1) true _ ?side1 ?side2 ?side3 ?side4 A7.out).mono ?_); (case side1 => repeat (first | exact HR121_0.out | (with_reducible refine Kd.C_alloc ?_ _) | (with_reducible refine Kd.C_drewN ?_ _) | (with_reducible refine Kd.C_drew ?_))); (case side2 => exact HC121_0.out); (case side3 => repeat (first | exact HR122_0.out | (with_reducible refine Kd.C_alloc ?_ _) | (with_reducible refine Kd.C_drewN ?_ _) | (with_reducible refine Kd.C_drew ?_))); (case side4 => exact HC122_0.out); rintro e w' ⟨rfl, ⟨nd, rfl⟩⟩; (try first | exact ⟨rfl, _, World.drewN_drewN _ _ _⟩ | exact ⟨rfl, _, Eq.trans (World.drewN_drewN _ _ _) (congrArg (World.drewN _) (Nat.add_assoc _ _ _))⟩))))
                go_roundg k1
                case measure => have := HK1.out; omega
                case rel => exact ⟨(wrap64 (x5_1 + 1)), (by first | rfl | (simp; done) | (simp [*]; done)), H', ⟨by have := HK1.out; omega⟩, by repeat (first | exact Drawn0.refl _ | apply Drawn0.step)⟩
              · replace c8 := Bool.eq_false_iff.mpr c8
                subst c8
                have H1 : (some false) = some r := by rw [if_neg (show ¬ (false = true) by decide)] at H; exact H
                clear H
                have H := H1
                clear H1
                obtain rfl := Option.some.inj H
                have p121 : 0 ≤ (x5_1 : Int) := of_decide_eq_true (by first | (with_reducible assumption) | assumption)
                have q121 : x5_1 < (l0.length : Int) := of_decide_eq_true (by first | (with_reducible assumption) | assumption)
                obtain ⟨ad121, A121_0, c121_0, e121, hx121_0, hl121_0, hi121_0⟩ := at_L1 HR0.out x5_1 p121 q121
                cases e121
                have HR121_0 := Aside0.mk hi121_0
                have HC121_0 := Aside0.mk hl121_0
                clear hi121_0 hl121_0
                replace p121 := eq_true p121
                replace q121 := eq_true q121
                have p122 : 0 ≤ (x5_1 : Int) := of_decide_eq_true (by first | (with_reducible assumption) | assumption)
                have q122 : x5_1 < (l1.length : Int) := of_decide_eq_true (by first | (with_reducible assumption) | assumption)
                obtain ⟨ad122, A122_0, c122_0, e122, hx122_0, hl122_0, hi122_0⟩ := at_L1 HR1.out x5_1 p122 q122
                cases e122
                have HR122_0 := Aside0.mk hi122_0
                have HC122_0 := Aside0.mk hl122_0
                clear hi122_0 hl122_0
                replace p122 := eq_true p122
                replace q122 := eq_true q122
                go_wp2_with (first | (go_at_call 6; (with_reducible refine (jitneyref01_SameInts.calls k1 _ _ (rd_L1 l0 x5_1) _ _ (rd_L1 l1 x5_1) false _ ?side1 ?side2 ?side3 ?side4 A7.out).mono ?_); (case side1 => repeat (first | exact HR121_0.out | (with_reducible refine Kd.C_alloc ?_ _) | (with_reducible refine Kd.C_drewN ?_ _) | (with_reducible refine Kd.C_drew ?_))); (case side2 => exact HC121_0.out); (case side3 => repeat (first | exact HR122_0.out | (with_reducible refine Kd.C_alloc ?_ _) | (with_reducible refine Kd.C_drewN ?_ _) | (with_reducible refine Kd.C_drew ?_))); (case side4 => exact HC122_0.out); rintro e w' ⟨rfl, ⟨nd, rfl⟩⟩; (try first | exact ⟨rfl, _, World.drewN_drewN _ _ _⟩ | exact ⟨rfl, _, Eq.trans (World.drewN_drewN _ _ _) (congrArg (World.drewN _) (Nat.add_assoc _ _ _))⟩)))
                repeat (go_quiet (first | (go_at_call 6; (with_reducible refine (jitneyref01_SameInts.calls k1 _ _ (rd_L1 l0 x5_1) _ _ (rd_L1 l1 x5_1) false _ ?side1 ?side2 ?side3 ?side4 A7.out).mono ?_); (case side1 => repeat (first | exact HR121_0.out | (with_reducible refine Kd.C_alloc ?_ _) | (with_reducible refine Kd.C_drewN ?_ _) | (with_reducible refine Kd.C_drew ?_))); (case side2 => exact HC121_0.out); (case side3 => repeat (first | exact HR122_0.out | (with_reducible refine Kd.C_alloc ?_ _) | (with_reducible refine Kd.C_drewN ?_ _) | (with_reducible refine Kd.C_drew ?_))); (case side4 => exact HC122_0.out); rintro e w' ⟨rfl, ⟨nd, rfl⟩⟩; (try first | exact ⟨rfl, _, World.drewN_drewN _ _ _⟩ | exact ⟨rfl, _, Eq.trans (World.drewN_drewN _ _ _) (congrArg (World.drewN _) (Nat.add_assoc _ _ _))⟩))); try go_wp2_with (first | (go_at_call 6; (with_reducible refine (jitneyref01_SameInts.calls k1 _ _ (rd_L1 l0 x5_1) _ _ (rd_L1 l1 x5_1) false _ ?side1 ?side2 ?side3 ?side4 A7.out).mono ?_); (case side1 => repeat (first | exact HR121_0.out | (with_reducible refine Kd.C_alloc ?_ _) | (with_reducible refine Kd.C_drewN ?_ _) | (with_reducible refine Kd.C_drew ?_))); (case side2 => exact HC121_0.out); (case side3 => repeat (first | exact HR122_0.out | (with_reducible refine Kd.C_alloc ?_ _) | (with_reducible refine Kd.C_drewN ?_ _) | (with_reducible refine Kd.C_drew ?_))); (case side4 => exact HC122_0.out); rintro e w' ⟨rfl, ⟨nd, rfl⟩⟩; (try first | exact ⟨rfl, _, World.drewN_drewN _ _ _⟩ | exact ⟨rfl, _, Eq.trans (World.drewN_drewN _ _ _) (congrArg (World.drewN _) (Nat.add_assoc _ _ _))⟩))))
                go_ret
                exact ⟨by first | rfl | (simp; done) | (simp [*]; done), by repeat (first | exact Drawn0.refl _ | apply Drawn0.step)⟩
            · rw [if_neg c6] at H
              exact absurd H (by simp)
          · rw [if_neg c5] at H
            exact absurd H (by simp)
        · rw [if_neg c4] at H
          have c4b0 : decide (x5_1 < (l0.length : Int)) = false := decide_eq_false c4
          clear c4
          obtain rfl := Option.some.inj H
          go_wp2
          repeat (go_quiet (fail); try go_wp2)
          go_ret
          exact ⟨by first | rfl | (simp; done) | (simp [*]; done), by repeat (first | exact Drawn0.refl _ | apply Drawn0.step)⟩
  · rw [if_neg c3] at H
    have c3b0 : ((l0.length : Int) == (l1.length : Int)) = false := beq_eq_false_iff_ne.mpr c3
    have c3b1 : ((l0.length : Int) != (l1.length : Int)) = true := bne_iff_ne.mpr c3
    have c3b2 : (l0.length == l1.length) = false := by first | simpa using c3 | (simp at c3 ⊢; omega)
    obtain rfl := Option.some.inj H
    go_enter Try.func7, Try.ntmps7
    go_wp2
    repeat (go_quiet (fail); try go_wp2)
    go_ret
    exact ⟨by first | rfl | (simp; done) | (simp [*]; done), by repeat (first | exact Drawn0.refl _ | apply Drawn0.step)⟩

-- NOT PRINTED: function 9 (jitneylaw17_sample)

-- NOT PRINTED: function 29 (slices_IndexFunc_int_int)

-- NOT PRINTED: function 17 (slices_DeleteFunc_int_int)

/-! ### cmp_Less_int: function 49 -/
def cmp_Less_int.f (a0 : Int) (a1 : Int) : Option (Bool) := (cmp_isNaN_int.f a0).bind fun t124 => (if t124 = true then ((cmp_isNaN_int.f a1).bind fun t125 => (if t125 = true then (some (decide (a0 < a1))) else (some true))) else (some (decide (a0 < a1))))
set_option maxHeartbeats 8000000 in
set_option maxRecDepth 100000 in
theorem cmp_Less_int.calls (a0 : Int) (a1 : Int) (r : Bool) (w : World) (h : cmp_Less_int.f a0 a1 = some r) :
    Calls Try.prog 49 #[.int .i64 a0, .int .i64 a1] w fun e w' => e = .returned (.bool r) ∧ Drawn0 w w' := by
  have H : ((cmp_isNaN_int.f a0).bind fun t124 => (if t124 = true then ((cmp_isNaN_int.f a1).bind fun t125 => (if t125 = true then (some (decide (a0 < a1))) else (some true))) else (some (decide (a0 < a1))))) = some r := h
  clear h
  replace H := Option.bind_eq_some_iff.mp H
  obtain ⟨t124, A30, H⟩ := H
  replace H : (if t124 = true then ((cmp_isNaN_int.f a1).bind fun t125 => (if t125 = true then (some (decide (a0 < a1))) else (some true))) else (some (decide (a0 < a1)))) = some r := H
  have A3 := Aside0.mk A30
  clear A30
  by_cases c4 : t124 = true
  · subst c4
    have H1 : ((cmp_isNaN_int.f a1).bind fun t125 => (if t125 = true then (some (decide (a0 < a1))) else (some true))) = some r := by rw [if_pos rfl] at H; exact H
    clear H
    have H := H1
    clear H1
    replace H := Option.bind_eq_some_iff.mp H
    obtain ⟨t125, A50, H⟩ := H
    replace H : (if t125 = true then (some (decide (a0 < a1))) else (some true)) = some r := H
    have A5 := Aside0.mk A50
    clear A50
    by_cases c6 : t125 = true
    · subst c6
      have H1 : (some (decide (a0 < a1))) = some r := by rw [if_pos rfl] at H; exact H
      clear H
      have H := H1
      clear H1
      obtain rfl := Option.some.inj H
      go_enter Try.func49, Try.ntmps49
      go_wp2_with (first | ((with_reducible refine gate_callee (f := 58) rfl ?_); refine goesL_ (some 6) rfl rfl Try.func58 (by kernel_rfl) rfl #[.int .i64 a0] rfl (by (try simp only [List.map_toArray, List.map_cons, List.map_nil]); first | done | rfl | (simp only [List.length_drop, List.length_take]; rfl)) ?_; (with_reducible refine (cmp_isNaN_int.calls a0 true _ A3.out).mono ?_); rintro e w' ⟨rfl, ⟨nd, rfl⟩⟩; refine ⟨_, rfl, ?_⟩) | (go_at_call 58; (with_reducible refine (cmp_isNaN_int.calls a1 true _ A5.out).mono ?_); rintro e w' ⟨rfl, ⟨nd, rfl⟩⟩))
      go_ret
      exact ⟨by first | rfl | (simp; done) | (simp [*]; done), by repeat (first | exact Drawn0.refl _ | apply Drawn0.step)⟩
    · replace c6 := Bool.eq_false_iff.mpr c6
      subst c6
      have H1 : (some true) = some r := by rw [if_neg (show ¬ (false = true) by decide)] at H; exact H
      clear H
      have H := H1
      clear H1
      obtain rfl := Option.some.inj H
      go_enter Try.func49, Try.ntmps49
      go_wp2_with (first | ((with_reducible refine gate_callee (f := 58) rfl ?_); refine goesL_ (some 6) rfl rfl Try.func58 (by kernel_rfl) rfl #[.int .i64 a0] rfl (by (try simp only [List.map_toArray, List.map_cons, List.map_nil]); first | done | rfl | (simp only [List.length_drop, List.length_take]; rfl)) ?_; (with_reducible refine (cmp_isNaN_int.calls a0 true _ A3.out).mono ?_); rintro e w' ⟨rfl, ⟨nd, rfl⟩⟩; refine ⟨_, rfl, ?_⟩) | (go_at_call 58; (with_reducible refine (cmp_isNaN_int.calls a1 false _ A5.out).mono ?_); rintro e w' ⟨rfl, ⟨nd, rfl⟩⟩))
      go_ret
      exact ⟨by first | rfl | (simp; done) | (simp [*]; done), by repeat (first | exact Drawn0.refl _ | apply Drawn0.step)⟩
  · replace c4 := Bool.eq_false_iff.mpr c4
    subst c4
    have H1 : (some (decide (a0 < a1))) = some r := by rw [if_neg (show ¬ (false = true) by decide)] at H; exact H
    clear H
    have H := H1
    clear H1
    obtain rfl := Option.some.inj H
    go_enter Try.func49, Try.ntmps49
    go_wp2_with (first | ((with_reducible refine gate_callee (f := 58) rfl ?_); refine goesL_ (some 6) rfl rfl Try.func58 (by kernel_rfl) rfl #[.int .i64 a0] rfl (by (try simp only [List.map_toArray, List.map_cons, List.map_nil]); first | done | rfl | (simp only [List.length_drop, List.length_take]; rfl)) ?_; (with_reducible refine (cmp_isNaN_int.calls a0 false _ A3.out).mono ?_); rintro e w' ⟨rfl, ⟨nd, rfl⟩⟩; refine ⟨_, rfl, ?_⟩))
    go_ret
    exact ⟨by first | rfl | (simp; done) | (simp [*]; done), by repeat (first | exact Drawn0.refl _ | apply Drawn0.step)⟩

end Go.Proofs.Ytlpjankfedhhjaa.P
