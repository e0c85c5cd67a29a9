-- printed by the session's own program wip/xprint.py (over the kit's printer); nothing here is trusted: Lean checks it
import Derived.Test.YtenjncmljmgcdaaP0
import Derived.Test.YtenjncmljmgcdaaP4
import Derived.Test.YtenjncmljmgcdaaP10
namespace Go.Proofs.Ytenjncmljmgcdaa.P
open Go.Proofs.YtenjncmljmgcdaaR
open Go.RowKit Go.Proofs.YtenjncmljmgcdaaW.PrintWords Go.Proofs.YtenjncmljmgcdaaW.PrintLast Go.Proofs.YtenjncmljmgcdaaW.PrintMore
attribute [local go_sem] max2_int min2_int max_two min_two max_three min_three max_four min_four   -- for this text's walks alone
set_option linter.unusedVariables false
set_option linter.unusedSimpArgs false

/-! ### jitneylaw07_DiffShifts: function 7 -/
mutual
def jitneylaw07_DiffShifts.j0 : Nat → Int → List (S42) → Int → Int → Bool → Option (Bool)
  | 0, _, _, _, _, _ => none
  | k + 1, x0, x1, x2, x3, x24 => if x24 = true then (some true) else ((diff_Solve.f x0 x1 x2).bind fun bt279 => ((diff_Solve.f x0 x1 x3).bind fun bt286 => (if bt279.2.2 = 0 then (if bt286.2.2 = 0 then (if (bt279.2.1.length : Int) > 0 then (jitneylaw07_DiffShifts.j1 k x2 x3 bt279.1 bt286.1 true) else (jitneylaw07_DiffShifts.j1 k x2 x3 bt279.1 bt286.1 (decide ((bt286.2.1.length : Int) > 0)))) else (jitneylaw07_DiffShifts.j1 k x2 x3 bt279.1 bt286.1 true)) else (jitneylaw07_DiffShifts.j1 k x2 x3 bt279.1 bt286.1 true))))
def jitneylaw07_DiffShifts.j1 : Nat → Int → Int → List Int → List Int → Bool → Option (Bool)
  | 0, _, _, _, _, _ => none
  | k + 1, x2, x3, x9, x12, x56 => if x56 = true then (some true) else (if 0 ≤ x2 then (if x2 < (x9.length : Int) then (if (rd x9 x2) = 0 then (if 0 ≤ x3 then (if x3 < (x12.length : Int) then (jitneylaw07_DiffShifts.j2 k x3 x9 x12 ((rd x12 x3) != 0)) else (none)) else (none)) else (jitneylaw07_DiffShifts.j2 k x3 x9 x12 true)) else (none)) else (none))
def jitneylaw07_DiffShifts.j2 : Nat → Int → List Int → List Int → Bool → Option (Bool)
  | 0, _, _, _, _ => none
  | k + 1, x3, x9, x12, x68 => if x68 = true then (some false) else (jitneylaw07_DiffShifts.l0 k x3 x9 x12 (x9.length : Int) 0)
def jitneylaw07_DiffShifts.l0 : Nat → Int → List Int → List Int → Int → Int → Option (Bool)
  | 0, _, _, _, _, _ => none
  | k + 1, x3, x9, x12, x70, x71 => if x71 < x70 then (if 0 ≤ x3 then (if x3 < (x9.length : Int) then (if (rd x9 x3) = 1152921504606846976 then (jitneylaw07_DiffShifts.l0 k x3 x9 x12 x70 (wrap64 (x71 + 1))) else (if 0 ≤ x71 then (if x71 < (x12.length : Int) then (if (rd x12 x71) = 1152921504606846976 then (jitneylaw07_DiffShifts.l0 k x3 x9 x12 x70 (wrap64 (x71 + 1))) else (if x71 < (x9.length : Int) then (if (rd x9 x71) = 1152921504606846976 then (some false) else (if (rd x9 x71) > (wrap64 ((rd x9 x3) + (rd x12 x71))) then (some false) else (jitneylaw07_DiffShifts.l0 k x3 x9 x12 x70 (wrap64 (x71 + 1))))) else (none))) else (none)) else (none))) else (none)) else (none)) else (some true)
end
def jitneylaw07_DiffShifts.f (k : Nat) (a0 : Int) (l1 : List (S42)) (a2 : Int) (a3 : Int) : Option (Bool) := (jitneylaw07_alive.f).bind fun t278 => (if t278 = true then (if a0 > 20 then (jitneylaw07_DiffShifts.j0 k a0 l1 a2 a3 true) else (jitneylaw07_DiffShifts.j0 k a0 l1 a2 a3 (decide ((l1.length : Int) > 200)))) else (some false))
theorem jitneylaw07_DiffShifts.mono_l : ∀ k, (∀ y0 y1 y2 y3 y4, LeO (jitneylaw07_DiffShifts.j0 k y0 y1 y2 y3 y4) (jitneylaw07_DiffShifts.j0 (k + 1) y0 y1 y2 y3 y4)) ∧ (∀ y0 y1 y2 y3 y4, LeO (jitneylaw07_DiffShifts.j1 k y0 y1 y2 y3 y4) (jitneylaw07_DiffShifts.j1 (k + 1) y0 y1 y2 y3 y4)) ∧ (∀ y0 y1 y2 y3, LeO (jitneylaw07_DiffShifts.j2 k y0 y1 y2 y3) (jitneylaw07_DiffShifts.j2 (k + 1) y0 y1 y2 y3)) ∧ (∀ y0 y1 y2 y3 y4, LeO (jitneylaw07_DiffShifts.l0 k y0 y1 y2 y3 y4) (jitneylaw07_DiffShifts.l0 (k + 1) y0 y1 y2 y3 y4))
  | 0 => ⟨fun _ _ _ _ _ r h => by simp [jitneylaw07_DiffShifts.j0] at h, fun _ _ _ _ _ r h => by simp [jitneylaw07_DiffShifts.j1] at h, fun _ _ _ _ r h => by simp [jitneylaw07_DiffShifts.j2] at h, fun _ _ _ _ _ r h => by simp [jitneylaw07_DiffShifts.l0] at h⟩
  | k + 1 => by
    obtain ⟨ih0, ih1, ih2, ih3⟩ := jitneylaw07_DiffShifts.mono_l k
    refine ⟨?_, ?_, ?_, ?_⟩
    · intro y0 y1 y2 y3 y4
      unfold jitneylaw07_DiffShifts.j0
      repeat' first
      | (with_reducible exact ih0 _ _ _ _ _)
      | (with_reducible exact ih1 _ _ _ _ _)
      | (with_reducible exact ih2 _ _ _ _)
      | (with_reducible exact ih3 _ _ _ _ _)
      | (with_reducible exact LeO.refl _)
      | (with_reducible exact LeO.none _)
      | (with_reducible refine LeO.ite ?_ ?_)
      | (with_reducible refine LeO.bind ?_ (fun _ => ?_))
      | exact ih0 _ _ _ _ _
      | exact ih1 _ _ _ _ _
      | exact ih2 _ _ _ _
      | exact ih3 _ _ _ _ _
      | exact LeO.none _
      | refine LeO.ite ?_ ?_
      | refine LeO.bind ?_ (fun _ => ?_)
    · intro y0 y1 y2 y3 y4
      unfold jitneylaw07_DiffShifts.j1
      repeat' first
      | (with_reducible exact ih0 _ _ _ _ _)
      | (with_reducible exact ih1 _ _ _ _ _)
      | (with_reducible exact ih2 _ _ _ _)
      | (with_reducible exact ih3 _ _ _ _ _)
      | (with_reducible exact LeO.refl _)
      | (with_reducible exact LeO.none _)
      | (with_reducible refine LeO.ite ?_ ?_)
      | (with_reducible refine LeO.bind ?_ (fun _ => ?_))
      | exact ih0 _ _ _ _ _
      | exact ih1 _ _ _ _ _
      | exact ih2 _ _ _ _
      | exact ih3 _ _ _ _ _
      | exact LeO.none _
      | refine LeO.ite ?_ ?_
      | refine LeO.bind ?_ (fun _ => ?_)
    · intro y0 y1 y2 y3
      unfold jitneylaw07_DiffShifts.j2
      repeat' first
      | (with_reducible exact ih0 _ _ _ _ _)
      | (with_reducible exact ih1 _ _ _ _ _)
      | (with_reducible exact ih2 _ _ _ _)
      | (with_reducible exact ih3 _ _ _ _ _)
      | (with_reducible exact LeO.refl _)
      | (with_reducible exact LeO.none _)
      | (with_reducible refine LeO.ite ?_ ?_)
      | (with_reducible refine LeO.bind ?_ (fun _ => ?_))
      | exact ih0 _ _ _ _ _
      | exact ih1 _ _ _ _ _
      | exact ih2 _ _ _ _
      | exact ih3 _ _ _ _ _
      | exact LeO.none _
      | refine LeO.ite ?_ ?_
      | refine LeO.bind ?_ (fun _ => ?_)
    · intro y0 y1 y2 y3 y4
      unfold jitneylaw07_DiffShifts.l0
      repeat' first
      | (with_reducible exact ih0 _ _ _ _ _)
      | (with_reducible exact ih1 _ _ _ _ _)
      | (with_reducible exact ih2 _ _ _ _)
      | (with_reducible exact ih3 _ _ _ _ _)
      | (with_reducible exact LeO.refl _)
      | (with_reducible exact LeO.none _)
      | (with_reducible refine LeO.ite ?_ ?_)
      | (with_reducible refine LeO.bind ?_ (fun _ => ?_))
      | exact ih0 _ _ _ _ _
      | exact ih1 _ _ _ _ _
      | exact ih2 _ _ _ _
      | exact ih3 _ _ _ _ _
      | exact LeO.none _
      | refine LeO.ite ?_ ?_
      | refine LeO.bind ?_ (fun _ => ?_)
theorem jitneylaw07_DiffShifts.mono : ∀ a0 a1 a2 a3 k, LeO (jitneylaw07_DiffShifts.f k a0 a1 a2 a3) (jitneylaw07_DiffShifts.f (k + 1) a0 a1 a2 a3) := by
  intro a0 a1 a2 a3 k
  obtain ⟨ih0, ih1, ih2, ih3⟩ := jitneylaw07_DiffShifts.mono_l k
  unfold jitneylaw07_DiffShifts.f
  repeat' first
      | (with_reducible exact ih0 _ _ _ _ _)
      | (with_reducible exact ih1 _ _ _ _ _)
      | (with_reducible exact ih2 _ _ _ _)
      | (with_reducible exact ih3 _ _ _ _ _)
      | (with_reducible exact LeO.refl _)
      | (with_reducible exact LeO.none _)
      | (with_reducible refine LeO.ite ?_ ?_)
      | (with_reducible refine LeO.bind ?_ (fun _ => ?_))
      | exact ih0 _ _ _ _ _
      | exact ih1 _ _ _ _ _
      | exact ih2 _ _ _ _
      | exact ih3 _ _ _ _ _
      | exact LeO.none _
      | refine LeO.ite ?_ ?_
      | refine LeO.bind ?_ (fun _ => ?_)
set_option maxHeartbeats 8000000 in
set_option maxRecDepth 100000 in
theorem jitneylaw07_DiffShifts.calls (k : Nat) (a0 : Int) (A1 : Option Addr) (c1 : Nat) (l1 : List (S42)) (a2 : Int) (a3 : Int) (r : Bool) (w : World) (hr1 : Kd.C k42 w A1 l1.length l1) (hc1 : l1.length ≤ c1) (h : jitneylaw07_DiffShifts.f k a0 l1 a2 a3 = some r) :
    Calls Try.prog 7 #[.int .i64 a0, .slice A1 l1.length c1, .int .i64 a2, .int .i64 a3] w fun e w' => e = .returned (.bool r) ∧ Below w.heap.size w w' := by
  have HR1 := Aside0.mk hr1
  have HC1 := Aside0.mk hc1
  clear hr1 hc1
  have HB := Aside0.mk (Below.refl w.heap.size w)
  have H : ((jitneylaw07_alive.f).bind fun t278 => (if t278 = true then (if a0 > 20 then (jitneylaw07_DiffShifts.j0 k a0 l1 a2 a3 true) else (jitneylaw07_DiffShifts.j0 k a0 l1 a2 a3 (decide ((l1.length : Int) > 200)))) else (some false))) = some r := h
  clear h
  replace H := Option.bind_eq_some_iff.mp H
  obtain ⟨t278, A50, H⟩ := H
  replace H : (if t278 = true then (if a0 > 20 then (jitneylaw07_DiffShifts.j0 k a0 l1 a2 a3 true) else (jitneylaw07_DiffShifts.j0 k a0 l1 a2 a3 (decide ((l1.length : Int) > 200)))) else (some false)) = some r := H
  have A5 := Aside0.mk A50
  clear A50
  by_cases c6 : t278 = true
  · subst c6
    have H1 : (if a0 > 20 then (jitneylaw07_DiffShifts.j0 k a0 l1 a2 a3 true) else (jitneylaw07_DiffShifts.j0 k a0 l1 a2 a3 (decide ((l1.length : Int) > 200)))) = some r := by rw [if_pos rfl] at H; exact H
    clear H
    have H := H1
    clear H1
    have HC7 := Aside0.mk H
    clear H
    go_enter Try.func7, Try.ntmps7
    go_upto_region 3 with (first | (go_at_call 8; (with_reducible refine (jitneylaw07_alive.calls  true _ A5.out).mono ?_); rintro e w8 ⟨rfl, hb⟩; have n0_ := Aside0.mk (below_step (by repeat (first | (with_reducible first | exact HB.out | apply below_alloc | apply pw_below_drewN | apply below_drew1) | exact HB.out)) hb); clear HB; have HB := n0_; clear n0_; (try clear hb); (try clear hb2); (try clear hk); (try clear hi)))
    repeat (go_quiet (first | (go_at_call 8; (with_reducible refine (jitneylaw07_alive.calls  true _ A5.out).mono ?_); rintro e w8 ⟨rfl, hb⟩; have n0_ := Aside0.mk (below_step (by repeat (first | (with_reducible first | exact HB.out | apply below_alloc | apply pw_below_drewN | apply below_drew1) | exact HB.out)) hb); clear HB; have HB := n0_; clear n0_; (try clear hb); (try clear hb2); (try clear hk); (try clear hi))); go_upto_region 3 with (first | (go_at_call 8; (with_reducible refine (jitneylaw07_alive.calls  true _ A5.out).mono ?_); rintro e w8 ⟨rfl, hb⟩; have n0_ := Aside0.mk (below_step (by repeat (first | (with_reducible first | exact HB.out | apply below_alloc | apply pw_below_drewN | apply below_drew1) | exact HB.out)) hb); clear HB; have HB := n0_; clear n0_; (try clear hb); (try clear hb2); (try clear hk); (try clear hi))))
    (try simp only [Act.put, List.setIfInBounds_toArray, List.set_cons_zero, List.set_cons_succ])
    go_cut [24] (fun v24 wc => ∃ (kq : Nat) (x24_6 : Bool), v24 = .bool x24_6 ∧ Aside0 (jitneylaw07_DiffShifts.j0 kq a0 l1 a2 a3 x24_6 = some r) ∧ Aside0 (kq ≤ k) ∧ Aside0 (Below w.heap.size w wc))
    case first =>
      have H := HC7.out
      clear HC7
      by_cases c9 : a0 > 20
      · rw [if_pos c9] at H
        have c9b0 : decide (20 < a0) = true := decide_eq_true c9
        clear c9
        (first | rw [c9b0] | (simp only [i64_w, i32_w]; rw [c9b0]) | skip)
        have H' := Aside0.mk H
        clear H
        go_wp2
        repeat (go_quiet (fail); try go_wp2)
        go_meet
        case rel => exact ⟨_, (true), (by first | rfl | (simp; done) | (simp [*]; done)), H', ⟨by first | omega | exact Nat.le_refl _⟩, ⟨by repeat (first | (with_reducible first | exact HB.out | apply below_alloc | apply pw_below_drewN | apply below_drew1) | exact HB.out)⟩⟩
      · rw [if_neg c9] at H
        have c9b0 : decide (20 < a0) = false := decide_eq_false c9
        clear c9
        (first | rw [c9b0] | (simp only [i64_w, i32_w]; rw [c9b0]) | skip)
        have H' := Aside0.mk H
        clear H
        go_wp2
        repeat (go_quiet (fail); try go_wp2)
        go_meet
        case rel => exact ⟨_, (decide ((l1.length : Int) > 200)), (by first | rfl | (simp; done) | (simp [*]; done)), H', ⟨by first | omega | exact Nat.le_refl _⟩, ⟨by repeat (first | (with_reducible first | exact HB.out | apply below_alloc | apply pw_below_drewN | apply below_drew1) | exact HB.out)⟩⟩
    case rest =>
      clear HC7
      try clear c1
      try clear p2
      try clear c6
      try clear c7
      try clear c9
      try clear c9b0
      obtain ⟨kq, x24_6, rfl, HA, HJ6, HB⟩ := hcut
      cases kq with
      | zero => exact absurd HA.out (by simp [jitneylaw07_DiffShifts.j0])
      | succ kj6 =>
        have H := HA.out
        clear HA
        simp only [jitneylaw07_DiffShifts.j0] at H
        by_cases c10 : x24_6 = true
        · subst c10
          have H1 : (some true) = some r := by rw [if_pos rfl] at H; exact H
          clear H
          have H := H1
          clear H1
          obtain rfl := Option.some.inj H
          go_wp2
          repeat (go_quiet (fail); try go_wp2)
          go_ret
          exact ⟨by first | rfl | (simp [errW_none, errW_some] <;> rfl) | (simp [*, errW_none, errW_some] <;> rfl), by repeat (first | (with_reducible first | exact HB.out | apply below_alloc | apply pw_below_drewN | apply below_drew1) | exact HB.out)⟩
        · replace c10 := Bool.eq_false_iff.mpr c10
          subst c10
          have H1 : ((diff_Solve.f a0 l1 a2).bind fun bt279 => ((diff_Solve.f a0 l1 a3).bind fun bt286 => (if bt279.2.2 = 0 then (if bt286.2.2 = 0 then (if (bt279.2.1.length : Int) > 0 then (jitneylaw07_DiffShifts.j1 kj6 a2 a3 bt279.1 bt286.1 true) else (jitneylaw07_DiffShifts.j1 kj6 a2 a3 bt279.1 bt286.1 (decide ((bt286.2.1.length : Int) > 0)))) else (jitneylaw07_DiffShifts.j1 kj6 a2 a3 bt279.1 bt286.1 true)) else (jitneylaw07_DiffShifts.j1 kj6 a2 a3 bt279.1 bt286.1 true)))) = some r := by rw [if_neg (show ¬ (false = true) by decide)] at H; exact H
          clear H
          have H := H1
          clear H1
          replace H := Option.bind_eq_some_iff.mp H
          obtain ⟨⟨t279, t280, t281⟩, A110, H⟩ := H
          replace H : ((diff_Solve.f a0 l1 a3).bind fun bt286 => (if t281 = 0 then (if bt286.2.2 = 0 then (if (t280.length : Int) > 0 then (jitneylaw07_DiffShifts.j1 kj6 a2 a3 t279 bt286.1 true) else (jitneylaw07_DiffShifts.j1 kj6 a2 a3 t279 bt286.1 (decide ((bt286.2.1.length : Int) > 0)))) else (jitneylaw07_DiffShifts.j1 kj6 a2 a3 t279 bt286.1 true)) else (jitneylaw07_DiffShifts.j1 kj6 a2 a3 t279 bt286.1 true))) = some r := H
          have A11 := Aside0.mk A110
          clear A110
          replace H := Option.bind_eq_some_iff.mp H
          obtain ⟨⟨t286, t287, t288⟩, A120, H⟩ := H
          replace H : (if t281 = 0 then (if t288 = 0 then (if (t280.length : Int) > 0 then (jitneylaw07_DiffShifts.j1 kj6 a2 a3 t279 t286 true) else (jitneylaw07_DiffShifts.j1 kj6 a2 a3 t279 t286 (decide ((t287.length : Int) > 0)))) else (jitneylaw07_DiffShifts.j1 kj6 a2 a3 t279 t286 true)) else (jitneylaw07_DiffShifts.j1 kj6 a2 a3 t279 t286 true)) = some r := H
          have A12 := Aside0.mk A120
          clear A120
          have HC13 := Aside0.mk H
          clear H
          go_upto_region 7 with (first | (go_at_call 9; (with_reducible refine (diff_Solve.calls a0 _ _ l1 a2 t279 t280 t281 _ ?side1 ?side2 A11.out).mono ?_); (case side1 => repeat (first | exact (Kd.C_below HR1.out HB.out) | (with_reducible refine Kd.C_alloc ?_ _) | (with_reducible refine Kd.C_drewN ?_ _) | (with_reducible refine Kd.C_drew ?_))); (case side2 => exact HC1.out); rintro e w14 ⟨v282, v284, rfl, ho0, ho1, hb⟩; have n0_ := Aside0.mk (Kd.R_lower ho0 (below_size (by repeat (first | (with_reducible first | exact HB.out | apply below_alloc | apply pw_below_drewN | apply below_drew1) | exact HB.out)))); have n1_ := Aside0.mk (Kd.R_lower ho1 (below_size (by repeat (first | (with_reducible first | exact HB.out | apply below_alloc | apply pw_below_drewN | apply below_drew1) | exact HB.out)))); have n2_ := Aside0.mk (below_step (by repeat (first | (with_reducible first | exact HB.out | apply below_alloc | apply pw_below_drewN | apply below_drew1) | exact HB.out)) hb); clear HB; have HO283 := n0_; have HO285 := n1_; have HB := n2_; clear n0_ n1_ n2_; (try clear hb); (try clear hb2); (try clear hk); (try clear hi); (try clear ho0); (try clear ho1)) | (go_at_call 9; (with_reducible refine (diff_Solve.calls a0 _ _ l1 a3 t286 t287 t288 _ ?side1 ?side2 A12.out).mono ?_); (case side1 => repeat (first | exact (Kd.C_below HR1.out HB.out) | (with_reducible refine Kd.C_alloc ?_ _) | (with_reducible refine Kd.C_drewN ?_ _) | (with_reducible refine Kd.C_drew ?_))); (case side2 => exact HC1.out); rintro e w15 ⟨v289, v291, rfl, ho0, ho1, hb⟩; have n0_ := Aside0.mk (Kd.R_elder' (by (with_reducible repeat (first | apply Kd.R_alloc | apply Kd.R_drewN | apply Kd.R_drew)); exact HO283.out) (Kd.R_base ho0) hb); have n1_ := Aside0.mk (Kd.R_elder' (by (with_reducible repeat (first | apply Kd.R_alloc | apply Kd.R_drewN | apply Kd.R_drew)); exact HO285.out) (Kd.R_base ho1) hb); have n2_ := Aside0.mk (Kd.R_lower (Kd.R_new' ho0 (Kd.R_lt (by (with_reducible repeat (first | apply Kd.R_alloc | apply Kd.R_drewN | apply Kd.R_drew)); exact HO283.out))) (below_size (by repeat (first | (with_reducible first | exact HB.out | apply below_alloc | apply pw_below_drewN | apply below_drew1) | exact HB.out)))); have n3_ := Aside0.mk (Kd.R_lower (Kd.R_new' ho1 (Kd.R_lt (by (with_reducible repeat (first | apply Kd.R_alloc | apply Kd.R_drewN | apply Kd.R_drew)); exact HO285.out))) (below_size (by repeat (first | (with_reducible first | exact HB.out | apply below_alloc | apply pw_below_drewN | apply below_drew1) | exact HB.out)))); have n4_ := Aside0.mk (below_step (by repeat (first | (with_reducible first | exact HB.out | apply below_alloc | apply pw_below_drewN | apply below_drew1) | exact HB.out)) hb); clear HO283; clear HO285; clear HB; have HO283 := n0_; have HO285 := n1_; have HO290 := n2_; have HO292 := n3_; have HB := n4_; clear n0_ n1_ n2_ n3_ n4_; (try clear hb); (try clear hb2); (try clear hk); (try clear hi); (try clear ho0); (try clear ho1)))
          repeat (go_quiet (first | (go_at_call 9; (with_reducible refine (diff_Solve.calls a0 _ _ l1 a2 t279 t280 t281 _ ?side1 ?side2 A11.out).mono ?_); (case side1 => repeat (first | exact (Kd.C_below HR1.out HB.out) | (with_reducible refine Kd.C_alloc ?_ _) | (with_reducible refine Kd.C_drewN ?_ _) | (with_reducible refine Kd.C_drew ?_))); (case side2 => exact HC1.out); rintro e w14 ⟨v282, v284, rfl, ho0, ho1, hb⟩; have n0_ := Aside0.mk (Kd.R_lower ho0 (below_size (by repeat (first | (with_reducible first | exact HB.out | apply below_alloc | apply pw_below_drewN | apply below_drew1) | exact HB.out)))); have n1_ := Aside0.mk (Kd.R_lower ho1 (below_size (by repeat (first | (with_reducible first | exact HB.out | apply below_alloc | apply pw_below_drewN | apply below_drew1) | exact HB.out)))); have n2_ := Aside0.mk (below_step (by repeat (first | (with_reducible first | exact HB.out | apply below_alloc | apply pw_below_drewN | apply below_drew1) | exact HB.out)) hb); clear HB; have HO283 := n0_; have HO285 := n1_; have HB := n2_; clear n0_ n1_ n2_; (try clear hb); (try clear hb2); (try clear hk); (try clear hi); (try clear ho0); (try clear ho1)) | (go_at_call 9; (with_reducible refine (diff_Solve.calls a0 _ _ l1 a3 t286 t287 t288 _ ?side1 ?side2 A12.out).mono ?_); (case side1 => repeat (first | exact (Kd.C_below HR1.out HB.out) | (with_reducible refine Kd.C_alloc ?_ _) | (with_reducible refine Kd.C_drewN ?_ _) | (with_reducible refine Kd.C_drew ?_))); (case side2 => exact HC1.out); rintro e w15 ⟨v289, v291, rfl, ho0, ho1, hb⟩; have n0_ := Aside0.mk (Kd.R_elder' (by (with_reducible repeat (first | apply Kd.R_alloc | apply Kd.R_drewN | apply Kd.R_drew)); exact HO283.out) (Kd.R_base ho0) hb); have n1_ := Aside0.mk (Kd.R_elder' (by (with_reducible repeat (first | apply Kd.R_alloc | apply Kd.R_drewN | apply Kd.R_drew)); exact HO285.out) (Kd.R_base ho1) hb); have n2_ := Aside0.mk (Kd.R_lower (Kd.R_new' ho0 (Kd.R_lt (by (with_reducible repeat (first | apply Kd.R_alloc | apply Kd.R_drewN | apply Kd.R_drew)); exact HO283.out))) (below_size (by repeat (first | (with_reducible first | exact HB.out | apply below_alloc | apply pw_below_drewN | apply below_drew1) | exact HB.out)))); have n3_ := Aside0.mk (Kd.R_lower (Kd.R_new' ho1 (Kd.R_lt (by (with_reducible repeat (first | apply Kd.R_alloc | apply Kd.R_drewN | apply Kd.R_drew)); exact HO285.out))) (below_size (by repeat (first | (with_reducible first | exact HB.out | apply below_alloc | apply pw_below_drewN | apply below_drew1) | exact HB.out)))); have n4_ := Aside0.mk (below_step (by repeat (first | (with_reducible first | exact HB.out | apply below_alloc | apply pw_below_drewN | apply below_drew1) | exact HB.out)) hb); clear HO283; clear HO285; clear HB; have HO283 := n0_; have HO285 := n1_; have HO290 := n2_; have HO292 := n3_; have HB := n4_; clear n0_ n1_ n2_ n3_ n4_; (try clear hb); (try clear hb2); (try clear hk); (try clear hi); (try clear ho0); (try clear ho1))); go_upto_region 7 with (first | (go_at_call 9; (with_reducible refine (diff_Solve.calls a0 _ _ l1 a2 t279 t280 t281 _ ?side1 ?side2 A11.out).mono ?_); (case side1 => repeat (first | exact (Kd.C_below HR1.out HB.out) | (with_reducible refine Kd.C_alloc ?_ _) | (with_reducible refine Kd.C_drewN ?_ _) | (with_reducible refine Kd.C_drew ?_))); (case side2 => exact HC1.out); rintro e w14 ⟨v282, v284, rfl, ho0, ho1, hb⟩; have n0_ := Aside0.mk (Kd.R_lower ho0 (below_size (by repeat (first | (with_reducible first | exact HB.out | apply below_alloc | apply pw_below_drewN | apply below_drew1) | exact HB.out)))); have n1_ := Aside0.mk (Kd.R_lower ho1 (below_size (by repeat (first | (with_reducible first | exact HB.out | apply below_alloc | apply pw_below_drewN | apply below_drew1) | exact HB.out)))); have n2_ := Aside0.mk (below_step (by repeat (first | (with_reducible first | exact HB.out | apply below_alloc | apply pw_below_drewN | apply below_drew1) | exact HB.out)) hb); clear HB; have HO283 := n0_; have HO285 := n1_; have HB := n2_; clear n0_ n1_ n2_; (try clear hb); (try clear hb2); (try clear hk); (try clear hi); (try clear ho0); (try clear ho1)) | (go_at_call 9; (with_reducible refine (diff_Solve.calls a0 _ _ l1 a3 t286 t287 t288 _ ?side1 ?side2 A12.out).mono ?_); (case side1 => repeat (first | exact (Kd.C_below HR1.out HB.out) | (with_reducible refine Kd.C_alloc ?_ _) | (with_reducible refine Kd.C_drewN ?_ _) | (with_reducible refine Kd.C_drew ?_))); (case side2 => exact HC1.out); rintro e w15 ⟨v289, v291, rfl, ho0, ho1, hb⟩; have n0_ := Aside0.mk (Kd.R_elder' (by (with_reducible repeat (first | apply Kd.R_alloc | apply Kd.R_drewN | apply Kd.R_drew)); exact HO283.out) (Kd.R_base ho0) hb); have n1_ := Aside0.mk (Kd.R_elder' (by (with_reducible repeat (first | apply Kd.R_alloc | apply Kd.R_drewN | apply Kd.R_drew)); exact HO285.out) (Kd.R_base ho1) hb); have n2_ := Aside0.mk (Kd.R_lower (Kd.R_new' ho0 (Kd.R_lt (by (with_reducible repeat (first | apply Kd.R_alloc | apply Kd.R_drewN | apply Kd.R_drew)); exact HO283.out))) (below_size (by repeat (first | (with_reducible first | exact HB.out | apply below_alloc | apply pw_below_drewN | apply below_drew1) | exact HB.out)))); have n3_ := Aside0.mk (Kd.R_lower (Kd.R_new' ho1 (Kd.R_lt (by (with_reducible repeat (first | apply Kd.R_alloc | apply Kd.R_drewN | apply Kd.R_drew)); exact HO285.out))) (below_size (by repeat (first | (with_reducible first | exact HB.out | apply below_alloc | apply pw_below_drewN | apply below_drew1) | exact HB.out)))); have n4_ := Aside0.mk (below_step (by repeat (first | (with_reducible first | exact HB.out | apply below_alloc | apply pw_below_drewN | apply below_drew1) | exact HB.out)) hb); clear HO283; clear HO285; clear HB; have HO283 := n0_; have HO285 := n1_; have HO290 := n2_; have HO292 := n3_; have HB := n4_; clear n0_ n1_ n2_ n3_ n4_; (try clear hb); (try clear hb2); (try clear hk); (try clear hi); (try clear ho0); (try clear ho1))))
          (try simp only [Act.put, List.setIfInBounds_toArray, List.set_cons_zero, List.set_cons_succ])
          go_cut [56] (fun v56 wc => ∃ (kq : Nat) (x56_12 : Bool), v56 = .bool x56_12 ∧ Aside0 (jitneylaw07_DiffShifts.j1 kq a2 a3 t279 t286 x56_12 = some r) ∧ Aside0 (kq ≤ kj6) ∧ Aside0 (Kd.R (Kd.int .i64) 2 wc w.heap.size (fun k_ => some k_ ≠ (v289 : Value).ownBlock) v282 t279) ∧ Aside0 (Kd.R (Kd.int .i64) 2 wc w.heap.size (fun k_ => some k_ ≠ (v282 : Value).ownBlock) v289 t286) ∧ Aside0 (Below w.heap.size w wc))
          case first =>
            have H := HC13.out
            clear HC13
            by_cases c16 : t281 = 0
            · rw [if_pos c16] at H
              have c16b0 : (t281 == 0) = true := beq_iff_eq.mpr c16
              have c16b1 : (t281 != 0) = false := bne_eq_false_iff_eq.mpr c16
              clear c16
              (first | rw [c16b0] | (simp only [i64_w, i32_w]; rw [c16b0]) | skip)
              by_cases c17 : t288 = 0
              · rw [if_pos c17] at H
                have c17b0 : (t288 == 0) = true := beq_iff_eq.mpr c17
                have c17b1 : (t288 != 0) = false := bne_eq_false_iff_eq.mpr c17
                clear c17
                by_cases c18 : (t280.length : Int) > 0
                · rw [if_pos c18] at H
                  have c18b0 : decide (0 < (t280.length : Int)) = true := decide_eq_true c18
                  have c18b1 : decide (0 < t280.length) = true := decide_eq_true (by omega)
                  clear c18
                  have H' := Aside0.mk H
                  clear H
                  obtain ⟨Ao19, co19, eo19⟩ := Kd.R_slice HO285.out
                  subst eo19
                  go_wp2
                  repeat (go_quiet (fail); try go_wp2)
                  go_meet
                  case rel => exact ⟨_, (true), (by first | rfl | (simp; done) | (simp [*]; done)), H', ⟨by have := HJ6.out; first | omega | exact Nat.le_refl _⟩, ⟨by (with_reducible repeat (first | apply Kd.R_alloc | apply Kd.R_drewN | apply Kd.R_drew)); exact Kd.R_mono HO283.out (fun _ hk => hk.2)⟩, ⟨by (with_reducible repeat (first | apply Kd.R_alloc | apply Kd.R_drewN | apply Kd.R_drew)); exact Kd.R_mono HO290.out (fun _ hk => hk.2)⟩, ⟨by repeat (first | (with_reducible first | exact HB.out | apply below_alloc | apply pw_below_drewN | apply below_drew1) | exact HB.out)⟩⟩
                · rw [if_neg c18] at H
                  have c18b0 : decide (0 < (t280.length : Int)) = false := decide_eq_false c18
                  have c18b1 : decide (0 < t280.length) = false := decide_eq_false (by omega)
                  clear c18
                  have H' := Aside0.mk H
                  clear H
                  obtain ⟨Ao20, co20, eo20⟩ := Kd.R_slice HO285.out
                  subst eo20
                  obtain ⟨Ao21, co21, eo21⟩ := Kd.R_slice HO292.out
                  subst eo21
                  go_wp2
                  repeat (go_quiet (fail); try go_wp2)
                  go_meet
                  case rel => exact ⟨_, (decide ((t287.length : Int) > 0)), (by first | rfl | (simp; done) | (simp [*]; done)), H', ⟨by have := HJ6.out; first | omega | exact Nat.le_refl _⟩, ⟨by (with_reducible repeat (first | apply Kd.R_alloc | apply Kd.R_drewN | apply Kd.R_drew)); exact Kd.R_mono HO283.out (fun _ hk => hk.2)⟩, ⟨by (with_reducible repeat (first | apply Kd.R_alloc | apply Kd.R_drewN | apply Kd.R_drew)); exact Kd.R_mono HO290.out (fun _ hk => hk.2)⟩, ⟨by repeat (first | (with_reducible first | exact HB.out | apply below_alloc | apply pw_below_drewN | apply below_drew1) | exact HB.out)⟩⟩
              · rw [if_neg c17] at H
                have c17b0 : (t288 == 0) = false := beq_eq_false_iff_ne.mpr c17
                have c17b1 : (t288 != 0) = true := bne_iff_ne.mpr c17
                have H' := Aside0.mk H
                clear H
                go_wp2
                repeat (go_quiet (fail); try go_wp2)
                go_meet
                case rel => exact ⟨_, (true), (by first | rfl | (simp; done) | (simp [*]; done)), H', ⟨by have := HJ6.out; first | omega | exact Nat.le_refl _⟩, ⟨by (with_reducible repeat (first | apply Kd.R_alloc | apply Kd.R_drewN | apply Kd.R_drew)); exact Kd.R_mono HO283.out (fun _ hk => hk.2)⟩, ⟨by (with_reducible repeat (first | apply Kd.R_alloc | apply Kd.R_drewN | apply Kd.R_drew)); exact Kd.R_mono HO290.out (fun _ hk => hk.2)⟩, ⟨by repeat (first | (with_reducible first | exact HB.out | apply below_alloc | apply pw_below_drewN | apply below_drew1) | exact HB.out)⟩⟩
            · rw [if_neg c16] at H
              have c16b0 : (t281 == 0) = false := beq_eq_false_iff_ne.mpr c16
              have c16b1 : (t281 != 0) = true := bne_iff_ne.mpr c16
              (first | rw [c16b0] | (simp only [i64_w, i32_w]; rw [c16b0]) | skip)
              have H' := Aside0.mk H
              clear H
              go_wp2
              repeat (go_quiet (fail); try go_wp2)
              go_meet
              case rel => exact ⟨_, (true), (by first | rfl | (simp; done) | (simp [*]; done)), H', ⟨by have := HJ6.out; first | omega | exact Nat.le_refl _⟩, ⟨by (with_reducible repeat (first | apply Kd.R_alloc | apply Kd.R_drewN | apply Kd.R_drew)); exact Kd.R_mono HO283.out (fun _ hk => hk.2)⟩, ⟨by (with_reducible repeat (first | apply Kd.R_alloc | apply Kd.R_drewN | apply Kd.R_drew)); exact Kd.R_mono HO290.out (fun _ hk => hk.2)⟩, ⟨by repeat (first | (with_reducible first | exact HB.out | apply below_alloc | apply pw_below_drewN | apply below_drew1) | exact HB.out)⟩⟩
          case rest =>
            clear HC13
            try clear c1
            try clear p2
            try clear c6
            try clear c7
            try clear c9
            try clear c9b0
            try clear c10
            try clear c16
            try clear c16b0
            try clear c16b1
            try clear c17
            try clear c17b0
            try clear c17b1
            try clear c18
            try clear c18b0
            try clear c18b1
            try clear p2
            obtain ⟨kq, x56_12, rfl, HA, HJ12, HO_9, HO_12, HB⟩ := hcut
            cases kq with
            | zero => exact absurd HA.out (by simp [jitneylaw07_DiffShifts.j1])
            | succ kj12 =>
              have H := HA.out
              clear HA
              simp only [jitneylaw07_DiffShifts.j1] at H
              by_cases c22 : x56_12 = true
              · subst c22
                have H1 : (some true) = some r := by rw [if_pos rfl] at H; exact H
                clear H
                have H := H1
                clear H1
                obtain rfl := Option.some.inj H
                go_wp2
                repeat (go_quiet (fail); try go_wp2)
                go_ret
                exact ⟨by first | rfl | (simp [errW_none, errW_some] <;> rfl) | (simp [*, errW_none, errW_some] <;> rfl), by repeat (first | (with_reducible first | exact HB.out | apply below_alloc | apply pw_below_drewN | apply below_drew1) | exact HB.out)⟩
              · replace c22 := Bool.eq_false_iff.mpr c22
                subst c22
                have H1 : (if 0 ≤ a2 then (if a2 < (t279.length : Int) then (if (rd t279 a2) = 0 then (if 0 ≤ a3 then (if a3 < (t286.length : Int) then (jitneylaw07_DiffShifts.j2 kj12 a3 t279 t286 ((rd t286 a3) != 0)) else (none)) else (none)) else (jitneylaw07_DiffShifts.j2 kj12 a3 t279 t286 true)) else (none)) else (none)) = some r := by rw [if_neg (show ¬ (false = true) by decide)] at H; exact H
                clear H
                have H := H1
                clear H1
                have HC23 := Aside0.mk H
                clear H
                go_upto_region 9 with (fail)
                repeat (go_quiet (fail); go_upto_region 9 with (fail))
                go_cut [68] (fun v68 wc => ∃ (kq : Nat) (x68_22 : Bool), v68 = .bool x68_22 ∧ Aside0 (jitneylaw07_DiffShifts.j2 kq a3 t279 t286 x68_22 = some r) ∧ Aside0 (kq ≤ kj12) ∧ Aside0 (Kd.R (Kd.int .i64) 2 wc w.heap.size (fun k_ => some k_ ≠ (v289 : Value).ownBlock) v282 t279) ∧ Aside0 (Kd.R (Kd.int .i64) 2 wc w.heap.size (fun k_ => some k_ ≠ (v282 : Value).ownBlock) v289 t286) ∧ Aside0 (Below w.heap.size w wc))
                case first =>
                  have H := HC23.out
                  clear HC23
                  by_cases c24 : 0 ≤ a2
                  · rw [if_pos c24] at H
                    have c24b0 : decide (0 ≤ a2) = true := decide_eq_true c24
                    clear c24
                    (first | rw [c24b0] | (simp only [i64_w, i32_w]; rw [c24b0]) | skip)
                    by_cases c25 : a2 < (t279.length : Int)
                    · rw [if_pos c25] at H
                      have c25b0 : decide (a2 < (t279.length : Int)) = true := decide_eq_true c25
                      clear c25
                      by_cases c26 : (rd t279 a2) = 0
                      · rw [if_pos c26] at H
                        have c26b0 : ((rd t279 a2) == 0) = true := beq_iff_eq.mpr c26
                        have c26b1 : ((rd t279 a2) != 0) = false := bne_eq_false_iff_eq.mpr c26
                        clear c26
                        by_cases c27 : 0 ≤ a3
                        · rw [if_pos c27] at H
                          have c27b0 : decide (0 ≤ a3) = true := decide_eq_true c27
                          clear c27
                          by_cases c28 : a3 < (t286.length : Int)
                          · rw [if_pos c28] at H
                            have c28b0 : decide (a3 < (t286.length : Int)) = true := decide_eq_true c28
                            clear c28
                            have H' := Aside0.mk H
                            clear H
                            obtain ⟨Ao29, co29, eo29⟩ := Kd.R_slice HO_9.out
                            subst eo29
                            have p293 : 0 ≤ (a2 : Int) := of_decide_eq_true (by first | (with_reducible assumption) | assumption)
                            have q293 : a2 < (t279.length : Int) := of_decide_eq_true (by first | (with_reducible assumption) | assumption)
                            obtain ⟨ad293, e293, hx293_0⟩ := Kd.at_int (Kd.R_reads' HO_9.out).2.2 a2 p293 q293
                            cases e293
                            replace p293 := eq_true p293
                            replace q293 := eq_true q293
                            obtain ⟨Ao30, co30, eo30⟩ := Kd.R_slice HO_12.out
                            subst eo30
                            have p294 : 0 ≤ (a3 : Int) := of_decide_eq_true (by first | (with_reducible assumption) | assumption)
                            have q294 : a3 < (t286.length : Int) := of_decide_eq_true (by first | (with_reducible assumption) | assumption)
                            obtain ⟨ad294, e294, hx294_0⟩ := Kd.at_int (Kd.R_reads' HO_12.out).2.2 a3 p294 q294
                            cases e294
                            replace p294 := eq_true p294
                            replace q294 := eq_true q294
                            go_wp2
                            repeat (go_quiet (fail); try go_wp2)
                            go_meet
                            case rel => exact ⟨_, (((rd t286 a3) != 0)), (by first | rfl | (simp; done) | (simp [*]; done)), H', ⟨by have := HJ6.out; have := HJ12.out; first | omega | exact Nat.le_refl _⟩, ⟨by (with_reducible repeat (first | apply Kd.R_alloc | apply Kd.R_drewN | apply Kd.R_drew)); exact HO_9.out⟩, ⟨by (with_reducible repeat (first | apply Kd.R_alloc | apply Kd.R_drewN | apply Kd.R_drew)); exact HO_12.out⟩, ⟨by repeat (first | (with_reducible first | exact HB.out | apply below_alloc | apply pw_below_drewN | apply below_drew1) | exact HB.out)⟩⟩
                          · rw [if_neg c28] at H
                            exact absurd H (by simp)
                        · rw [if_neg c27] at H
                          exact absurd H (by simp)
                      · rw [if_neg c26] at H
                        have c26b0 : ((rd t279 a2) == 0) = false := beq_eq_false_iff_ne.mpr c26
                        have c26b1 : ((rd t279 a2) != 0) = true := bne_iff_ne.mpr c26
                        have H' := Aside0.mk H
                        clear H
                        obtain ⟨Ao31, co31, eo31⟩ := Kd.R_slice HO_9.out
                        subst eo31
                        have p293 : 0 ≤ (a2 : Int) := of_decide_eq_true (by first | (with_reducible assumption) | assumption)
                        have q293 : a2 < (t279.length : Int) := of_decide_eq_true (by first | (with_reducible assumption) | assumption)
                        obtain ⟨ad293, e293, hx293_0⟩ := Kd.at_int (Kd.R_reads' HO_9.out).2.2 a2 p293 q293
                        cases e293
                        replace p293 := eq_true p293
                        replace q293 := eq_true q293
                        go_wp2
                        repeat (go_quiet (fail); try go_wp2)
                        go_meet
                        case rel => exact ⟨_, (true), (by first | rfl | (simp; done) | (simp [*]; done)), H', ⟨by have := HJ6.out; have := HJ12.out; first | omega | exact Nat.le_refl _⟩, ⟨by (with_reducible repeat (first | apply Kd.R_alloc | apply Kd.R_drewN | apply Kd.R_drew)); exact HO_9.out⟩, ⟨by (with_reducible repeat (first | apply Kd.R_alloc | apply Kd.R_drewN | apply Kd.R_drew)); exact HO_12.out⟩, ⟨by repeat (first | (with_reducible first | exact HB.out | apply below_alloc | apply pw_below_drewN | apply below_drew1) | exact HB.out)⟩⟩
                    · rw [if_neg c25] at H
                      exact absurd H (by simp)
                  · rw [if_neg c24] at H
                    exact absurd H (by simp)
                case rest =>
                  clear HC23
                  try clear c1
                  try clear c2
                  try clear p2
                  try clear q2
                  try clear hx2
                  try clear c6
                  try clear c7
                  try clear c9
                  try clear c9b0
                  try clear c10
                  try clear c16
                  try clear c16b0
                  try clear c16b1
                  try clear c17
                  try clear c17b0
                  try clear c17b1
                  try clear c18
                  try clear c18b0
                  try clear c18b1
                  try clear c22
                  try clear c24
                  try clear c24b0
                  try clear c25
                  try clear c25b0
                  try clear c26
                  try clear c26b0
                  try clear c26b1
                  try clear c27
                  try clear c27b0
                  try clear c28
                  try clear c28b0
                  try clear p29
                  try clear q29
                  try clear hx29
                  try clear hx293_0
                  try clear hx294_0
                  try clear p2
                  try clear p293
                  try clear p294
                  try clear q293
                  try clear q294
                  obtain ⟨kq, x68_22, rfl, HA, HJ22, HO_9, HO_12, HB⟩ := hcut
                  cases kq with
                  | zero => exact absurd HA.out (by simp [jitneylaw07_DiffShifts.j2])
                  | succ kj22 =>
                    have H := HA.out
                    clear HA
                    simp only [jitneylaw07_DiffShifts.j2] at H
                    by_cases c32 : x68_22 = true
                    · subst c32
                      have H1 : (some false) = some r := by rw [if_pos rfl] at H; exact H
                      clear H
                      have H := H1
                      clear H1
                      obtain rfl := Option.some.inj H
                      go_wp2
                      repeat (go_quiet (fail); try go_wp2)
                      go_ret
                      exact ⟨by first | rfl | (simp [errW_none, errW_some] <;> rfl) | (simp [*, errW_none, errW_some] <;> rfl), by repeat (first | (with_reducible first | exact HB.out | apply below_alloc | apply pw_below_drewN | apply below_drew1) | exact HB.out)⟩
                    · replace c32 := Bool.eq_false_iff.mpr c32
                      subst c32
                      have H1 : (jitneylaw07_DiffShifts.l0 kj22 a3 t279 t286 (t279.length : Int) 0) = some r := by rw [if_neg (show ¬ (false = true) by decide)] at H; exact H
                      clear H
                      have H := H1
                      clear H1
                      have H' := Aside0.mk H
                      clear H
                      obtain ⟨Ao33, co33, eo33⟩ := Kd.R_slice HO_9.out
                      subst eo33
                      go_wp2
                      repeat (go_quiet (fail); try go_wp2)
                      go_loopg [71] kj22 (fun kq v71 w' => ∃ (x71_4 : Int), v71 = .int .i64 x71_4 ∧ Aside0 (jitneylaw07_DiffShifts.l0 kq a3 t279 t286 (t279.length : Int) x71_4 = some r) ∧ Aside0 (kq ≤ kj22) ∧ Aside0 (Kd.R (Kd.int .i64) 2 w' w.heap.size (fun k_ => some k_ ≠ (v289 : Value).ownBlock) (.slice Ao33 t279.length co33) t279) ∧ Aside0 (Kd.R (Kd.int .i64) 2 w' w.heap.size (fun k_ => some k_ ≠ ((.slice Ao33 t279.length co33) : Value).ownBlock) v289 t286) ∧ Aside0 (Below w.heap.size w w'))
                      case atStart => exact ⟨(0), (by first | rfl | (simp; done) | (simp [*]; done)), H', ⟨Nat.le_refl _⟩, ⟨by (with_reducible repeat (first | apply Kd.R_alloc | apply Kd.R_drewN | apply Kd.R_drew)); exact HO_9.out⟩, ⟨by (with_reducible repeat (first | apply Kd.R_alloc | apply Kd.R_drewN | apply Kd.R_drew)); exact HO_12.out⟩, ⟨by repeat (first | (with_reducible first | exact HB.out | apply below_alloc | apply pw_below_drewN | apply below_drew1) | exact HB.out)⟩⟩
                      case round =>
                        clear H'
                        try clear c1
                        try clear c2
                        try clear p2
                        try clear q2
                        try clear hx2
                        try clear c3
                        try clear c6
                        try clear c7
                        try clear c9
                        try clear c9b0
                        try clear c10
                        try clear c16
                        try clear c16b0
                        try clear c16b1
                        try clear c17
                        try clear c17b0
                        try clear c17b1
                        try clear c18
                        try clear c18b0
                        try clear c18b1
                        try clear c22
                        try clear c24
                        try clear c24b0
                        try clear c25
                        try clear c25b0
                        try clear c26
                        try clear c26b0
                        try clear c26b1
                        try clear c27
                        try clear c27b0
                        try clear c28
                        try clear c28b0
                        try clear p29
                        try clear q29
                        try clear hx29
                        try clear c32
                        try clear hx293_0
                        try clear hx294_0
                        try clear p2
                        try clear p29
                        try clear p293
                        try clear p294
                        try clear q2
                        try clear q29
                        try clear q293
                        try clear q294
                        obtain ⟨x71_4, rfl, HA, HK4, HO_9, HO_12, HB⟩ := hrel
                        cases gk with
                        | zero => exact absurd HA.out (by simp [jitneylaw07_DiffShifts.l0])
                        | succ k4 =>
                          have H := HA.out
                          clear HA
                          simp only [jitneylaw07_DiffShifts.l0] at H
                          by_cases c34 : x71_4 < (t279.length : Int)
                          · rw [if_pos c34] at H
                            have c34b0 : decide (x71_4 < (t279.length : Int)) = true := decide_eq_true c34
                            clear c34
                            by_cases c35 : 0 ≤ a3
                            · rw [if_pos c35] at H
                              have c35b0 : decide (0 ≤ a3) = true := decide_eq_true c35
                              clear c35
                              by_cases c36 : a3 < (t279.length : Int)
                              · rw [if_pos c36] at H
                                have c36b0 : decide (a3 < (t279.length : Int)) = true := decide_eq_true c36
                                clear c36
                                by_cases c37 : (rd t279 a3) = 1152921504606846976
                                · rw [if_pos c37] at H
                                  have c37b0 : ((rd t279 a3) == 1152921504606846976) = true := beq_iff_eq.mpr c37
                                  have c37b1 : ((rd t279 a3) != 1152921504606846976) = false := bne_eq_false_iff_eq.mpr c37
                                  clear c37
                                  have H' := Aside0.mk H
                                  clear H
                                  have p295 : 0 ≤ (a3 : Int) := of_decide_eq_true (by first | (with_reducible assumption) | assumption)
                                  have q295 : a3 < (t279.length : Int) := of_decide_eq_true (by first | (with_reducible assumption) | assumption)
                                  obtain ⟨ad295, e295, hx295_0⟩ := Kd.at_int (Kd.R_reads' HO_9.out).2.2 a3 p295 q295
                                  cases e295
                                  replace p295 := eq_true p295
                                  replace q295 := eq_true q295
                                  go_wp2
                                  repeat (go_quiet (fail); try go_wp2)
                                  go_roundg k4
                                  case measure => have := HJ6.out; have := HJ12.out; have := HJ22.out; have := HK4.out; omega
                                  case rel => exact ⟨(wrap64 (x71_4 + 1)), (by first | rfl | (simp; done) | (simp [*]; done)), H', ⟨by have := HJ6.out; have := HJ12.out; have := HJ22.out; have := HK4.out; omega⟩, ⟨by (with_reducible repeat (first | apply Kd.R_alloc | apply Kd.R_drewN | apply Kd.R_drew)); exact HO_9.out⟩, ⟨by (with_reducible repeat (first | apply Kd.R_alloc | apply Kd.R_drewN | apply Kd.R_drew)); exact HO_12.out⟩, ⟨by repeat (first | (with_reducible first | exact HB.out | apply below_alloc | apply pw_below_drewN | apply below_drew1) | exact HB.out)⟩⟩
                                · rw [if_neg c37] at H
                                  have c37b0 : ((rd t279 a3) == 1152921504606846976) = false := beq_eq_false_iff_ne.mpr c37
                                  have c37b1 : ((rd t279 a3) != 1152921504606846976) = true := bne_iff_ne.mpr c37
                                  by_cases c38 : 0 ≤ x71_4
                                  · rw [if_pos c38] at H
                                    have c38b0 : decide (0 ≤ x71_4) = true := decide_eq_true c38
                                    clear c38
                                    by_cases c39 : x71_4 < (t286.length : Int)
                                    · rw [if_pos c39] at H
                                      have c39b0 : decide (x71_4 < (t286.length : Int)) = true := decide_eq_true c39
                                      clear c39
                                      by_cases c40 : (rd t286 x71_4) = 1152921504606846976
                                      · rw [if_pos c40] at H
                                        have c40b0 : ((rd t286 x71_4) == 1152921504606846976) = true := beq_iff_eq.mpr c40
                                        have c40b1 : ((rd t286 x71_4) != 1152921504606846976) = false := bne_eq_false_iff_eq.mpr c40
                                        clear c40
                                        have H' := Aside0.mk H
                                        clear H
                                        have p295 : 0 ≤ (a3 : Int) := of_decide_eq_true (by first | (with_reducible assumption) | assumption)
                                        have q295 : a3 < (t279.length : Int) := of_decide_eq_true (by first | (with_reducible assumption) | assumption)
                                        obtain ⟨ad295, e295, hx295_0⟩ := Kd.at_int (Kd.R_reads' HO_9.out).2.2 a3 p295 q295
                                        cases e295
                                        replace p295 := eq_true p295
                                        replace q295 := eq_true q295
                                        obtain ⟨Ao41, co41, eo41⟩ := Kd.R_slice HO_12.out
                                        subst eo41
                                        have p296 : 0 ≤ (x71_4 : Int) := of_decide_eq_true (by first | (with_reducible assumption) | assumption)
                                        have q296 : x71_4 < (t286.length : Int) := of_decide_eq_true (by first | (with_reducible assumption) | assumption)
                                        obtain ⟨ad296, e296, hx296_0⟩ := Kd.at_int (Kd.R_reads' HO_12.out).2.2 x71_4 p296 q296
                                        cases e296
                                        replace p296 := eq_true p296
                                        replace q296 := eq_true q296
                                        go_wp2
                                        repeat (go_quiet (fail); try go_wp2)
                                        go_roundg k4
                                        case measure => have := HJ6.out; have := HJ12.out; have := HJ22.out; have := HK4.out; omega
                                        case rel => exact ⟨(wrap64 (x71_4 + 1)), (by first | rfl | (simp; done) | (simp [*]; done)), H', ⟨by have := HJ6.out; have := HJ12.out; have := HJ22.out; have := HK4.out; omega⟩, ⟨by (with_reducible repeat (first | apply Kd.R_alloc | apply Kd.R_drewN | apply Kd.R_drew)); exact HO_9.out⟩, ⟨by (with_reducible repeat (first | apply Kd.R_alloc | apply Kd.R_drewN | apply Kd.R_drew)); exact HO_12.out⟩, ⟨by repeat (first | (with_reducible first | exact HB.out | apply below_alloc | apply pw_below_drewN | apply below_drew1) | exact HB.out)⟩⟩
                                      · rw [if_neg c40] at H
                                        have c40b0 : ((rd t286 x71_4) == 1152921504606846976) = false := beq_eq_false_iff_ne.mpr c40
                                        have c40b1 : ((rd t286 x71_4) != 1152921504606846976) = true := bne_iff_ne.mpr c40
                                        by_cases c42 : x71_4 < (t279.length : Int)
                                        · rw [if_pos c42] at H
                                          have c42b0 : decide (x71_4 < (t279.length : Int)) = true := decide_eq_true c42
                                          clear c42
                                          by_cases c43 : (rd t279 x71_4) = 1152921504606846976
                                          · rw [if_pos c43] at H
                                            have c43b0 : ((rd t279 x71_4) == 1152921504606846976) = true := beq_iff_eq.mpr c43
                                            have c43b1 : ((rd t279 x71_4) != 1152921504606846976) = false := bne_eq_false_iff_eq.mpr c43
                                            clear c43
                                            obtain rfl := Option.some.inj H
                                            have p295 : 0 ≤ (a3 : Int) := of_decide_eq_true (by first | (with_reducible assumption) | assumption)
                                            have q295 : a3 < (t279.length : Int) := of_decide_eq_true (by first | (with_reducible assumption) | assumption)
                                            obtain ⟨ad295, e295, hx295_0⟩ := Kd.at_int (Kd.R_reads' HO_9.out).2.2 a3 p295 q295
                                            cases e295
                                            replace p295 := eq_true p295
                                            replace q295 := eq_true q295
                                            obtain ⟨Ao44, co44, eo44⟩ := Kd.R_slice HO_12.out
                                            subst eo44
                                            have p296 : 0 ≤ (x71_4 : Int) := of_decide_eq_true (by first | (with_reducible assumption) | assumption)
                                            have q296 : x71_4 < (t286.length : Int) := of_decide_eq_true (by first | (with_reducible assumption) | assumption)
                                            obtain ⟨ad296, e296, hx296_0⟩ := Kd.at_int (Kd.R_reads' HO_12.out).2.2 x71_4 p296 q296
                                            cases e296
                                            replace p296 := eq_true p296
                                            replace q296 := eq_true q296
                                            have p297 : 0 ≤ (x71_4 : Int) := of_decide_eq_true (by first | (with_reducible assumption) | assumption)
                                            have q297 : x71_4 < (t279.length : Int) := of_decide_eq_true (by first | (with_reducible assumption) | assumption)
                                            obtain ⟨ad297, e297, hx297_0⟩ := Kd.at_int (Kd.R_reads' HO_9.out).2.2 x71_4 p297 q297
                                            obtain rfl : ad295 = ad297 := (by injection e297)
                                            replace p297 := eq_true p297
                                            replace q297 := eq_true q297
                                            go_wp2
                                            repeat (go_quiet (fail); try go_wp2)
                                            go_ret
                                            exact ⟨by first | rfl | (simp [errW_none, errW_some] <;> rfl) | (simp [*, errW_none, errW_some] <;> rfl), by repeat (first | (with_reducible first | exact HB.out | apply below_alloc | apply pw_below_drewN | apply below_drew1) | exact HB.out)⟩
                                          · rw [if_neg c43] at H
                                            have c43b0 : ((rd t279 x71_4) == 1152921504606846976) = false := beq_eq_false_iff_ne.mpr c43
                                            have c43b1 : ((rd t279 x71_4) != 1152921504606846976) = true := bne_iff_ne.mpr c43
                                            by_cases c45 : (rd t279 x71_4) > (wrap64 ((rd t279 a3) + (rd t286 x71_4)))
                                            · rw [if_pos c45] at H
                                              have c45b0 : decide ((wrap64 ((rd t279 a3) + (rd t286 x71_4))) < (rd t279 x71_4)) = true := decide_eq_true c45
                                              clear c45
                                              obtain rfl := Option.some.inj H
                                              have p295 : 0 ≤ (a3 : Int) := of_decide_eq_true (by first | (with_reducible assumption) | assumption)
                                              have q295 : a3 < (t279.length : Int) := of_decide_eq_true (by first | (with_reducible assumption) | assumption)
                                              obtain ⟨ad295, e295, hx295_0⟩ := Kd.at_int (Kd.R_reads' HO_9.out).2.2 a3 p295 q295
                                              cases e295
                                              replace p295 := eq_true p295
                                              replace q295 := eq_true q295
                                              obtain ⟨Ao46, co46, eo46⟩ := Kd.R_slice HO_12.out
                                              subst eo46
                                              have p296 : 0 ≤ (x71_4 : Int) := of_decide_eq_true (by first | (with_reducible assumption) | assumption)
                                              have q296 : x71_4 < (t286.length : Int) := of_decide_eq_true (by first | (with_reducible assumption) | assumption)
                                              obtain ⟨ad296, e296, hx296_0⟩ := Kd.at_int (Kd.R_reads' HO_12.out).2.2 x71_4 p296 q296
                                              cases e296
                                              replace p296 := eq_true p296
                                              replace q296 := eq_true q296
                                              have p297 : 0 ≤ (x71_4 : Int) := of_decide_eq_true (by first | (with_reducible assumption) | assumption)
                                              have q297 : x71_4 < (t279.length : Int) := of_decide_eq_true (by first | (with_reducible assumption) | assumption)
                                              obtain ⟨ad297, e297, hx297_0⟩ := Kd.at_int (Kd.R_reads' HO_9.out).2.2 x71_4 p297 q297
                                              obtain rfl : ad295 = ad297 := (by injection e297)
                                              replace p297 := eq_true p297
                                              replace q297 := eq_true q297
                                              have p298 : 0 ≤ (x71_4 : Int) := of_decide_eq_true (by first | (with_reducible assumption) | assumption)
                                              have q298 : x71_4 < (t279.length : Int) := of_decide_eq_true (by first | (with_reducible assumption) | assumption)
                                              obtain ⟨ad298, e298, hx298_0⟩ := Kd.at_int (Kd.R_reads' HO_9.out).2.2 x71_4 p298 q298
                                              obtain rfl : ad295 = ad298 := (by injection e298)
                                              replace p298 := eq_true p298
                                              replace q298 := eq_true q298
                                              have p299 : 0 ≤ (a3 : Int) := of_decide_eq_true (by first | (with_reducible assumption) | assumption)
                                              have q299 : a3 < (t279.length : Int) := of_decide_eq_true (by first | (with_reducible assumption) | assumption)
                                              obtain ⟨ad299, e299, hx299_0⟩ := Kd.at_int (Kd.R_reads' HO_9.out).2.2 a3 p299 q299
                                              obtain rfl : ad295 = ad299 := (by injection e299)
                                              replace p299 := eq_true p299
                                              replace q299 := eq_true q299
                                              have p300 : 0 ≤ (x71_4 : Int) := of_decide_eq_true (by first | (with_reducible assumption) | assumption)
                                              have q300 : x71_4 < (t286.length : Int) := of_decide_eq_true (by first | (with_reducible assumption) | assumption)
                                              obtain ⟨ad300, e300, hx300_0⟩ := Kd.at_int (Kd.R_reads' HO_12.out).2.2 x71_4 p300 q300
                                              obtain rfl : ad296 = ad300 := (by injection e300)
                                              replace p300 := eq_true p300
                                              replace q300 := eq_true q300
                                              go_wp2
                                              repeat (go_quiet (fail); try go_wp2)
                                              go_ret
                                              exact ⟨by first | rfl | (simp [errW_none, errW_some] <;> rfl) | (simp [*, errW_none, errW_some] <;> rfl), by repeat (first | (with_reducible first | exact HB.out | apply below_alloc | apply pw_below_drewN | apply below_drew1) | exact HB.out)⟩
                                            · rw [if_neg c45] at H
                                              have c45b0 : decide ((wrap64 ((rd t279 a3) + (rd t286 x71_4))) < (rd t279 x71_4)) = false := decide_eq_false c45
                                              clear c45
                                              have H' := Aside0.mk H
                                              clear H
                                              have p295 : 0 ≤ (a3 : Int) := of_decide_eq_true (by first | (with_reducible assumption) | assumption)
                                              have q295 : a3 < (t279.length : Int) := of_decide_eq_true (by first | (with_reducible assumption) | assumption)
                                              obtain ⟨ad295, e295, hx295_0⟩ := Kd.at_int (Kd.R_reads' HO_9.out).2.2 a3 p295 q295
                                              cases e295
                                              replace p295 := eq_true p295
                                              replace q295 := eq_true q295
                                              obtain ⟨Ao47, co47, eo47⟩ := Kd.R_slice HO_12.out
                                              subst eo47
                                              have p296 : 0 ≤ (x71_4 : Int) := of_decide_eq_true (by first | (with_reducible assumption) | assumption)
                                              have q296 : x71_4 < (t286.length : Int) := of_decide_eq_true (by first | (with_reducible assumption) | assumption)
                                              obtain ⟨ad296, e296, hx296_0⟩ := Kd.at_int (Kd.R_reads' HO_12.out).2.2 x71_4 p296 q296
                                              cases e296
                                              replace p296 := eq_true p296
                                              replace q296 := eq_true q296
                                              have p297 : 0 ≤ (x71_4 : Int) := of_decide_eq_true (by first | (with_reducible assumption) | assumption)
                                              have q297 : x71_4 < (t279.length : Int) := of_decide_eq_true (by first | (with_reducible assumption) | assumption)
                                              obtain ⟨ad297, e297, hx297_0⟩ := Kd.at_int (Kd.R_reads' HO_9.out).2.2 x71_4 p297 q297
                                              obtain rfl : ad295 = ad297 := (by injection e297)
                                              replace p297 := eq_true p297
                                              replace q297 := eq_true q297
                                              have p298 : 0 ≤ (x71_4 : Int) := of_decide_eq_true (by first | (with_reducible assumption) | assumption)
                                              have q298 : x71_4 < (t279.length : Int) := of_decide_eq_true (by first | (with_reducible assumption) | assumption)
                                              obtain ⟨ad298, e298, hx298_0⟩ := Kd.at_int (Kd.R_reads' HO_9.out).2.2 x71_4 p298 q298
                                              obtain rfl : ad295 = ad298 := (by injection e298)
                                              replace p298 := eq_true p298
                                              replace q298 := eq_true q298
                                              have p299 : 0 ≤ (a3 : Int) := of_decide_eq_true (by first | (with_reducible assumption) | assumption)
                                              have q299 : a3 < (t279.length : Int) := of_decide_eq_true (by first | (with_reducible assumption) | assumption)
                                              obtain ⟨ad299, e299, hx299_0⟩ := Kd.at_int (Kd.R_reads' HO_9.out).2.2 a3 p299 q299
                                              obtain rfl : ad295 = ad299 := (by injection e299)
                                              replace p299 := eq_true p299
                                              replace q299 := eq_true q299
                                              have p300 : 0 ≤ (x71_4 : Int) := of_decide_eq_true (by first | (with_reducible assumption) | assumption)
                                              have q300 : x71_4 < (t286.length : Int) := of_decide_eq_true (by first | (with_reducible assumption) | assumption)
                                              obtain ⟨ad300, e300, hx300_0⟩ := Kd.at_int (Kd.R_reads' HO_12.out).2.2 x71_4 p300 q300
                                              obtain rfl : ad296 = ad300 := (by injection e300)
                                              replace p300 := eq_true p300
                                              replace q300 := eq_true q300
                                              go_wp2
                                              repeat (go_quiet (fail); try go_wp2)
                                              go_roundg k4
                                              case measure => have := HJ6.out; have := HJ12.out; have := HJ22.out; have := HK4.out; omega
                                              case rel => exact ⟨(wrap64 (x71_4 + 1)), (by first | rfl | (simp; done) | (simp [*]; done)), H', ⟨by have := HJ6.out; have := HJ12.out; have := HJ22.out; have := HK4.out; omega⟩, ⟨by (with_reducible repeat (first | apply Kd.R_alloc | apply Kd.R_drewN | apply Kd.R_drew)); exact HO_9.out⟩, ⟨by (with_reducible repeat (first | apply Kd.R_alloc | apply Kd.R_drewN | apply Kd.R_drew)); exact HO_12.out⟩, ⟨by repeat (first | (with_reducible first | exact HB.out | apply below_alloc | apply pw_below_drewN | apply below_drew1) | exact HB.out)⟩⟩
                                        · rw [if_neg c42] at H
                                          exact absurd H (by simp)
                                    · rw [if_neg c39] at H
                                      exact absurd H (by simp)
                                  · rw [if_neg c38] at H
                                    exact absurd H (by simp)
                              · rw [if_neg c36] at H
                                exact absurd H (by simp)
                            · rw [if_neg c35] at H
                              exact absurd H (by simp)
                          · rw [if_neg c34] at H
                            have c34b0 : decide (x71_4 < (t279.length : Int)) = false := decide_eq_false c34
                            clear c34
                            obtain rfl := Option.some.inj H
                            go_wp2
                            repeat (go_quiet (fail); try go_wp2)
                            go_ret
                            exact ⟨by first | rfl | (simp [errW_none, errW_some] <;> rfl) | (simp [*, errW_none, errW_some] <;> rfl), by repeat (first | (with_reducible first | exact HB.out | apply below_alloc | apply pw_below_drewN | apply below_drew1) | exact HB.out)⟩
  · replace c6 := Bool.eq_false_iff.mpr c6
    subst c6
    have H1 : (some false) = some r := by rw [if_neg (show ¬ (false = true) by decide)] at H; exact H
    clear H
    have H := H1
    clear H1
    obtain rfl := Option.some.inj H
    go_enter Try.func7, Try.ntmps7
    go_wp2_with (first | (go_at_call 8; (with_reducible refine (jitneylaw07_alive.calls  false _ A5.out).mono ?_); rintro e w48 ⟨rfl, hb⟩; have n0_ := Aside0.mk (below_step (by repeat (first | (with_reducible first | exact HB.out | apply below_alloc | apply pw_below_drewN | apply below_drew1) | exact HB.out)) hb); clear HB; have HB := n0_; clear n0_; (try clear hb); (try clear hb2); (try clear hk); (try clear hi)))
    repeat (go_quiet (first | (go_at_call 8; (with_reducible refine (jitneylaw07_alive.calls  false _ A5.out).mono ?_); rintro e w48 ⟨rfl, hb⟩; have n0_ := Aside0.mk (below_step (by repeat (first | (with_reducible first | exact HB.out | apply below_alloc | apply pw_below_drewN | apply below_drew1) | exact HB.out)) hb); clear HB; have HB := n0_; clear n0_; (try clear hb); (try clear hb2); (try clear hk); (try clear hi))); try go_wp2_with (first | (go_at_call 8; (with_reducible refine (jitneylaw07_alive.calls  false _ A5.out).mono ?_); rintro e w48 ⟨rfl, hb⟩; have n0_ := Aside0.mk (below_step (by repeat (first | (with_reducible first | exact HB.out | apply below_alloc | apply pw_below_drewN | apply below_drew1) | exact HB.out)) hb); clear HB; have HB := n0_; clear n0_; (try clear hb); (try clear hb2); (try clear hk); (try clear hi))))
    go_ret
    exact ⟨by first | rfl | (simp [errW_none, errW_some] <;> rfl) | (simp [*, errW_none, errW_some] <;> rfl), by repeat (first | (with_reducible first | exact HB.out | apply below_alloc | apply pw_below_drewN | apply below_drew1) | exact HB.out)⟩

end Go.Proofs.Ytenjncmljmgcdaa.P
