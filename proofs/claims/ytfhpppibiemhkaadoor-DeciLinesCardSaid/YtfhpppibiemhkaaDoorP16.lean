-- printed by the session's own program wip/xprint.py (over the kit's printer); nothing here is trusted: Lean checks it
import Derived.Test.YtfhpppibiemhkaaDoorStr
import Derived.Test.YtfhpppibiemhkaaDoorP0
import Derived.Test.YtfhpppibiemhkaaDoorP3
import Derived.Test.YtfhpppibiemhkaaDoorP9
import Derived.Test.YtfhpppibiemhkaaDoorP12
import Derived.Test.YtfhpppibiemhkaaDoorP13
import Derived.Test.YtfhpppibiemhkaaDoorP14
namespace Go.Proofs.YtfhpppibiemhkaaDoor.P
open Go.Proofs.YtfhpppibiemhkaaDoorR
open Go.RowKit Go.Proofs.YtfhpppibiemhkaaDoorW.PrintWords Go.Proofs.YtfhpppibiemhkaaDoorW.PrintLast Go.Proofs.YtfhpppibiemhkaaDoorW.PrintMore
attribute [local go_sem] max2_int min2_int max_two min_two max_three min_three max_four min_four   -- for this text's walks alone
set_option linter.unusedVariables false
set_option linter.unusedSimpArgs false

/-! ### jitneylaw03_DeciScales: function 5 -/
mutual
def jitneylaw03_DeciScales.j0 : Nat → Int → Int → Bool → Option (Bool)
  | 0, _, _, _ => none
  | k + 1, x0, x1, x43 => if x43 = true then (some false) else (jitneylaw03_DeciScales.l0 k x1 (Int.tmod x0 1000) (Int.tmod x0 1000) x1 0)
def jitneylaw03_DeciScales.l0 : Nat → Int → Int → Int → Int → Int → Option (Bool)
  | 0, _, _, _, _, _ => none
  | k + 1, x1, x8, x9, x47, x48 => if x48 < x47 then (jitneylaw03_DeciScales.l0 k x1 x8 (wrap64 (x9 * 10)) x47 (wrap64 (x48 + 1))) else ((deci_Write.f k x9 x1).bind fun t227 => ((deci_Write.f k x8 0).bind fun t228 => (some (t227.toList == t228.toList))))
end
def jitneylaw03_DeciScales.f (k : Nat) (a0 : Int) (a1 : Int) : Option (Bool) := (jitneylaw03_alive.f k).bind fun t222 => (if t222 = true then (if (Go.bits .and .i64 a1 7) > 5 then (some true) else ((deci_Write.f k (Int.tmod a0 68719476736) (Go.bits .and .i64 a1 7)).bind fun t223 => ((deci_Read.f k t223 (wrap64 ((Go.bits .and .i64 a1 7) + 1))).bind fun bt224 => (if bt224.2 = 0 then (if bt224.1 = (wrap64 (10 * (Int.tmod a0 68719476736))) then ((deci_Write.f k bt224.1 (wrap64 ((Go.bits .and .i64 a1 7) + 1))).bind fun t226 => (jitneylaw03_DeciScales.j0 k (Int.tmod a0 68719476736) (Go.bits .and .i64 a1 7) (t226.toList != t223.toList))) else (jitneylaw03_DeciScales.j0 k (Int.tmod a0 68719476736) (Go.bits .and .i64 a1 7) true)) else (jitneylaw03_DeciScales.j0 k (Int.tmod a0 68719476736) (Go.bits .and .i64 a1 7) true))))) else (some false))
theorem jitneylaw03_DeciScales.mono_l : ∀ k, (∀ y0 y1 y2, LeO (jitneylaw03_DeciScales.j0 k y0 y1 y2) (jitneylaw03_DeciScales.j0 (k + 1) y0 y1 y2)) ∧ (∀ y0 y1 y2 y3 y4, LeO (jitneylaw03_DeciScales.l0 k y0 y1 y2 y3 y4) (jitneylaw03_DeciScales.l0 (k + 1) y0 y1 y2 y3 y4))
  | 0 => ⟨fun _ _ _ r h => by simp [jitneylaw03_DeciScales.j0] at h, fun _ _ _ _ _ r h => by simp [jitneylaw03_DeciScales.l0] at h⟩
  | k + 1 => by
    obtain ⟨ih0, ih1⟩ := jitneylaw03_DeciScales.mono_l k
    refine ⟨?_, ?_⟩
    · intro y0 y1 y2
      unfold jitneylaw03_DeciScales.j0
      repeat' first
      | (with_reducible exact ih0 _ _ _)
      | (with_reducible exact ih1 _ _ _ _ _)
      | (with_reducible exact deci_Read.mono _ _ _)
      | (with_reducible exact deci_Write.mono _ _ _)
      | (with_reducible exact jitneylaw03_alive.mono _)
      | (with_reducible exact LeO.refl _)
      | (with_reducible exact LeO.none _)
      | (with_reducible refine LeO.ite ?_ ?_)
      | (with_reducible refine LeO.bind ?_ (fun _ => ?_))
      | exact ih0 _ _ _
      | exact ih1 _ _ _ _ _
      | exact deci_Read.mono _ _ _
      | exact deci_Write.mono _ _ _
      | exact jitneylaw03_alive.mono _
      | exact LeO.none _
      | refine LeO.ite ?_ ?_
      | refine LeO.bind ?_ (fun _ => ?_)
    · intro y0 y1 y2 y3 y4
      unfold jitneylaw03_DeciScales.l0
      repeat' first
      | (with_reducible exact ih0 _ _ _)
      | (with_reducible exact ih1 _ _ _ _ _)
      | (with_reducible exact deci_Read.mono _ _ _)
      | (with_reducible exact deci_Write.mono _ _ _)
      | (with_reducible exact jitneylaw03_alive.mono _)
      | (with_reducible exact LeO.refl _)
      | (with_reducible exact LeO.none _)
      | (with_reducible refine LeO.ite ?_ ?_)
      | (with_reducible refine LeO.bind ?_ (fun _ => ?_))
      | exact ih0 _ _ _
      | exact ih1 _ _ _ _ _
      | exact deci_Read.mono _ _ _
      | exact deci_Write.mono _ _ _
      | exact jitneylaw03_alive.mono _
      | exact LeO.none _
      | refine LeO.ite ?_ ?_
      | refine LeO.bind ?_ (fun _ => ?_)
theorem jitneylaw03_DeciScales.mono : ∀ a0 a1 k, LeO (jitneylaw03_DeciScales.f k a0 a1) (jitneylaw03_DeciScales.f (k + 1) a0 a1) := by
  intro a0 a1 k
  obtain ⟨ih0, ih1⟩ := jitneylaw03_DeciScales.mono_l k
  unfold jitneylaw03_DeciScales.f
  repeat' first
      | (with_reducible exact ih0 _ _ _)
      | (with_reducible exact ih1 _ _ _ _ _)
      | (with_reducible exact deci_Read.mono _ _ _)
      | (with_reducible exact deci_Write.mono _ _ _)
      | (with_reducible exact jitneylaw03_alive.mono _)
      | (with_reducible exact LeO.refl _)
      | (with_reducible exact LeO.none _)
      | (with_reducible refine LeO.ite ?_ ?_)
      | (with_reducible refine LeO.bind ?_ (fun _ => ?_))
      | exact ih0 _ _ _
      | exact ih1 _ _ _ _ _
      | exact deci_Read.mono _ _ _
      | exact deci_Write.mono _ _ _
      | exact jitneylaw03_alive.mono _
      | exact LeO.none _
      | refine LeO.ite ?_ ?_
      | refine LeO.bind ?_ (fun _ => ?_)
set_option maxHeartbeats 8000000 in
set_option maxRecDepth 100000 in
theorem jitneylaw03_DeciScales.calls (k : Nat) (a0 : Int) (a1 : Int) (r : Bool) (w : World) (h : jitneylaw03_DeciScales.f k a0 a1 = some r) (hG : GW w) :
    Calls Tryd.prog 5 #[.int .i64 a0, .int .i64 a1] w fun e w' => e = .returned (.bool r) ∧ Below w.heap.size w w' := by
  have HB := Aside0.mk (Below.refl w.heap.size w)
  have H : ((jitneylaw03_alive.f k).bind fun t222 => (if t222 = true then (if (Go.bits .and .i64 a1 7) > 5 then (some true) else ((deci_Write.f k (Int.tmod a0 68719476736) (Go.bits .and .i64 a1 7)).bind fun t223 => ((deci_Read.f k t223 (wrap64 ((Go.bits .and .i64 a1 7) + 1))).bind fun bt224 => (if bt224.2 = 0 then (if bt224.1 = (wrap64 (10 * (Int.tmod a0 68719476736))) then ((deci_Write.f k bt224.1 (wrap64 ((Go.bits .and .i64 a1 7) + 1))).bind fun t226 => (jitneylaw03_DeciScales.j0 k (Int.tmod a0 68719476736) (Go.bits .and .i64 a1 7) (t226.toList != t223.toList))) else (jitneylaw03_DeciScales.j0 k (Int.tmod a0 68719476736) (Go.bits .and .i64 a1 7) true)) else (jitneylaw03_DeciScales.j0 k (Int.tmod a0 68719476736) (Go.bits .and .i64 a1 7) true))))) else (some false))) = some r := h
  clear h
  replace H := Option.bind_eq_some_iff.mp H
  obtain ⟨t222, A30, H⟩ := H
  replace H : (if t222 = true then (if (Go.bits .and .i64 a1 7) > 5 then (some true) else ((deci_Write.f k (Int.tmod a0 68719476736) (Go.bits .and .i64 a1 7)).bind fun t223 => ((deci_Read.f k t223 (wrap64 ((Go.bits .and .i64 a1 7) + 1))).bind fun bt224 => (if bt224.2 = 0 then (if bt224.1 = (wrap64 (10 * (Int.tmod a0 68719476736))) then ((deci_Write.f k bt224.1 (wrap64 ((Go.bits .and .i64 a1 7) + 1))).bind fun t226 => (jitneylaw03_DeciScales.j0 k (Int.tmod a0 68719476736) (Go.bits .and .i64 a1 7) (t226.toList != t223.toList))) else (jitneylaw03_DeciScales.j0 k (Int.tmod a0 68719476736) (Go.bits .and .i64 a1 7) true)) else (jitneylaw03_DeciScales.j0 k (Int.tmod a0 68719476736) (Go.bits .and .i64 a1 7) true))))) else (some false)) = some r := H
  have A3 := Aside0.mk A30
  clear A30
  by_cases c4 : t222 = true
  · subst c4
    have H1 : (if (Go.bits .and .i64 a1 7) > 5 then (some true) else ((deci_Write.f k (Int.tmod a0 68719476736) (Go.bits .and .i64 a1 7)).bind fun t223 => ((deci_Read.f k t223 (wrap64 ((Go.bits .and .i64 a1 7) + 1))).bind fun bt224 => (if bt224.2 = 0 then (if bt224.1 = (wrap64 (10 * (Int.tmod a0 68719476736))) then ((deci_Write.f k bt224.1 (wrap64 ((Go.bits .and .i64 a1 7) + 1))).bind fun t226 => (jitneylaw03_DeciScales.j0 k (Int.tmod a0 68719476736) (Go.bits .and .i64 a1 7) (t226.toList != t223.toList))) else (jitneylaw03_DeciScales.j0 k (Int.tmod a0 68719476736) (Go.bits .and .i64 a1 7) true)) else (jitneylaw03_DeciScales.j0 k (Int.tmod a0 68719476736) (Go.bits .and .i64 a1 7) true))))) = some r := by rw [if_pos rfl] at H; exact H
    clear H
    have H := H1
    clear H1
    by_cases c5 : (Go.bits .and .i64 a1 7) > 5
    · rw [if_pos c5] at H
      have c5b0 : decide (5 < (Go.bits .and .i64 a1 7)) = true := decide_eq_true c5
      clear c5
      obtain rfl := Option.some.inj H
      go_enter Tryd.func5, Tryd.ntmps5
      go_wp2_with (first | ((with_reducible refine gate_callee (f := 8) rfl ?_); refine goesL_ (some 10) rfl rfl Tryd.func8 (by kernel_rfl) rfl #[] rfl (by (try simp only [List.map_toArray, List.map_cons, List.map_nil]); first | done | rfl | (simp only [List.length_drop, List.length_take]; rfl)) ?_; (with_reducible refine (jitneylaw03_alive.calls k  true _ A3.out (GW.step hG (by repeat (first | (with_reducible first | exact HB.out | apply below_alloc | apply pw_below_drewN | apply below_drew1) | exact HB.out)))).mono ?_); rintro e w6 ⟨rfl, hb⟩; refine ⟨_, rfl, ?_⟩; have n0_ := Aside0.mk (below_step (by repeat (first | (with_reducible first | exact HB.out | apply below_alloc | apply pw_below_drewN | apply below_drew1) | exact HB.out)) hb); clear HB; have HB := n0_; clear n0_; (try clear hb); (try clear hb2); (try clear hk); (try clear hi)))
      go_ret
      exact ⟨by first | rfl | (simp [errW_none, errW_some] <;> rfl) | (simp [*, errW_none, errW_some] <;> rfl), by repeat (first | (with_reducible first | exact HB.out | apply below_alloc | apply pw_below_drewN | apply below_drew1) | exact HB.out)⟩
    · rw [if_neg c5] at H
      have c5b0 : decide (5 < (Go.bits .and .i64 a1 7)) = false := decide_eq_false c5
      clear c5
      replace H := Option.bind_eq_some_iff.mp H
      obtain ⟨t223, A70, H⟩ := H
      replace H : ((deci_Read.f k t223 (wrap64 ((Go.bits .and .i64 a1 7) + 1))).bind fun bt224 => (if bt224.2 = 0 then (if bt224.1 = (wrap64 (10 * (Int.tmod a0 68719476736))) then ((deci_Write.f k bt224.1 (wrap64 ((Go.bits .and .i64 a1 7) + 1))).bind fun t226 => (jitneylaw03_DeciScales.j0 k (Int.tmod a0 68719476736) (Go.bits .and .i64 a1 7) (t226.toList != t223.toList))) else (jitneylaw03_DeciScales.j0 k (Int.tmod a0 68719476736) (Go.bits .and .i64 a1 7) true)) else (jitneylaw03_DeciScales.j0 k (Int.tmod a0 68719476736) (Go.bits .and .i64 a1 7) true))) = some r := H
      have A7 := Aside0.mk A70
      clear A70
      replace H := Option.bind_eq_some_iff.mp H
      obtain ⟨⟨t224, t225⟩, A80, H⟩ := H
      replace H : (if t225 = 0 then (if t224 = (wrap64 (10 * (Int.tmod a0 68719476736))) then ((deci_Write.f k t224 (wrap64 ((Go.bits .and .i64 a1 7) + 1))).bind fun t226 => (jitneylaw03_DeciScales.j0 k (Int.tmod a0 68719476736) (Go.bits .and .i64 a1 7) (t226.toList != t223.toList))) else (jitneylaw03_DeciScales.j0 k (Int.tmod a0 68719476736) (Go.bits .and .i64 a1 7) true)) else (jitneylaw03_DeciScales.j0 k (Int.tmod a0 68719476736) (Go.bits .and .i64 a1 7) true)) = some r := H
      have A8 := Aside0.mk A80
      clear A80
      have HC9 := Aside0.mk H
      clear H
      go_enter Tryd.func5, Tryd.ntmps5
      go_upto_region 9 with (first | ((with_reducible refine gate_callee (f := 8) rfl ?_); refine goesL_ (some 10) rfl rfl Tryd.func8 (by kernel_rfl) rfl #[] rfl (by (try simp only [List.map_toArray, List.map_cons, List.map_nil]); first | done | rfl | (simp only [List.length_drop, List.length_take]; rfl)) ?_; (with_reducible refine (jitneylaw03_alive.calls k  true _ A3.out (GW.step hG (by repeat (first | (with_reducible first | exact HB.out | apply below_alloc | apply pw_below_drewN | apply below_drew1) | exact HB.out)))).mono ?_); rintro e w10 ⟨rfl, hb⟩; refine ⟨_, rfl, ?_⟩; have n0_ := Aside0.mk (below_step (by repeat (first | (with_reducible first | exact HB.out | apply below_alloc | apply pw_below_drewN | apply below_drew1) | exact HB.out)) hb); clear HB; have HB := n0_; clear n0_; (try clear hb); (try clear hb2); (try clear hk); (try clear hi)) | ((with_reducible refine gate_callee (f := 14) rfl ?_); refine goesL_ (some 20) rfl rfl Tryd.func14 (by kernel_rfl) rfl #[.int .i64 (Int.tmod a0 68719476736), .int .i64 (Go.bits .and .i64 a1 7)] rfl (by (try simp only [List.map_toArray, List.map_cons, List.map_nil]); first | done | rfl | (simp only [List.length_drop, List.length_take]; rfl)) ?_; (with_reducible refine (deci_Write.calls k (Int.tmod a0 68719476736) (Go.bits .and .i64 a1 7) t223 _ A7.out (GW.step hG (by repeat (first | (with_reducible first | exact HB.out | apply below_alloc | apply pw_below_drewN | apply below_drew1) | exact HB.out)))).mono ?_); rintro e w11 ⟨rfl, hb⟩; refine ⟨_, rfl, ?_⟩; have n0_ := Aside0.mk (below_step (by repeat (first | (with_reducible first | exact HB.out | apply below_alloc | apply pw_below_drewN | apply below_drew1) | exact HB.out)) hb); clear HB; have HB := n0_; clear n0_; (try clear hb); (try clear hb2); (try clear hk); (try clear hi)) | ((with_reducible refine gate_callee (f := 15) rfl ?_); refine goesL_ (some 25) rfl rfl Tryd.func15 (by kernel_rfl) rfl #[.string t223, .int .i64 (wrap64 ((Go.bits .and .i64 a1 7) + 1))] rfl (by (try simp only [List.map_toArray, List.map_cons, List.map_nil]); first | done | rfl | (simp only [List.length_drop, List.length_take]; rfl)) ?_; (with_reducible refine (deci_Read.calls k t223 (wrap64 ((Go.bits .and .i64 a1 7) + 1)) t224 t225 _ A8.out).mono ?_); rintro e w12 ⟨rfl, hb⟩; refine ⟨_, rfl, ?_⟩; have n0_ := Aside0.mk (below_step (by repeat (first | (with_reducible first | exact HB.out | apply below_alloc | apply pw_below_drewN | apply below_drew1) | exact HB.out)) hb); clear HB; have HB := n0_; clear n0_; (try clear hb); (try clear hb2); (try clear hk); (try clear hi)))
      (try simp only [Act.put, List.setIfInBounds_toArray, List.set_cons_zero, List.set_cons_succ])
      go_cut [43] (fun v43 wc => ∃ (kq : Nat) (x43_8 : Bool), v43 = .bool x43_8 ∧ Aside0 (jitneylaw03_DeciScales.j0 kq (Int.tmod a0 68719476736) (Go.bits .and .i64 a1 7) x43_8 = some r) ∧ Aside0 (kq ≤ k) ∧ Aside0 (Below w.heap.size w wc))
      case first =>
        have H := HC9.out
        clear HC9
        by_cases c13 : t225 = 0
        · rw [if_pos c13] at H
          have c13b0 : (t225 == 0) = true := beq_iff_eq.mpr c13
          have c13b1 : (t225 != 0) = false := bne_eq_false_iff_eq.mpr c13
          clear c13
          (first | rw [c13b0] | (simp only [i64_w, i32_w]; rw [c13b0]) | skip)
          by_cases c14 : t224 = (wrap64 (10 * (Int.tmod a0 68719476736)))
          · rw [if_pos c14] at H
            have c14b0 : (t224 == (wrap64 (10 * (Int.tmod a0 68719476736)))) = true := beq_iff_eq.mpr c14
            have c14b1 : (t224 != (wrap64 (10 * (Int.tmod a0 68719476736)))) = false := bne_eq_false_iff_eq.mpr c14
            clear c14
            replace H := Option.bind_eq_some_iff.mp H
            obtain ⟨t226, A150, H⟩ := H
            replace H : (jitneylaw03_DeciScales.j0 k (Int.tmod a0 68719476736) (Go.bits .and .i64 a1 7) (t226.toList != t223.toList)) = some r := H
            have A15 := Aside0.mk A150
            clear A150
            have H' := Aside0.mk H
            clear H
            go_wp2_with (first | (go_at_call 14; (with_reducible refine (deci_Write.calls k t224 (wrap64 ((Go.bits .and .i64 a1 7) + 1)) t226 _ A15.out (GW.step hG (by repeat (first | (with_reducible first | exact HB.out | apply below_alloc | apply pw_below_drewN | apply below_drew1) | exact HB.out)))).mono ?_); rintro e w16 ⟨rfl, hb⟩; have n0_ := Aside0.mk (below_step (by repeat (first | (with_reducible first | exact HB.out | apply below_alloc | apply pw_below_drewN | apply below_drew1) | exact HB.out)) hb); clear HB; have HB := n0_; clear n0_; (try clear hb); (try clear hb2); (try clear hk); (try clear hi)))
            go_meet
            case rel => exact ⟨_, ((t226.toList != t223.toList)), (by first | rfl | (simp; done) | (simp [*]; done)), H', ⟨by first | omega | exact Nat.le_refl _⟩, ⟨by repeat (first | (with_reducible first | exact HB.out | apply below_alloc | apply pw_below_drewN | apply below_drew1) | exact HB.out)⟩⟩
          · rw [if_neg c14] at H
            have c14b0 : (t224 == (wrap64 (10 * (Int.tmod a0 68719476736)))) = false := beq_eq_false_iff_ne.mpr c14
            have c14b1 : (t224 != (wrap64 (10 * (Int.tmod a0 68719476736)))) = true := bne_iff_ne.mpr c14
            have H' := Aside0.mk H
            clear H
            go_wp2
            go_meet
            case rel => exact ⟨_, (true), (by first | rfl | (simp; done) | (simp [*]; done)), H', ⟨by first | omega | exact Nat.le_refl _⟩, ⟨by repeat (first | (with_reducible first | exact HB.out | apply below_alloc | apply pw_below_drewN | apply below_drew1) | exact HB.out)⟩⟩
        · rw [if_neg c13] at H
          have c13b0 : (t225 == 0) = false := beq_eq_false_iff_ne.mpr c13
          have c13b1 : (t225 != 0) = true := bne_iff_ne.mpr c13
          (first | rw [c13b0] | (simp only [i64_w, i32_w]; rw [c13b0]) | skip)
          have H' := Aside0.mk H
          clear H
          go_wp2
          go_meet
          case rel => exact ⟨_, (true), (by first | rfl | (simp; done) | (simp [*]; done)), H', ⟨by first | omega | exact Nat.le_refl _⟩, ⟨by repeat (first | (with_reducible first | exact HB.out | apply below_alloc | apply pw_below_drewN | apply below_drew1) | exact HB.out)⟩⟩
      case rest =>
        clear HC9
        try clear c1
        try clear p2
        try clear c4
        try clear c5
        try clear c5b0
        try clear p6
        try clear c8
        try clear c13
        try clear c13b0
        try clear c13b1
        try clear c14
        try clear c14b0
        try clear c14b1
        try clear c15
        obtain ⟨kq, x43_8, rfl, HA, HJ8, HB⟩ := hcut
        cases kq with
        | zero => exact absurd HA.out (by simp [jitneylaw03_DeciScales.j0])
        | succ kj8 =>
          have H := HA.out
          clear HA
          simp only [jitneylaw03_DeciScales.j0] at H
          by_cases c17 : x43_8 = true
          · subst c17
            have H1 : (some false) = some r := by rw [if_pos rfl] at H; exact H
            clear H
            have H := H1
            clear H1
            obtain rfl := Option.some.inj H
            go_wp2
            go_ret
            exact ⟨by first | rfl | (simp [errW_none, errW_some] <;> rfl) | (simp [*, errW_none, errW_some] <;> rfl), by repeat (first | (with_reducible first | exact HB.out | apply below_alloc | apply pw_below_drewN | apply below_drew1) | exact HB.out)⟩
          · replace c17 := Bool.eq_false_iff.mpr c17
            subst c17
            have H1 : (jitneylaw03_DeciScales.l0 kj8 (Go.bits .and .i64 a1 7) (Int.tmod (Int.tmod a0 68719476736) 1000) (Int.tmod (Int.tmod a0 68719476736) 1000) (Go.bits .and .i64 a1 7) 0) = some r := by rw [if_neg (show ¬ (false = true) by decide)] at H; exact H
            clear H
            have H := H1
            clear H1
            have H' := Aside0.mk H
            clear H
            go_wp2
            go_loopg [9, 48] kj8 (fun kq v9 v48 w' => ∃ (x9_2 : Int) (x48_2 : Int), v9 = .int .i64 x9_2 ∧ v48 = .int .i64 x48_2 ∧ Aside0 (jitneylaw03_DeciScales.l0 kq (Go.bits .and .i64 a1 7) (Int.tmod (Int.tmod a0 68719476736) 1000) x9_2 (Go.bits .and .i64 a1 7) x48_2 = some r) ∧ Aside0 (kq ≤ kj8) ∧ Aside0 (Below w.heap.size w w'))
            case atStart => exact ⟨(Int.tmod (Int.tmod a0 68719476736) 1000), (0), (by first | rfl | (simp; done) | (simp [*]; done)), (by first | rfl | (simp; done) | (simp [*]; done)), H', ⟨Nat.le_refl _⟩, ⟨by repeat (first | (with_reducible first | exact HB.out | apply below_alloc | apply pw_below_drewN | apply below_drew1) | exact HB.out)⟩⟩
            case round =>
              clear H'
              try clear c1
              try clear p2
              try clear c4
              try clear c5
              try clear c5b0
              try clear p6
              try clear c8
              try clear c13
              try clear c13b0
              try clear c13b1
              try clear c14
              try clear c14b0
              try clear c14b1
              try clear c15
              try clear c17
              try clear p2
              try clear p6
              obtain ⟨x9_2, x48_2, rfl, rfl, HA, HK2, HB⟩ := hrel
              cases gk with
              | zero => exact absurd HA.out (by simp [jitneylaw03_DeciScales.l0])
              | succ k2 =>
                have H := HA.out
                clear HA
                simp only [jitneylaw03_DeciScales.l0] at H
                by_cases c18 : x48_2 < (Go.bits .and .i64 a1 7)
                · rw [if_pos c18] at H
                  have c18b0 : decide (x48_2 < (Go.bits .and .i64 a1 7)) = true := decide_eq_true c18
                  clear c18
                  have H' := Aside0.mk H
                  clear H
                  go_wp2
                  go_roundg k2
                  case measure => have := HJ8.out; have := HK2.out; omega
                  case rel => exact ⟨(wrap64 (x9_2 * 10)), (wrap64 (x48_2 + 1)), (by first | rfl | (simp; done) | (simp [*]; done)), (by first | rfl | (simp; done) | (simp [*]; done)), H', ⟨by have := HJ8.out; have := HK2.out; omega⟩, ⟨by repeat (first | (with_reducible first | exact HB.out | apply below_alloc | apply pw_below_drewN | apply below_drew1) | exact HB.out)⟩⟩
                · rw [if_neg c18] at H
                  have c18b0 : decide (x48_2 < (Go.bits .and .i64 a1 7)) = false := decide_eq_false c18
                  clear c18
                  replace H := Option.bind_eq_some_iff.mp H
                  obtain ⟨t227, A190, H⟩ := H
                  replace H : ((deci_Write.f k2 (Int.tmod (Int.tmod a0 68719476736) 1000) 0).bind fun t228 => (some (t227.toList == t228.toList))) = some r := H
                  have A19 := Aside0.mk A190
                  clear A190
                  replace H := Option.bind_eq_some_iff.mp H
                  obtain ⟨t228, A200, H⟩ := H
                  replace H : (some (t227.toList == t228.toList)) = some r := H
                  have A20 := Aside0.mk A200
                  clear A200
                  obtain rfl := Option.some.inj H
                  go_wp2_with (first | ((with_reducible refine gate_callee (f := 14) rfl ?_); refine goesL_ (some 55) rfl rfl Tryd.func14 (by kernel_rfl) rfl #[.int .i64 x9_2, .int .i64 (Go.bits .and .i64 a1 7)] rfl (by (try simp only [List.map_toArray, List.map_cons, List.map_nil]); first | done | rfl | (simp only [List.length_drop, List.length_take]; rfl)) ?_; (with_reducible refine (deci_Write.calls k2 x9_2 (Go.bits .and .i64 a1 7) t227 _ A19.out (GW.step hG (by repeat (first | (with_reducible first | exact HB.out | apply below_alloc | apply pw_below_drewN | apply below_drew1) | exact HB.out)))).mono ?_); rintro e w21 ⟨rfl, hb⟩; refine ⟨_, rfl, ?_⟩; have n0_ := Aside0.mk (below_step (by repeat (first | (with_reducible first | exact HB.out | apply below_alloc | apply pw_below_drewN | apply below_drew1) | exact HB.out)) hb); clear HB; have HB := n0_; clear n0_; (try clear hb); (try clear hb2); (try clear hk); (try clear hi)) | ((with_reducible refine gate_callee (f := 14) rfl ?_); refine goesL_ (some 57) rfl rfl Tryd.func14 (by kernel_rfl) rfl #[.int .i64 (Int.tmod (Int.tmod a0 68719476736) 1000), .int .i64 0] rfl (by (try simp only [List.map_toArray, List.map_cons, List.map_nil]); first | done | rfl | (simp only [List.length_drop, List.length_take]; rfl)) ?_; (with_reducible refine (deci_Write.calls k2 (Int.tmod (Int.tmod a0 68719476736) 1000) 0 t228 _ A20.out (GW.step hG (by repeat (first | (with_reducible first | exact HB.out | apply below_alloc | apply pw_below_drewN | apply below_drew1) | exact HB.out)))).mono ?_); rintro e w22 ⟨rfl, hb⟩; refine ⟨_, rfl, ?_⟩; have n0_ := Aside0.mk (below_step (by repeat (first | (with_reducible first | exact HB.out | apply below_alloc | apply pw_below_drewN | apply below_drew1) | exact HB.out)) hb); clear HB; have HB := n0_; clear n0_; (try clear hb); (try clear hb2); (try clear hk); (try clear hi)))
                  go_ret
                  exact ⟨by first | rfl | (simp [errW_none, errW_some] <;> rfl) | (simp [*, errW_none, errW_some] <;> rfl), by repeat (first | (with_reducible first | exact HB.out | apply below_alloc | apply pw_below_drewN | apply below_drew1) | exact HB.out)⟩
  · replace c4 := Bool.eq_false_iff.mpr c4
    subst c4
    have H1 : (some false) = some r := by rw [if_neg (show ¬ (false = true) by decide)] at H; exact H
    clear H
    have H := H1
    clear H1
    obtain rfl := Option.some.inj H
    go_enter Tryd.func5, Tryd.ntmps5
    go_wp2_with (first | ((with_reducible refine gate_callee (f := 8) rfl ?_); refine goesL_ (some 10) rfl rfl Tryd.func8 (by kernel_rfl) rfl #[] rfl (by (try simp only [List.map_toArray, List.map_cons, List.map_nil]); first | done | rfl | (simp only [List.length_drop, List.length_take]; rfl)) ?_; (with_reducible refine (jitneylaw03_alive.calls k  false _ A3.out (GW.step hG (by repeat (first | (with_reducible first | exact HB.out | apply below_alloc | apply pw_below_drewN | apply below_drew1) | exact HB.out)))).mono ?_); rintro e w23 ⟨rfl, hb⟩; refine ⟨_, rfl, ?_⟩; have n0_ := Aside0.mk (below_step (by repeat (first | (with_reducible first | exact HB.out | apply below_alloc | apply pw_below_drewN | apply below_drew1) | exact HB.out)) hb); clear HB; have HB := n0_; clear n0_; (try clear hb); (try clear hb2); (try clear hk); (try clear hi)))
    go_ret
    exact ⟨by first | rfl | (simp [errW_none, errW_some] <;> rfl) | (simp [*, errW_none, errW_some] <;> rfl), by repeat (first | (with_reducible first | exact HB.out | apply below_alloc | apply pw_below_drewN | apply below_drew1) | exact HB.out)⟩

/-! ### jitneylaw03_DeciLines: function 6 -/
mutual
def jitneylaw03_DeciLines.j0 : Nat → ByteArray → ByteArray → Bool → Option (Bool)
  | 0, _, _, _ => none
  | k + 1, x0, x1, x26 => if x26 = true then (some true) else ((deci_Lines.f x0).bind fun bt230 => ((deci_Lines.f x1).bind fun bt234 => (if x0.size + x1.size ≤ 9223372036854775807 then ((deci_Lines.f (x0 ++ x1)).bind fun bt238 => (if bt230.2 = 0 then (if bt238.2 = bt234.2 then (if bt238.2 = 0 then (if bt230.1.length + bt234.1.length < 8796093022208 then ((jitneyref03_Same.f k bt238.1 (bt230.1 ++ bt234.1)).bind fun t245 => (jitneylaw03_DeciLines.j1 k x0 x1 (!t245))) else (none)) else (jitneylaw03_DeciLines.j1 k x0 x1 false)) else (jitneylaw03_DeciLines.j1 k x0 x1 true)) else (jitneylaw03_DeciLines.j1 k x0 x1 false))) else (none))))
def jitneylaw03_DeciLines.j1 : Nat → ByteArray → ByteArray → Bool → Option (Bool)
  | 0, _, _, _ => none
  | k + 1, x0, x1, x62 => if x62 = true then (some false) else ((deci_Words.f k x0).bind fun bt246 => ((deci_Words.f k x1).bind fun bt250 => (if x0.size + 1 ≤ 9223372036854775807 then (if (x0 ++ (⟨#[32]⟩ : ByteArray)).size + x1.size ≤ 9223372036854775807 then ((deci_Words.f k ((x0 ++ (⟨#[32]⟩ : ByteArray)) ++ x1)).bind fun bt254 => (if bt246.2 = 0 then (if bt250.2 = 0 then (if (bt246.1.length : Int) = 0 then (some (bt254.2 != 0)) else (if (bt250.1.length : Int) = 0 then (some (bt254.2 != 0)) else (if bt254.2 = 0 then (if bt246.1.length + bt250.1.length < 8796093022208 then ((jitneyref03_Same.f k bt254.1 (bt246.1 ++ bt250.1)).bind fun t261 => (some t261)) else (none)) else (some false)))) else (some (bt254.2 != 0))) else (some (bt254.2 != 0)))) else (none)) else (none))))
end
def jitneylaw03_DeciLines.f (k : Nat) (a0 : ByteArray) (a1 : ByteArray) : Option (Bool) := (jitneylaw03_alive.f k).bind fun t229 => (if t229 = true then (if (a0.size : Int) > 1000 then (jitneylaw03_DeciLines.j0 k a0 a1 true) else (jitneylaw03_DeciLines.j0 k a0 a1 (decide ((a1.size : Int) > 1000)))) else (some false))
theorem jitneylaw03_DeciLines.mono_l : ∀ k, (∀ y0 y1 y2, LeO (jitneylaw03_DeciLines.j0 k y0 y1 y2) (jitneylaw03_DeciLines.j0 (k + 1) y0 y1 y2)) ∧ (∀ y0 y1 y2, LeO (jitneylaw03_DeciLines.j1 k y0 y1 y2) (jitneylaw03_DeciLines.j1 (k + 1) y0 y1 y2))
  | 0 => ⟨fun _ _ _ r h => by simp [jitneylaw03_DeciLines.j0] at h, fun _ _ _ r h => by simp [jitneylaw03_DeciLines.j1] at h⟩
  | k + 1 => by
    obtain ⟨ih0, ih1⟩ := jitneylaw03_DeciLines.mono_l k
    refine ⟨?_, ?_⟩
    · intro y0 y1 y2
      unfold jitneylaw03_DeciLines.j0
      repeat' first
      | (with_reducible exact ih0 _ _ _)
      | (with_reducible exact ih1 _ _ _)
      | (with_reducible exact deci_Words.mono _ _)
      | (with_reducible exact jitneylaw03_alive.mono _)
      | (with_reducible exact jitneyref03_Same.mono _ _ _)
      | (with_reducible exact LeO.refl _)
      | (with_reducible exact LeO.none _)
      | (with_reducible refine LeO.ite ?_ ?_)
      | (with_reducible refine LeO.bind ?_ (fun _ => ?_))
      | exact ih0 _ _ _
      | exact ih1 _ _ _
      | exact deci_Words.mono _ _
      | exact jitneylaw03_alive.mono _
      | exact jitneyref03_Same.mono _ _ _
      | exact LeO.none _
      | refine LeO.ite ?_ ?_
      | refine LeO.bind ?_ (fun _ => ?_)
    · intro y0 y1 y2
      unfold jitneylaw03_DeciLines.j1
      repeat' first
      | (with_reducible exact ih0 _ _ _)
      | (with_reducible exact ih1 _ _ _)
      | (with_reducible exact deci_Words.mono _ _)
      | (with_reducible exact jitneylaw03_alive.mono _)
      | (with_reducible exact jitneyref03_Same.mono _ _ _)
      | (with_reducible exact LeO.refl _)
      | (with_reducible exact LeO.none _)
      | (with_reducible refine LeO.ite ?_ ?_)
      | (with_reducible refine LeO.bind ?_ (fun _ => ?_))
      | exact ih0 _ _ _
      | exact ih1 _ _ _
      | exact deci_Words.mono _ _
      | exact jitneylaw03_alive.mono _
      | exact jitneyref03_Same.mono _ _ _
      | exact LeO.none _
      | refine LeO.ite ?_ ?_
      | refine LeO.bind ?_ (fun _ => ?_)
theorem jitneylaw03_DeciLines.mono : ∀ a0 a1 k, LeO (jitneylaw03_DeciLines.f k a0 a1) (jitneylaw03_DeciLines.f (k + 1) a0 a1) := by
  intro a0 a1 k
  obtain ⟨ih0, ih1⟩ := jitneylaw03_DeciLines.mono_l k
  unfold jitneylaw03_DeciLines.f
  repeat' first
      | (with_reducible exact ih0 _ _ _)
      | (with_reducible exact ih1 _ _ _)
      | (with_reducible exact deci_Words.mono _ _)
      | (with_reducible exact jitneylaw03_alive.mono _)
      | (with_reducible exact jitneyref03_Same.mono _ _ _)
      | (with_reducible exact LeO.refl _)
      | (with_reducible exact LeO.none _)
      | (with_reducible refine LeO.ite ?_ ?_)
      | (with_reducible refine LeO.bind ?_ (fun _ => ?_))
      | exact ih0 _ _ _
      | exact ih1 _ _ _
      | exact deci_Words.mono _ _
      | exact jitneylaw03_alive.mono _
      | exact jitneyref03_Same.mono _ _ _
      | exact LeO.none _
      | refine LeO.ite ?_ ?_
      | refine LeO.bind ?_ (fun _ => ?_)
set_option maxHeartbeats 8000000 in
set_option maxRecDepth 100000 in
theorem jitneylaw03_DeciLines.calls (k : Nat) (a0 : ByteArray) (a1 : ByteArray) (r : Bool) (w : World) (h : jitneylaw03_DeciLines.f k a0 a1 = some r) (hG : GW w) :
    Calls Tryd.prog 6 #[.string a0, .string a1] w fun e w' => e = .returned (.bool r) ∧ Below w.heap.size w w' := by
  have HB := Aside0.mk (Below.refl w.heap.size w)
  have H : ((jitneylaw03_alive.f k).bind fun t229 => (if t229 = true then (if (a0.size : Int) > 1000 then (jitneylaw03_DeciLines.j0 k a0 a1 true) else (jitneylaw03_DeciLines.j0 k a0 a1 (decide ((a1.size : Int) > 1000)))) else (some false))) = some r := h
  clear h
  replace H := Option.bind_eq_some_iff.mp H
  obtain ⟨t229, A30, H⟩ := H
  replace H : (if t229 = true then (if (a0.size : Int) > 1000 then (jitneylaw03_DeciLines.j0 k a0 a1 true) else (jitneylaw03_DeciLines.j0 k a0 a1 (decide ((a1.size : Int) > 1000)))) else (some false)) = some r := H
  have A3 := Aside0.mk A30
  clear A30
  by_cases c4 : t229 = true
  · subst c4
    have H1 : (if (a0.size : Int) > 1000 then (jitneylaw03_DeciLines.j0 k a0 a1 true) else (jitneylaw03_DeciLines.j0 k a0 a1 (decide ((a1.size : Int) > 1000)))) = some r := by rw [if_pos rfl] at H; exact H
    clear H
    have H := H1
    clear H1
    have HC5 := Aside0.mk H
    clear H
    go_enter Tryd.func6, Tryd.ntmps6
    go_upto_region 3 with (first | ((with_reducible refine gate_callee (f := 8) rfl ?_); refine goesL_ (some 17) rfl rfl Tryd.func8 (by kernel_rfl) rfl #[] rfl (by (try simp only [List.map_toArray, List.map_cons, List.map_nil]); first | done | rfl | (simp only [List.length_drop, List.length_take]; rfl)) ?_; (with_reducible refine (jitneylaw03_alive.calls k  true _ A3.out (GW.step hG (by repeat (first | (with_reducible first | exact HB.out | apply below_alloc | apply pw_below_drewN | apply below_drew1) | exact HB.out)))).mono ?_); rintro e w6 ⟨rfl, hb⟩; refine ⟨_, rfl, ?_⟩; have n0_ := Aside0.mk (below_step (by repeat (first | (with_reducible first | exact HB.out | apply below_alloc | apply pw_below_drewN | apply below_drew1) | exact HB.out)) hb); clear HB; have HB := n0_; clear n0_; (try clear hb); (try clear hb2); (try clear hk); (try clear hi)))
    (try simp only [Act.put, List.setIfInBounds_toArray, List.set_cons_zero, List.set_cons_succ])
    go_cut [26] (fun v26 wc => ∃ (kq : Nat) (x26_4 : Bool), v26 = .bool x26_4 ∧ Aside0 (jitneylaw03_DeciLines.j0 kq a0 a1 x26_4 = some r) ∧ Aside0 (kq ≤ k) ∧ Aside0 (Below w.heap.size w wc))
    case first =>
      have H := HC5.out
      clear HC5
      by_cases c7 : (a0.size : Int) > 1000
      · rw [if_pos c7] at H
        have c7b0 : decide (1000 < (a0.size : Int)) = true := decide_eq_true c7
        have c7b1 : decide (1000 < a0.size) = true := decide_eq_true (by omega)
        clear c7
        (first | rw [c7b0] | (simp only [i64_w, i32_w]; rw [c7b0]) | skip)
        have H' := Aside0.mk H
        clear H
        go_wp2
        go_meet
        case rel => exact ⟨_, (true), (by first | rfl | (simp; done) | (simp [*]; done)), H', ⟨by first | omega | exact Nat.le_refl _⟩, ⟨by repeat (first | (with_reducible first | exact HB.out | apply below_alloc | apply pw_below_drewN | apply below_drew1) | exact HB.out)⟩⟩
      · rw [if_neg c7] at H
        have c7b0 : decide (1000 < (a0.size : Int)) = false := decide_eq_false c7
        have c7b1 : decide (1000 < a0.size) = false := decide_eq_false (by omega)
        clear c7
        (first | rw [c7b0] | (simp only [i64_w, i32_w]; rw [c7b0]) | skip)
        have H' := Aside0.mk H
        clear H
        go_wp2
        go_meet
        case rel => exact ⟨_, (decide ((a1.size : Int) > 1000)), (by first | rfl | (simp; done) | (simp [*]; done)), H', ⟨by first | omega | exact Nat.le_refl _⟩, ⟨by repeat (first | (with_reducible first | exact HB.out | apply below_alloc | apply pw_below_drewN | apply below_drew1) | exact HB.out)⟩⟩
    case rest =>
      clear HC5
      try clear p2
      try clear c4
      try clear c6
      try clear c7
      try clear c7b0
      try clear c7b1
      obtain ⟨kq, x26_4, rfl, HA, HJ4, HB⟩ := hcut
      cases kq with
      | zero => exact absurd HA.out (by simp [jitneylaw03_DeciLines.j0])
      | succ kj4 =>
        have H := HA.out
        clear HA
        simp only [jitneylaw03_DeciLines.j0] at H
        by_cases c8 : x26_4 = true
        · subst c8
          have H1 : (some true) = some r := by rw [if_pos rfl] at H; exact H
          clear H
          have H := H1
          clear H1
          obtain rfl := Option.some.inj H
          go_wp2
          go_ret
          exact ⟨by first | rfl | (simp [errW_none, errW_some] <;> rfl) | (simp [*, errW_none, errW_some] <;> rfl), by repeat (first | (with_reducible first | exact HB.out | apply below_alloc | apply pw_below_drewN | apply below_drew1) | exact HB.out)⟩
        · replace c8 := Bool.eq_false_iff.mpr c8
          subst c8
          have H1 : ((deci_Lines.f a0).bind fun bt230 => ((deci_Lines.f a1).bind fun bt234 => (if a0.size + a1.size ≤ 9223372036854775807 then ((deci_Lines.f (a0 ++ a1)).bind fun bt238 => (if bt230.2 = 0 then (if bt238.2 = bt234.2 then (if bt238.2 = 0 then (if bt230.1.length + bt234.1.length < 8796093022208 then ((jitneyref03_Same.f kj4 bt238.1 (bt230.1 ++ bt234.1)).bind fun t245 => (jitneylaw03_DeciLines.j1 kj4 a0 a1 (!t245))) else (none)) else (jitneylaw03_DeciLines.j1 kj4 a0 a1 false)) else (jitneylaw03_DeciLines.j1 kj4 a0 a1 true)) else (jitneylaw03_DeciLines.j1 kj4 a0 a1 false))) else (none)))) = some r := by rw [if_neg (show ¬ (false = true) by decide)] at H; exact H
          clear H
          have H := H1
          clear H1
          replace H := Option.bind_eq_some_iff.mp H
          obtain ⟨⟨t230, t231⟩, A90, H⟩ := H
          replace H : ((deci_Lines.f a1).bind fun bt234 => (if a0.size + a1.size ≤ 9223372036854775807 then ((deci_Lines.f (a0 ++ a1)).bind fun bt238 => (if t231 = 0 then (if bt238.2 = bt234.2 then (if bt238.2 = 0 then (if t230.length + bt234.1.length < 8796093022208 then ((jitneyref03_Same.f kj4 bt238.1 (t230 ++ bt234.1)).bind fun t245 => (jitneylaw03_DeciLines.j1 kj4 a0 a1 (!t245))) else (none)) else (jitneylaw03_DeciLines.j1 kj4 a0 a1 false)) else (jitneylaw03_DeciLines.j1 kj4 a0 a1 true)) else (jitneylaw03_DeciLines.j1 kj4 a0 a1 false))) else (none))) = some r := H
          have A9 := Aside0.mk A90
          clear A90
          replace H := Option.bind_eq_some_iff.mp H
          obtain ⟨⟨t234, t235⟩, A100, H⟩ := H
          replace H : (if a0.size + a1.size ≤ 9223372036854775807 then ((deci_Lines.f (a0 ++ a1)).bind fun bt238 => (if t231 = 0 then (if bt238.2 = t235 then (if bt238.2 = 0 then (if t230.length + t234.length < 8796093022208 then ((jitneyref03_Same.f kj4 bt238.1 (t230 ++ t234)).bind fun t245 => (jitneylaw03_DeciLines.j1 kj4 a0 a1 (!t245))) else (none)) else (jitneylaw03_DeciLines.j1 kj4 a0 a1 false)) else (jitneylaw03_DeciLines.j1 kj4 a0 a1 true)) else (jitneylaw03_DeciLines.j1 kj4 a0 a1 false))) else (none)) = some r := H
          have A10 := Aside0.mk A100
          clear A100
          by_cases c11 : a0.size + a1.size ≤ 9223372036854775807
          · rw [if_pos c11] at H
            have c11b0 := eq_true c11
            have c11b1 : decide (a0.size + a1.size ≤ 9223372036854775807) = true := decide_eq_true c11
            try have c11b2 : (9223372036854775807 < a0.size + a1.size) = False := eq_false (Nat.not_lt.2 c11)
            replace H := Option.bind_eq_some_iff.mp H
            obtain ⟨⟨t238, t239⟩, A120, H⟩ := H
            replace H : (if t231 = 0 then (if t239 = t235 then (if t239 = 0 then (if t230.length + t234.length < 8796093022208 then ((jitneyref03_Same.f kj4 t238 (t230 ++ t234)).bind fun t245 => (jitneylaw03_DeciLines.j1 kj4 a0 a1 (!t245))) else (none)) else (jitneylaw03_DeciLines.j1 kj4 a0 a1 false)) else (jitneylaw03_DeciLines.j1 kj4 a0 a1 true)) else (jitneylaw03_DeciLines.j1 kj4 a0 a1 false)) = some r := H
            have A12 := Aside0.mk A120
            clear A120
            have HC13 := Aside0.mk H
            clear H
            go_upto_region 8 with (first | ((with_reducible refine gate_callee (f := 11) rfl ?_); refine goesL_ (some 29) rfl rfl Tryd.func11 (by kernel_rfl) rfl #[.string a0] rfl (by (try simp only [List.map_toArray, List.map_cons, List.map_nil]); first | done | rfl | (simp only [List.length_drop, List.length_take]; rfl)) ?_; (with_reducible refine (deci_Lines.calls a0 t230 t231 _ A9.out).mono ?_); rintro e w14 ⟨v232, rfl, ho0, hb⟩; refine ⟨_, rfl, ?_⟩; have n0_ := Aside0.mk (Kd.R_lower ho0 (below_size (by repeat (first | (with_reducible first | exact HB.out | apply below_alloc | apply pw_below_drewN | apply below_drew1) | exact HB.out)))); have n1_ := Aside0.mk (below_step (by repeat (first | (with_reducible first | exact HB.out | apply below_alloc | apply pw_below_drewN | apply below_drew1) | exact HB.out)) hb); clear HB; have HO233 := n0_; have HB := n1_; clear n0_ n1_; (try clear hb); (try clear hb2); (try clear hk); (try clear hi); (try clear ho0)) | ((with_reducible refine gate_callee (f := 11) rfl ?_); refine goesL_ (some 34) rfl rfl Tryd.func11 (by kernel_rfl) rfl #[.string a1] rfl (by (try simp only [List.map_toArray, List.map_cons, List.map_nil]); first | done | rfl | (simp only [List.length_drop, List.length_take]; rfl)) ?_; (with_reducible refine (deci_Lines.calls a1 t234 t235 _ A10.out).mono ?_); rintro e w15 ⟨v236, rfl, ho0, hb⟩; refine ⟨_, rfl, ?_⟩; have n0_ := Aside0.mk (Kd.R_elder' (by (with_reducible repeat (first | apply Kd.R_alloc | apply Kd.R_drewN | apply Kd.R_drew)); exact HO233.out) (Kd.R_base ho0) hb); have n1_ := Aside0.mk (Kd.R_lower (Kd.R_new' ho0 (Kd.R_lt (by (with_reducible repeat (first | apply Kd.R_alloc | apply Kd.R_drewN | apply Kd.R_drew)); exact HO233.out))) (below_size (by repeat (first | (with_reducible first | exact HB.out | apply below_alloc | apply pw_below_drewN | apply below_drew1) | exact HB.out)))); have n2_ := Aside0.mk (below_step (by repeat (first | (with_reducible first | exact HB.out | apply below_alloc | apply pw_below_drewN | apply below_drew1) | exact HB.out)) hb); clear HO233; clear HB; have HO233 := n0_; have HO237 := n1_; have HB := n2_; clear n0_ n1_ n2_; (try clear hb); (try clear hb2); (try clear hk); (try clear hi); (try clear ho0)) | ((with_reducible refine gate_callee (f := 11) rfl ?_); refine goesL_ (some 41) rfl rfl Tryd.func11 (by kernel_rfl) rfl #[.string (a0 ++ a1)] rfl (by (try simp only [List.map_toArray, List.map_cons, List.map_nil]); first | done | rfl | (simp only [List.length_drop, List.length_take]; rfl)) ?_; (with_reducible refine (deci_Lines.calls (a0 ++ a1) t238 t239 _ A12.out).mono ?_); rintro e w16 ⟨v240, rfl, ho0, hb⟩; refine ⟨_, rfl, ?_⟩; have n0_ := Aside0.mk (Kd.R_elder' (by (with_reducible repeat (first | apply Kd.R_alloc | apply Kd.R_drewN | apply Kd.R_drew)); exact HO233.out) (Kd.R_base ho0) hb); have n1_ := Aside0.mk (Kd.R_elder' (by (with_reducible repeat (first | apply Kd.R_alloc | apply Kd.R_drewN | apply Kd.R_drew)); exact HO237.out) (Kd.R_base ho0) hb); have n2_ := Aside0.mk (Kd.R_lower (Kd.R_new' (Kd.R_new' ho0 (Kd.R_lt (by (with_reducible repeat (first | apply Kd.R_alloc | apply Kd.R_drewN | apply Kd.R_drew)); exact HO233.out))) (Kd.R_lt (by (with_reducible repeat (first | apply Kd.R_alloc | apply Kd.R_drewN | apply Kd.R_drew)); exact HO237.out))) (below_size (by repeat (first | (with_reducible first | exact HB.out | apply below_alloc | apply pw_below_drewN | apply below_drew1) | exact HB.out)))); have n3_ := Aside0.mk (below_step (by repeat (first | (with_reducible first | exact HB.out | apply below_alloc | apply pw_below_drewN | apply below_drew1) | exact HB.out)) hb); clear HO233; clear HO237; clear HB; have HO233 := n0_; have HO237 := n1_; have HO241 := n2_; have HB := n3_; clear n0_ n1_ n2_ n3_; (try clear hb); (try clear hb2); (try clear hk); (try clear hi); (try clear ho0)))
            (try simp only [Act.put, List.setIfInBounds_toArray, List.set_cons_zero, List.set_cons_succ])
            go_cut [62] (fun v62 wc => ∃ (kq : Nat) (x62_12 : Bool), v62 = .bool x62_12 ∧ Aside0 (jitneylaw03_DeciLines.j1 kq a0 a1 x62_12 = some r) ∧ Aside0 (kq ≤ kj4) ∧ Aside0 (Below w.heap.size w wc))
            case first =>
              have H := HC13.out
              clear HC13
              by_cases c17 : t231 = 0
              · rw [if_pos c17] at H
                have c17b0 : (t231 == 0) = true := beq_iff_eq.mpr c17
                have c17b1 : (t231 != 0) = false := bne_eq_false_iff_eq.mpr c17
                clear c17
                (first | rw [c17b0] | (simp only [i64_w, i32_w]; rw [c17b0]) | skip)
                by_cases c18 : t239 = t235
                · rw [if_pos c18] at H
                  have c18b0 : (t239 == t235) = true := beq_iff_eq.mpr c18
                  have c18b1 : (t239 != t235) = false := bne_eq_false_iff_eq.mpr c18
                  clear c18
                  by_cases c19 : t239 = 0
                  · rw [if_pos c19] at H
                    have c19b0 : (t239 == 0) = true := beq_iff_eq.mpr c19
                    have c19b1 : (t239 != 0) = false := bne_eq_false_iff_eq.mpr c19
                    clear c19
                    by_cases c20 : t230.length + t234.length < 8796093022208
                    · rw [if_pos c20] at H
                      have LMc20 := Aside0.mk c20
                      clear c20
                      obtain ⟨y242, hy242⟩ : ∃ y_ : List ByteArray, y_ = (t230 ++ t234) := ⟨_, rfl⟩
                      replace H : ((jitneyref03_Same.f kj4 t238 y242).bind fun t245 => (jitneylaw03_DeciLines.j1 kj4 a0 a1 (!t245))) = some r := by first | (rw [hy242]; with_reducible exact H) | (have H2_ := (Option.bind_some _ _).symm.trans H; rw [hy242]; with_reducible exact H2_) | (have H2_ := (Option.bind_some _ _).symm.trans H; with_reducible exact H2_) | with_reducible exact H | (rw [hy242]; exact H) | exact H
                      have Ny242 := Aside0.mk hy242
                      clear hy242
                      replace H := Option.bind_eq_some_iff.mp H
                      obtain ⟨t245, A210, H⟩ := H
                      replace H : (jitneylaw03_DeciLines.j1 kj4 a0 a1 (!t245)) = some r := H
                      have A21 := Aside0.mk A210
                      clear A210
                      have H' := Aside0.mk H
                      clear H
                      obtain ⟨Ao23, co23, eo23⟩ := Kd.R_slice HO237.out
                      subst eo23
                      go_wp2_with (first | ((with_reducible refine gate_builtin (b := .append) (xs := #[.tmp 55, .tmp 56]) rfl ?_); (try (refine gate_guard (by rfl) ?_; dsimp only)); at_builtin; refine Kd.R_append_rows Kd.string (w0 := w) w.heap.size rfl (.tmp 55) (.tmp 56) 23 9 (.string ⟨#[]⟩) 16 rfl Tryd.underlying23 info9 rfl (by decide) (by omega) v232 t230 t234 _ _ _ (fun k_ => some k_ ≠ (.slice Ao23 t234.length co23 : Value).ownBlock ∧ some k_ ≠ (v240 : Value).ownBlock) (fun _ => False) rfl rfl ?aO ?aR (fun _ _ h => h) (fun _ h => h.elim) ?aF ?aB ?aS ?aL ?_; (case aR => repeat (first | exact (Kd.R_reads' HO237.out).2.2 | (with_reducible refine Kd.C_alloc ?_ _) | (with_reducible refine Kd.C_drewN ?_ _) | (with_reducible refine Kd.C_drew ?_))); (case aB => exact (by repeat (first | (with_reducible first | exact HB.out | apply below_alloc | apply pw_below_drewN | apply below_drew1) | exact HB.out))); (case aF => exact (fun k_ hk => ⟨Kd.fresh' (Kd.R_lt (by (with_reducible repeat (first | apply Kd.R_alloc | apply Kd.R_drewN | apply Kd.R_drew)); exact HO237.out)) k_ hk, Kd.fresh' (Kd.R_lt (by (with_reducible repeat (first | apply Kd.R_alloc | apply Kd.R_drewN | apply Kd.R_drew)); exact HO241.out)) k_ hk⟩)); (case aO => exact (by (with_reducible repeat (first | apply Kd.R_alloc | apply Kd.R_drewN | apply Kd.R_drew)); exact Kd.R_mono HO233.out (fun _ hk => ⟨hk.1.2, hk.2⟩))); (case aS => exact (below_size (by repeat (first | (with_reducible first | exact HB.out | apply below_alloc | apply pw_below_drewN | apply below_drew1) | exact HB.out)))); (case aL => have := LMc20.out; omega); intro v243 w22 ho hb hg hat; rw [← Ny242.out] at ho; have n0_ := Aside0.mk (Kd.R_after (ok := (fun k_ => some k_ ≠ (v240 : Value).ownBlock)) (by (with_reducible repeat (first | apply Kd.R_alloc | apply Kd.R_drewN | apply Kd.R_drew)); exact Kd.R_mono HO237.out (fun _ hk => ⟨hk.2, hk.1.2⟩)) hg hat); have n1_ := Aside0.mk (Kd.R_after (ok := (fun k_ => some k_ ≠ (.slice Ao23 t234.length co23 : Value).ownBlock)) (by (with_reducible repeat (first | apply Kd.R_alloc | apply Kd.R_drewN | apply Kd.R_drew)); exact Kd.R_mono HO241.out (fun _ hk => ⟨hk.2, hk.1.2⟩)) hg hat); have n2_ := Aside0.mk (hb); have n3_ := Aside0.mk (ho); clear HO237; clear HO241; clear HB; clear HO233; have HO237 := n0_; have HO241 := n1_; have HB := n2_; have HO244 := n3_; clear n0_ n1_ n2_ n3_; clear ho hb hg hat; obtain ⟨Ao24, co24, eo24⟩ := Kd.R_slice HO241.out; subst eo24; obtain ⟨Ao25, co25, eo25⟩ := Kd.R_slice HO244.out; subst eo25) | (go_at_call 13; (with_reducible refine (jitneyref03_Same.calls kj4 _ _ t238 _ _ y242 t245 _ ?side1 ?side2 ?side3 ?side4 A21.out).mono ?_); (case side1 => repeat (first | exact (Kd.R_reads' HO241.out).2.2 | (with_reducible refine Kd.C_alloc ?_ _) | (with_reducible refine Kd.C_drewN ?_ _) | (with_reducible refine Kd.C_drew ?_))); (case side2 => exact (Kd.R_reads' HO241.out).2.1); (case side3 => repeat (first | exact (Kd.R_reads' HO244.out).2.2 | (with_reducible refine Kd.C_alloc ?_ _) | (with_reducible refine Kd.C_drewN ?_ _) | (with_reducible refine Kd.C_drew ?_))); (case side4 => exact (Kd.R_reads' HO244.out).2.1); rintro e w' ⟨rfl, ⟨nd, rfl⟩⟩))
                      go_meet
                      case rel => exact ⟨_, (!t245), (by first | rfl | (simp; done) | (simp [*]; done)), H', ⟨by have := HJ4.out; first | omega | exact Nat.le_refl _⟩, ⟨by repeat (first | (with_reducible first | exact HB.out | apply below_alloc | apply pw_below_drewN | apply below_drew1) | exact HB.out)⟩⟩
                    · rw [if_neg c20] at H
                      exact absurd H (by simp)
                  · rw [if_neg c19] at H
                    have c19b0 : (t239 == 0) = false := beq_eq_false_iff_ne.mpr c19
                    have c19b1 : (t239 != 0) = true := bne_iff_ne.mpr c19
                    have H' := Aside0.mk H
                    clear H
                    go_wp2
                    go_meet
                    case rel => exact ⟨_, (false), (by first | rfl | (simp; done) | (simp [*]; done)), H', ⟨by have := HJ4.out; first | omega | exact Nat.le_refl _⟩, ⟨by repeat (first | (with_reducible first | exact HB.out | apply below_alloc | apply pw_below_drewN | apply below_drew1) | exact HB.out)⟩⟩
                · rw [if_neg c18] at H
                  have c18b0 : (t239 == t235) = false := beq_eq_false_iff_ne.mpr c18
                  have c18b1 : (t239 != t235) = true := bne_iff_ne.mpr c18
                  have H' := Aside0.mk H
                  clear H
                  go_wp2
                  go_meet
                  case rel => exact ⟨_, (true), (by first | rfl | (simp; done) | (simp [*]; done)), H', ⟨by have := HJ4.out; first | omega | exact Nat.le_refl _⟩, ⟨by repeat (first | (with_reducible first | exact HB.out | apply below_alloc | apply pw_below_drewN | apply below_drew1) | exact HB.out)⟩⟩
              · rw [if_neg c17] at H
                have c17b0 : (t231 == 0) = false := beq_eq_false_iff_ne.mpr c17
                have c17b1 : (t231 != 0) = true := bne_iff_ne.mpr c17
                (first | rw [c17b0] | (simp only [i64_w, i32_w]; rw [c17b0]) | skip)
                have H' := Aside0.mk H
                clear H
                go_wp2
                go_meet
                case rel => exact ⟨_, (false), (by first | rfl | (simp; done) | (simp [*]; done)), H', ⟨by have := HJ4.out; first | omega | exact Nat.le_refl _⟩, ⟨by repeat (first | (with_reducible first | exact HB.out | apply below_alloc | apply pw_below_drewN | apply below_drew1) | exact HB.out)⟩⟩
            case rest =>
              clear HC13
              try clear c1
              try clear c2
              try clear p2
              try clear c4
              try clear c6
              try clear c7
              try clear c7b0
              try clear c7b1
              try clear c8
              try clear c11
              try clear c11b0
              try clear c11b1
              try clear c11b2
              try clear c17
              try clear c17b0
              try clear c17b1
              try clear c18
              try clear c18b0
              try clear c18b1
              try clear c19
              try clear c19b0
              try clear c19b1
              try clear c20
              try clear p2
              obtain ⟨kq, x62_12, rfl, HA, HJ12, HB⟩ := hcut
              cases kq with
              | zero => exact absurd HA.out (by simp [jitneylaw03_DeciLines.j1])
              | succ kj12 =>
                have H := HA.out
                clear HA
                simp only [jitneylaw03_DeciLines.j1] at H
                by_cases c26 : x62_12 = true
                · subst c26
                  have H1 : (some false) = some r := by rw [if_pos rfl] at H; exact H
                  clear H
                  have H := H1
                  clear H1
                  obtain rfl := Option.some.inj H
                  go_wp2
                  go_ret
                  exact ⟨by first | rfl | (simp [errW_none, errW_some] <;> rfl) | (simp [*, errW_none, errW_some] <;> rfl), by repeat (first | (with_reducible first | exact HB.out | apply below_alloc | apply pw_below_drewN | apply below_drew1) | exact HB.out)⟩
                · replace c26 := Bool.eq_false_iff.mpr c26
                  subst c26
                  have H1 : ((deci_Words.f kj12 a0).bind fun bt246 => ((deci_Words.f kj12 a1).bind fun bt250 => (if a0.size + 1 ≤ 9223372036854775807 then (if (a0 ++ (⟨#[32]⟩ : ByteArray)).size + a1.size ≤ 9223372036854775807 then ((deci_Words.f kj12 ((a0 ++ (⟨#[32]⟩ : ByteArray)) ++ a1)).bind fun bt254 => (if bt246.2 = 0 then (if bt250.2 = 0 then (if (bt246.1.length : Int) = 0 then (some (bt254.2 != 0)) else (if (bt250.1.length : Int) = 0 then (some (bt254.2 != 0)) else (if bt254.2 = 0 then (if bt246.1.length + bt250.1.length < 8796093022208 then ((jitneyref03_Same.f kj12 bt254.1 (bt246.1 ++ bt250.1)).bind fun t261 => (some t261)) else (none)) else (some false)))) else (some (bt254.2 != 0))) else (some (bt254.2 != 0)))) else (none)) else (none)))) = some r := by rw [if_neg (show ¬ (false = true) by decide)] at H; exact H
                  clear H
                  have H := H1
                  clear H1
                  replace H := Option.bind_eq_some_iff.mp H
                  obtain ⟨⟨t246, t247⟩, A270, H⟩ := H
                  replace H : ((deci_Words.f kj12 a1).bind fun bt250 => (if a0.size + 1 ≤ 9223372036854775807 then (if (a0 ++ (⟨#[32]⟩ : ByteArray)).size + a1.size ≤ 9223372036854775807 then ((deci_Words.f kj12 ((a0 ++ (⟨#[32]⟩ : ByteArray)) ++ a1)).bind fun bt254 => (if t247 = 0 then (if bt250.2 = 0 then (if (t246.length : Int) = 0 then (some (bt254.2 != 0)) else (if (bt250.1.length : Int) = 0 then (some (bt254.2 != 0)) else (if bt254.2 = 0 then (if t246.length + bt250.1.length < 8796093022208 then ((jitneyref03_Same.f kj12 bt254.1 (t246 ++ bt250.1)).bind fun t261 => (some t261)) else (none)) else (some false)))) else (some (bt254.2 != 0))) else (some (bt254.2 != 0)))) else (none)) else (none))) = some r := H
                  have A27 := Aside0.mk A270
                  clear A270
                  replace H := Option.bind_eq_some_iff.mp H
                  obtain ⟨⟨t250, t251⟩, A280, H⟩ := H
                  replace H : (if a0.size + 1 ≤ 9223372036854775807 then (if (a0 ++ (⟨#[32]⟩ : ByteArray)).size + a1.size ≤ 9223372036854775807 then ((deci_Words.f kj12 ((a0 ++ (⟨#[32]⟩ : ByteArray)) ++ a1)).bind fun bt254 => (if t247 = 0 then (if t251 = 0 then (if (t246.length : Int) = 0 then (some (bt254.2 != 0)) else (if (t250.length : Int) = 0 then (some (bt254.2 != 0)) else (if bt254.2 = 0 then (if t246.length + t250.length < 8796093022208 then ((jitneyref03_Same.f kj12 bt254.1 (t246 ++ t250)).bind fun t261 => (some t261)) else (none)) else (some false)))) else (some (bt254.2 != 0))) else (some (bt254.2 != 0)))) else (none)) else (none)) = some r := H
                  have A28 := Aside0.mk A280
                  clear A280
                  by_cases c29 : a0.size + 1 ≤ 9223372036854775807
                  · rw [if_pos c29] at H
                    have c29b0 := eq_true c29
                    have c29b1 : decide (a0.size + 1 ≤ 9223372036854775807) = true := decide_eq_true c29
                    try have c29b2 : (9223372036854775807 < a0.size + 1) = False := eq_false (Nat.not_lt.2 c29)
                    by_cases c30 : (a0 ++ (⟨#[32]⟩ : ByteArray)).size + a1.size ≤ 9223372036854775807
                    · rw [if_pos c30] at H
                      have c30b0 := eq_true c30
                      have c30b1 : decide ((a0 ++ (⟨#[32]⟩ : ByteArray)).size + a1.size ≤ 9223372036854775807) = true := decide_eq_true c30
                      try have c30b2 : (9223372036854775807 < (a0 ++ (⟨#[32]⟩ : ByteArray)).size + a1.size) = False := eq_false (Nat.not_lt.2 c30)
                      replace H := Option.bind_eq_some_iff.mp H
                      obtain ⟨⟨t254, t255⟩, A310, H⟩ := H
                      replace H : (if t247 = 0 then (if t251 = 0 then (if (t246.length : Int) = 0 then (some (t255 != 0)) else (if (t250.length : Int) = 0 then (some (t255 != 0)) else (if t255 = 0 then (if t246.length + t250.length < 8796093022208 then ((jitneyref03_Same.f kj12 t254 (t246 ++ t250)).bind fun t261 => (some t261)) else (none)) else (some false)))) else (some (t255 != 0))) else (some (t255 != 0))) = some r := H
                      have A31 := Aside0.mk A310
                      clear A310
                      by_cases c32 : t247 = 0
                      · rw [if_pos c32] at H
                        have c32b0 : (t247 == 0) = true := beq_iff_eq.mpr c32
                        have c32b1 : (t247 != 0) = false := bne_eq_false_iff_eq.mpr c32
                        clear c32
                        by_cases c33 : t251 = 0
                        · rw [if_pos c33] at H
                          have c33b0 : (t251 == 0) = true := beq_iff_eq.mpr c33
                          have c33b1 : (t251 != 0) = false := bne_eq_false_iff_eq.mpr c33
                          clear c33
                          by_cases c34 : (t246.length : Int) = 0
                          · rw [if_pos c34] at H
                            have c34b0 : ((t246.length : Int) == 0) = true := beq_iff_eq.mpr c34
                            have c34b1 : ((t246.length : Int) != 0) = false := bne_eq_false_iff_eq.mpr c34
                            clear c34
                            obtain rfl := Option.some.inj H
                            go_wp2_with (first | ((with_reducible refine gate_callee (f := 9) rfl ?_); refine goesL_ (some 65) rfl rfl Tryd.func9 (by kernel_rfl) rfl #[.string a0] rfl (by (try simp only [List.map_toArray, List.map_cons, List.map_nil]); first | done | rfl | (simp only [List.length_drop, List.length_take]; rfl)) ?_; (with_reducible refine (deci_Words.calls kj12 a0 t246 t247 _ A27.out).mono ?_); rintro e w35 ⟨v248, rfl, ho0, hb⟩; refine ⟨_, rfl, ?_⟩; have n0_ := Aside0.mk (Kd.R_lower ho0 (below_size (by repeat (first | (with_reducible first | exact HB.out | apply below_alloc | apply pw_below_drewN | apply below_drew1) | exact HB.out)))); have n1_ := Aside0.mk (below_step (by repeat (first | (with_reducible first | exact HB.out | apply below_alloc | apply pw_below_drewN | apply below_drew1) | exact HB.out)) hb); clear HB; have HO249 := n0_; have HB := n1_; clear n0_ n1_; (try clear hb); (try clear hb2); (try clear hk); (try clear hi); (try clear ho0)) | ((with_reducible refine gate_callee (f := 9) rfl ?_); refine goesL_ (some 70) rfl rfl Tryd.func9 (by kernel_rfl) rfl #[.string a1] rfl (by (try simp only [List.map_toArray, List.map_cons, List.map_nil]); first | done | rfl | (simp only [List.length_drop, List.length_take]; rfl)) ?_; (with_reducible refine (deci_Words.calls kj12 a1 t250 t251 _ A28.out).mono ?_); rintro e w36 ⟨v252, rfl, ho0, hb⟩; refine ⟨_, rfl, ?_⟩; have n0_ := Aside0.mk (Kd.R_elder' (by (with_reducible repeat (first | apply Kd.R_alloc | apply Kd.R_drewN | apply Kd.R_drew)); exact HO249.out) (Kd.R_base ho0) hb); have n1_ := Aside0.mk (Kd.R_lower (Kd.R_new' ho0 (Kd.R_lt (by (with_reducible repeat (first | apply Kd.R_alloc | apply Kd.R_drewN | apply Kd.R_drew)); exact HO249.out))) (below_size (by repeat (first | (with_reducible first | exact HB.out | apply below_alloc | apply pw_below_drewN | apply below_drew1) | exact HB.out)))); have n2_ := Aside0.mk (below_step (by repeat (first | (with_reducible first | exact HB.out | apply below_alloc | apply pw_below_drewN | apply below_drew1) | exact HB.out)) hb); clear HO249; clear HB; have HO249 := n0_; have HO253 := n1_; have HB := n2_; clear n0_ n1_ n2_; (try clear hb); (try clear hb2); (try clear hk); (try clear hi); (try clear ho0)) | ((with_reducible refine gate_callee (f := 9) rfl ?_); refine goesL_ (some 78) rfl rfl Tryd.func9 (by kernel_rfl) rfl #[.string ((a0 ++ (⟨#[32]⟩ : ByteArray)) ++ a1)] rfl (by (try simp only [List.map_toArray, List.map_cons, List.map_nil]); first | done | rfl | (simp only [List.length_drop, List.length_take]; rfl)) ?_; (with_reducible refine (deci_Words.calls kj12 ((a0 ++ (⟨#[32]⟩ : ByteArray)) ++ a1) t254 t255 _ A31.out).mono ?_); rintro e w37 ⟨v256, rfl, ho0, hb⟩; refine ⟨_, rfl, ?_⟩; have n0_ := Aside0.mk (Kd.R_elder' (by (with_reducible repeat (first | apply Kd.R_alloc | apply Kd.R_drewN | apply Kd.R_drew)); exact HO249.out) (Kd.R_base ho0) hb); have n1_ := Aside0.mk (Kd.R_elder' (by (with_reducible repeat (first | apply Kd.R_alloc | apply Kd.R_drewN | apply Kd.R_drew)); exact HO253.out) (Kd.R_base ho0) hb); have n2_ := Aside0.mk (Kd.R_lower (Kd.R_new' (Kd.R_new' ho0 (Kd.R_lt (by (with_reducible repeat (first | apply Kd.R_alloc | apply Kd.R_drewN | apply Kd.R_drew)); exact HO249.out))) (Kd.R_lt (by (with_reducible repeat (first | apply Kd.R_alloc | apply Kd.R_drewN | apply Kd.R_drew)); exact HO253.out))) (below_size (by repeat (first | (with_reducible first | exact HB.out | apply below_alloc | apply pw_below_drewN | apply below_drew1) | exact HB.out)))); have n3_ := Aside0.mk (below_step (by repeat (first | (with_reducible first | exact HB.out | apply below_alloc | apply pw_below_drewN | apply below_drew1) | exact HB.out)) hb); clear HO249; clear HO253; clear HB; have HO249 := n0_; have HO253 := n1_; have HO257 := n2_; have HB := n3_; clear n0_ n1_ n2_ n3_; (try clear hb); (try clear hb2); (try clear hk); (try clear hi); (try clear ho0); obtain ⟨Ao38, co38, eo38⟩ := Kd.R_slice HO249.out; subst eo38))
                            go_ret
                            exact ⟨by first | rfl | (simp [errW_none, errW_some] <;> rfl) | (simp [*, errW_none, errW_some] <;> rfl), by repeat (first | (with_reducible first | exact HB.out | apply below_alloc | apply pw_below_drewN | apply below_drew1) | exact HB.out)⟩
                          · rw [if_neg c34] at H
                            have c34b0 : ((t246.length : Int) == 0) = false := beq_eq_false_iff_ne.mpr c34
                            have c34b1 : ((t246.length : Int) != 0) = true := bne_iff_ne.mpr c34
                            have c34b2 : ¬ (t246 = []) := fun h_ => c34 (by rw [h_]; rfl)
                            by_cases c39 : (t250.length : Int) = 0
                            · rw [if_pos c39] at H
                              have c39b0 : ((t250.length : Int) == 0) = true := beq_iff_eq.mpr c39
                              have c39b1 : ((t250.length : Int) != 0) = false := bne_eq_false_iff_eq.mpr c39
                              clear c39
                              obtain rfl := Option.some.inj H
                              go_wp2_with (first | ((with_reducible refine gate_callee (f := 9) rfl ?_); refine goesL_ (some 65) rfl rfl Tryd.func9 (by kernel_rfl) rfl #[.string a0] rfl (by (try simp only [List.map_toArray, List.map_cons, List.map_nil]); first | done | rfl | (simp only [List.length_drop, List.length_take]; rfl)) ?_; (with_reducible refine (deci_Words.calls kj12 a0 t246 t247 _ A27.out).mono ?_); rintro e w40 ⟨v248, rfl, ho0, hb⟩; refine ⟨_, rfl, ?_⟩; have n0_ := Aside0.mk (Kd.R_lower ho0 (below_size (by repeat (first | (with_reducible first | exact HB.out | apply below_alloc | apply pw_below_drewN | apply below_drew1) | exact HB.out)))); have n1_ := Aside0.mk (below_step (by repeat (first | (with_reducible first | exact HB.out | apply below_alloc | apply pw_below_drewN | apply below_drew1) | exact HB.out)) hb); clear HB; have HO249 := n0_; have HB := n1_; clear n0_ n1_; (try clear hb); (try clear hb2); (try clear hk); (try clear hi); (try clear ho0)) | ((with_reducible refine gate_callee (f := 9) rfl ?_); refine goesL_ (some 70) rfl rfl Tryd.func9 (by kernel_rfl) rfl #[.string a1] rfl (by (try simp only [List.map_toArray, List.map_cons, List.map_nil]); first | done | rfl | (simp only [List.length_drop, List.length_take]; rfl)) ?_; (with_reducible refine (deci_Words.calls kj12 a1 t250 t251 _ A28.out).mono ?_); rintro e w41 ⟨v252, rfl, ho0, hb⟩; refine ⟨_, rfl, ?_⟩; have n0_ := Aside0.mk (Kd.R_elder' (by (with_reducible repeat (first | apply Kd.R_alloc | apply Kd.R_drewN | apply Kd.R_drew)); exact HO249.out) (Kd.R_base ho0) hb); have n1_ := Aside0.mk (Kd.R_lower (Kd.R_new' ho0 (Kd.R_lt (by (with_reducible repeat (first | apply Kd.R_alloc | apply Kd.R_drewN | apply Kd.R_drew)); exact HO249.out))) (below_size (by repeat (first | (with_reducible first | exact HB.out | apply below_alloc | apply pw_below_drewN | apply below_drew1) | exact HB.out)))); have n2_ := Aside0.mk (below_step (by repeat (first | (with_reducible first | exact HB.out | apply below_alloc | apply pw_below_drewN | apply below_drew1) | exact HB.out)) hb); clear HO249; clear HB; have HO249 := n0_; have HO253 := n1_; have HB := n2_; clear n0_ n1_ n2_; (try clear hb); (try clear hb2); (try clear hk); (try clear hi); (try clear ho0)) | ((with_reducible refine gate_callee (f := 9) rfl ?_); refine goesL_ (some 78) rfl rfl Tryd.func9 (by kernel_rfl) rfl #[.string ((a0 ++ (⟨#[32]⟩ : ByteArray)) ++ a1)] rfl (by (try simp only [List.map_toArray, List.map_cons, List.map_nil]); first | done | rfl | (simp only [List.length_drop, List.length_take]; rfl)) ?_; (with_reducible refine (deci_Words.calls kj12 ((a0 ++ (⟨#[32]⟩ : ByteArray)) ++ a1) t254 t255 _ A31.out).mono ?_); rintro e w42 ⟨v256, rfl, ho0, hb⟩; refine ⟨_, rfl, ?_⟩; have n0_ := Aside0.mk (Kd.R_elder' (by (with_reducible repeat (first | apply Kd.R_alloc | apply Kd.R_drewN | apply Kd.R_drew)); exact HO249.out) (Kd.R_base ho0) hb); have n1_ := Aside0.mk (Kd.R_elder' (by (with_reducible repeat (first | apply Kd.R_alloc | apply Kd.R_drewN | apply Kd.R_drew)); exact HO253.out) (Kd.R_base ho0) hb); have n2_ := Aside0.mk (Kd.R_lower (Kd.R_new' (Kd.R_new' ho0 (Kd.R_lt (by (with_reducible repeat (first | apply Kd.R_alloc | apply Kd.R_drewN | apply Kd.R_drew)); exact HO249.out))) (Kd.R_lt (by (with_reducible repeat (first | apply Kd.R_alloc | apply Kd.R_drewN | apply Kd.R_drew)); exact HO253.out))) (below_size (by repeat (first | (with_reducible first | exact HB.out | apply below_alloc | apply pw_below_drewN | apply below_drew1) | exact HB.out)))); have n3_ := Aside0.mk (below_step (by repeat (first | (with_reducible first | exact HB.out | apply below_alloc | apply pw_below_drewN | apply below_drew1) | exact HB.out)) hb); clear HO249; clear HO253; clear HB; have HO249 := n0_; have HO253 := n1_; have HO257 := n2_; have HB := n3_; clear n0_ n1_ n2_ n3_; (try clear hb); (try clear hb2); (try clear hk); (try clear hi); (try clear ho0); obtain ⟨Ao43, co43, eo43⟩ := Kd.R_slice HO249.out; subst eo43; obtain ⟨Ao44, co44, eo44⟩ := Kd.R_slice HO253.out; subst eo44))
                              go_ret
                              exact ⟨by first | rfl | (simp [errW_none, errW_some] <;> rfl) | (simp [*, errW_none, errW_some] <;> rfl), by repeat (first | (with_reducible first | exact HB.out | apply below_alloc | apply pw_below_drewN | apply below_drew1) | exact HB.out)⟩
                            · rw [if_neg c39] at H
                              have c39b0 : ((t250.length : Int) == 0) = false := beq_eq_false_iff_ne.mpr c39
                              have c39b1 : ((t250.length : Int) != 0) = true := bne_iff_ne.mpr c39
                              have c39b2 : ¬ (t250 = []) := fun h_ => c39 (by rw [h_]; rfl)
                              by_cases c45 : t255 = 0
                              · rw [if_pos c45] at H
                                have c45b0 : (t255 == 0) = true := beq_iff_eq.mpr c45
                                have c45b1 : (t255 != 0) = false := bne_eq_false_iff_eq.mpr c45
                                clear c45
                                by_cases c46 : t246.length + t250.length < 8796093022208
                                · rw [if_pos c46] at H
                                  have LMc46 := Aside0.mk c46
                                  clear c46
                                  obtain ⟨y258, hy258⟩ : ∃ y_ : List ByteArray, y_ = (t246 ++ t250) := ⟨_, rfl⟩
                                  replace H : ((jitneyref03_Same.f kj12 t254 y258).bind fun t261 => (some t261)) = some r := by first | (rw [hy258]; with_reducible exact H) | (have H2_ := (Option.bind_some _ _).symm.trans H; rw [hy258]; with_reducible exact H2_) | (have H2_ := (Option.bind_some _ _).symm.trans H; with_reducible exact H2_) | with_reducible exact H | (rw [hy258]; exact H) | exact H
                                  have Ny258 := Aside0.mk hy258
                                  clear hy258
                                  replace H := Option.bind_eq_some_iff.mp H
                                  obtain ⟨t261, A470, H⟩ := H
                                  replace H : (some t261) = some r := H
                                  have A47 := Aside0.mk A470
                                  clear A470
                                  obtain rfl := Option.some.inj H
                                  go_wp2_with (first | ((with_reducible refine gate_callee (f := 9) rfl ?_); refine goesL_ (some 65) rfl rfl Tryd.func9 (by kernel_rfl) rfl #[.string a0] rfl (by (try simp only [List.map_toArray, List.map_cons, List.map_nil]); first | done | rfl | (simp only [List.length_drop, List.length_take]; rfl)) ?_; (with_reducible refine (deci_Words.calls kj12 a0 t246 t247 _ A27.out).mono ?_); rintro e w48 ⟨v248, rfl, ho0, hb⟩; refine ⟨_, rfl, ?_⟩; have n0_ := Aside0.mk (Kd.R_lower ho0 (below_size (by repeat (first | (with_reducible first | exact HB.out | apply below_alloc | apply pw_below_drewN | apply below_drew1) | exact HB.out)))); have n1_ := Aside0.mk (below_step (by repeat (first | (with_reducible first | exact HB.out | apply below_alloc | apply pw_below_drewN | apply below_drew1) | exact HB.out)) hb); clear HB; have HO249 := n0_; have HB := n1_; clear n0_ n1_; (try clear hb); (try clear hb2); (try clear hk); (try clear hi); (try clear ho0)) | ((with_reducible refine gate_callee (f := 9) rfl ?_); refine goesL_ (some 70) rfl rfl Tryd.func9 (by kernel_rfl) rfl #[.string a1] rfl (by (try simp only [List.map_toArray, List.map_cons, List.map_nil]); first | done | rfl | (simp only [List.length_drop, List.length_take]; rfl)) ?_; (with_reducible refine (deci_Words.calls kj12 a1 t250 t251 _ A28.out).mono ?_); rintro e w49 ⟨v252, rfl, ho0, hb⟩; refine ⟨_, rfl, ?_⟩; have n0_ := Aside0.mk (Kd.R_elder' (by (with_reducible repeat (first | apply Kd.R_alloc | apply Kd.R_drewN | apply Kd.R_drew)); exact HO249.out) (Kd.R_base ho0) hb); have n1_ := Aside0.mk (Kd.R_lower (Kd.R_new' ho0 (Kd.R_lt (by (with_reducible repeat (first | apply Kd.R_alloc | apply Kd.R_drewN | apply Kd.R_drew)); exact HO249.out))) (below_size (by repeat (first | (with_reducible first | exact HB.out | apply below_alloc | apply pw_below_drewN | apply below_drew1) | exact HB.out)))); have n2_ := Aside0.mk (below_step (by repeat (first | (with_reducible first | exact HB.out | apply below_alloc | apply pw_below_drewN | apply below_drew1) | exact HB.out)) hb); clear HO249; clear HB; have HO249 := n0_; have HO253 := n1_; have HB := n2_; clear n0_ n1_ n2_; (try clear hb); (try clear hb2); (try clear hk); (try clear hi); (try clear ho0)) | ((with_reducible refine gate_callee (f := 9) rfl ?_); refine goesL_ (some 78) rfl rfl Tryd.func9 (by kernel_rfl) rfl #[.string ((a0 ++ (⟨#[32]⟩ : ByteArray)) ++ a1)] rfl (by (try simp only [List.map_toArray, List.map_cons, List.map_nil]); first | done | rfl | (simp only [List.length_drop, List.length_take]; rfl)) ?_; (with_reducible refine (deci_Words.calls kj12 ((a0 ++ (⟨#[32]⟩ : ByteArray)) ++ a1) t254 t255 _ A31.out).mono ?_); rintro e w50 ⟨v256, rfl, ho0, hb⟩; refine ⟨_, rfl, ?_⟩; have n0_ := Aside0.mk (Kd.R_elder' (by (with_reducible repeat (first | apply Kd.R_alloc | apply Kd.R_drewN | apply Kd.R_drew)); exact HO249.out) (Kd.R_base ho0) hb); have n1_ := Aside0.mk (Kd.R_elder' (by (with_reducible repeat (first | apply Kd.R_alloc | apply Kd.R_drewN | apply Kd.R_drew)); exact HO253.out) (Kd.R_base ho0) hb); have n2_ := Aside0.mk (Kd.R_lower (Kd.R_new' (Kd.R_new' ho0 (Kd.R_lt (by (with_reducible repeat (first | apply Kd.R_alloc | apply Kd.R_drewN | apply Kd.R_drew)); exact HO249.out))) (Kd.R_lt (by (with_reducible repeat (first | apply Kd.R_alloc | apply Kd.R_drewN | apply Kd.R_drew)); exact HO253.out))) (below_size (by repeat (first | (with_reducible first | exact HB.out | apply below_alloc | apply pw_below_drewN | apply below_drew1) | exact HB.out)))); have n3_ := Aside0.mk (below_step (by repeat (first | (with_reducible first | exact HB.out | apply below_alloc | apply pw_below_drewN | apply below_drew1) | exact HB.out)) hb); clear HO249; clear HO253; clear HB; have HO249 := n0_; have HO253 := n1_; have HO257 := n2_; have HB := n3_; clear n0_ n1_ n2_ n3_; (try clear hb); (try clear hb2); (try clear hk); (try clear hi); (try clear ho0); obtain ⟨Ao51, co51, eo51⟩ := Kd.R_slice HO249.out; subst eo51; obtain ⟨Ao52, co52, eo52⟩ := Kd.R_slice HO253.out; subst eo52) | ((with_reducible refine gate_builtin (b := .append) (xs := #[.tmp 103, .tmp 104]) rfl ?_); (try (refine gate_guard (by rfl) ?_; dsimp only)); at_builtin; refine Kd.R_append_rows Kd.string (w0 := w) w.heap.size rfl (.tmp 103) (.tmp 104) 23 9 (.string ⟨#[]⟩) 16 rfl Tryd.underlying23 info9 rfl (by decide) (by omega) (.slice Ao51 t246.length co51) t246 t250 _ _ _ (fun k_ => some k_ ≠ (.slice Ao52 t250.length co52 : Value).ownBlock ∧ some k_ ≠ (v256 : Value).ownBlock) (fun _ => False) rfl rfl ?aO ?aR (fun _ _ h => h) (fun _ h => h.elim) ?aF ?aB ?aS ?aL ?_; (case aR => repeat (first | exact (Kd.R_reads' HO253.out).2.2 | (with_reducible refine Kd.C_alloc ?_ _) | (with_reducible refine Kd.C_drewN ?_ _) | (with_reducible refine Kd.C_drew ?_))); (case aB => exact (by repeat (first | (with_reducible first | exact HB.out | apply below_alloc | apply pw_below_drewN | apply below_drew1) | exact HB.out))); (case aF => exact (fun k_ hk => ⟨Kd.fresh' (Kd.R_lt (by (with_reducible repeat (first | apply Kd.R_alloc | apply Kd.R_drewN | apply Kd.R_drew)); exact HO253.out)) k_ hk, Kd.fresh' (Kd.R_lt (by (with_reducible repeat (first | apply Kd.R_alloc | apply Kd.R_drewN | apply Kd.R_drew)); exact HO257.out)) k_ hk⟩)); (case aO => exact (by (with_reducible repeat (first | apply Kd.R_alloc | apply Kd.R_drewN | apply Kd.R_drew)); exact Kd.R_mono HO249.out (fun _ hk => ⟨hk.1.2, hk.2⟩))); (case aS => exact (below_size (by repeat (first | (with_reducible first | exact HB.out | apply below_alloc | apply pw_below_drewN | apply below_drew1) | exact HB.out)))); (case aL => have := LMc46.out; omega); intro v259 w53 ho hb hg hat; rw [← Ny258.out] at ho; have n0_ := Aside0.mk (Kd.R_after (ok := (fun k_ => some k_ ≠ (v256 : Value).ownBlock)) (by (with_reducible repeat (first | apply Kd.R_alloc | apply Kd.R_drewN | apply Kd.R_drew)); exact Kd.R_mono HO253.out (fun _ hk => ⟨hk.2, hk.1.2⟩)) hg hat); have n1_ := Aside0.mk (Kd.R_after (ok := (fun k_ => some k_ ≠ (.slice Ao52 t250.length co52 : Value).ownBlock)) (by (with_reducible repeat (first | apply Kd.R_alloc | apply Kd.R_drewN | apply Kd.R_drew)); exact Kd.R_mono HO257.out (fun _ hk => ⟨hk.2, hk.1.2⟩)) hg hat); have n2_ := Aside0.mk (hb); have n3_ := Aside0.mk (ho); clear HO253; clear HO257; clear HB; clear HO249; have HO253 := n0_; have HO257 := n1_; have HB := n2_; have HO260 := n3_; clear n0_ n1_ n2_ n3_; clear ho hb hg hat; obtain ⟨Ao54, co54, eo54⟩ := Kd.R_slice HO257.out; subst eo54; obtain ⟨Ao55, co55, eo55⟩ := Kd.R_slice HO260.out; subst eo55) | (go_at_call 13; (with_reducible refine (jitneyref03_Same.calls kj12 _ _ t254 _ _ y258 t261 _ ?side1 ?side2 ?side3 ?side4 A47.out).mono ?_); (case side1 => repeat (first | exact (Kd.R_reads' HO257.out).2.2 | (with_reducible refine Kd.C_alloc ?_ _) | (with_reducible refine Kd.C_drewN ?_ _) | (with_reducible refine Kd.C_drew ?_))); (case side2 => exact (Kd.R_reads' HO257.out).2.1); (case side3 => repeat (first | exact (Kd.R_reads' HO260.out).2.2 | (with_reducible refine Kd.C_alloc ?_ _) | (with_reducible refine Kd.C_drewN ?_ _) | (with_reducible refine Kd.C_drew ?_))); (case side4 => exact (Kd.R_reads' HO260.out).2.1); rintro e w' ⟨rfl, ⟨nd, rfl⟩⟩))
                                  go_ret
                                  exact ⟨by first | rfl | (simp [errW_none, errW_some] <;> rfl) | (simp [*, errW_none, errW_some] <;> rfl), by repeat (first | (with_reducible first | exact HB.out | apply below_alloc | apply pw_below_drewN | apply below_drew1) | exact HB.out)⟩
                                · rw [if_neg c46] at H
                                  exact absurd H (by simp)
                              · rw [if_neg c45] at H
                                have c45b0 : (t255 == 0) = false := beq_eq_false_iff_ne.mpr c45
                                have c45b1 : (t255 != 0) = true := bne_iff_ne.mpr c45
                                obtain rfl := Option.some.inj H
                                go_wp2_with (first | ((with_reducible refine gate_callee (f := 9) rfl ?_); refine goesL_ (some 65) rfl rfl Tryd.func9 (by kernel_rfl) rfl #[.string a0] rfl (by (try simp only [List.map_toArray, List.map_cons, List.map_nil]); first | done | rfl | (simp only [List.length_drop, List.length_take]; rfl)) ?_; (with_reducible refine (deci_Words.calls kj12 a0 t246 t247 _ A27.out).mono ?_); rintro e w56 ⟨v248, rfl, ho0, hb⟩; refine ⟨_, rfl, ?_⟩; have n0_ := Aside0.mk (Kd.R_lower ho0 (below_size (by repeat (first | (with_reducible first | exact HB.out | apply below_alloc | apply pw_below_drewN | apply below_drew1) | exact HB.out)))); have n1_ := Aside0.mk (below_step (by repeat (first | (with_reducible first | exact HB.out | apply below_alloc | apply pw_below_drewN | apply below_drew1) | exact HB.out)) hb); clear HB; have HO249 := n0_; have HB := n1_; clear n0_ n1_; (try clear hb); (try clear hb2); (try clear hk); (try clear hi); (try clear ho0)) | ((with_reducible refine gate_callee (f := 9) rfl ?_); refine goesL_ (some 70) rfl rfl Tryd.func9 (by kernel_rfl) rfl #[.string a1] rfl (by (try simp only [List.map_toArray, List.map_cons, List.map_nil]); first | done | rfl | (simp only [List.length_drop, List.length_take]; rfl)) ?_; (with_reducible refine (deci_Words.calls kj12 a1 t250 t251 _ A28.out).mono ?_); rintro e w57 ⟨v252, rfl, ho0, hb⟩; refine ⟨_, rfl, ?_⟩; have n0_ := Aside0.mk (Kd.R_elder' (by (with_reducible repeat (first | apply Kd.R_alloc | apply Kd.R_drewN | apply Kd.R_drew)); exact HO249.out) (Kd.R_base ho0) hb); have n1_ := Aside0.mk (Kd.R_lower (Kd.R_new' ho0 (Kd.R_lt (by (with_reducible repeat (first | apply Kd.R_alloc | apply Kd.R_drewN | apply Kd.R_drew)); exact HO249.out))) (below_size (by repeat (first | (with_reducible first | exact HB.out | apply below_alloc | apply pw_below_drewN | apply below_drew1) | exact HB.out)))); have n2_ := Aside0.mk (below_step (by repeat (first | (with_reducible first | exact HB.out | apply below_alloc | apply pw_below_drewN | apply below_drew1) | exact HB.out)) hb); clear HO249; clear HB; have HO249 := n0_; have HO253 := n1_; have HB := n2_; clear n0_ n1_ n2_; (try clear hb); (try clear hb2); (try clear hk); (try clear hi); (try clear ho0)) | ((with_reducible refine gate_callee (f := 9) rfl ?_); refine goesL_ (some 78) rfl rfl Tryd.func9 (by kernel_rfl) rfl #[.string ((a0 ++ (⟨#[32]⟩ : ByteArray)) ++ a1)] rfl (by (try simp only [List.map_toArray, List.map_cons, List.map_nil]); first | done | rfl | (simp only [List.length_drop, List.length_take]; rfl)) ?_; (with_reducible refine (deci_Words.calls kj12 ((a0 ++ (⟨#[32]⟩ : ByteArray)) ++ a1) t254 t255 _ A31.out).mono ?_); rintro e w58 ⟨v256, rfl, ho0, hb⟩; refine ⟨_, rfl, ?_⟩; have n0_ := Aside0.mk (Kd.R_elder' (by (with_reducible repeat (first | apply Kd.R_alloc | apply Kd.R_drewN | apply Kd.R_drew)); exact HO249.out) (Kd.R_base ho0) hb); have n1_ := Aside0.mk (Kd.R_elder' (by (with_reducible repeat (first | apply Kd.R_alloc | apply Kd.R_drewN | apply Kd.R_drew)); exact HO253.out) (Kd.R_base ho0) hb); have n2_ := Aside0.mk (Kd.R_lower (Kd.R_new' (Kd.R_new' ho0 (Kd.R_lt (by (with_reducible repeat (first | apply Kd.R_alloc | apply Kd.R_drewN | apply Kd.R_drew)); exact HO249.out))) (Kd.R_lt (by (with_reducible repeat (first | apply Kd.R_alloc | apply Kd.R_drewN | apply Kd.R_drew)); exact HO253.out))) (below_size (by repeat (first | (with_reducible first | exact HB.out | apply below_alloc | apply pw_below_drewN | apply below_drew1) | exact HB.out)))); have n3_ := Aside0.mk (below_step (by repeat (first | (with_reducible first | exact HB.out | apply below_alloc | apply pw_below_drewN | apply below_drew1) | exact HB.out)) hb); clear HO249; clear HO253; clear HB; have HO249 := n0_; have HO253 := n1_; have HO257 := n2_; have HB := n3_; clear n0_ n1_ n2_ n3_; (try clear hb); (try clear hb2); (try clear hk); (try clear hi); (try clear ho0); obtain ⟨Ao59, co59, eo59⟩ := Kd.R_slice HO249.out; subst eo59; obtain ⟨Ao60, co60, eo60⟩ := Kd.R_slice HO253.out; subst eo60))
                                go_ret
                                exact ⟨by first | rfl | (simp [errW_none, errW_some] <;> rfl) | (simp [*, errW_none, errW_some] <;> rfl), by repeat (first | (with_reducible first | exact HB.out | apply below_alloc | apply pw_below_drewN | apply below_drew1) | exact HB.out)⟩
                        · rw [if_neg c33] at H
                          have c33b0 : (t251 == 0) = false := beq_eq_false_iff_ne.mpr c33
                          have c33b1 : (t251 != 0) = true := bne_iff_ne.mpr c33
                          obtain rfl := Option.some.inj H
                          go_wp2_with (first | ((with_reducible refine gate_callee (f := 9) rfl ?_); refine goesL_ (some 65) rfl rfl Tryd.func9 (by kernel_rfl) rfl #[.string a0] rfl (by (try simp only [List.map_toArray, List.map_cons, List.map_nil]); first | done | rfl | (simp only [List.length_drop, List.length_take]; rfl)) ?_; (with_reducible refine (deci_Words.calls kj12 a0 t246 t247 _ A27.out).mono ?_); rintro e w61 ⟨v248, rfl, ho0, hb⟩; refine ⟨_, rfl, ?_⟩; have n0_ := Aside0.mk (Kd.R_lower ho0 (below_size (by repeat (first | (with_reducible first | exact HB.out | apply below_alloc | apply pw_below_drewN | apply below_drew1) | exact HB.out)))); have n1_ := Aside0.mk (below_step (by repeat (first | (with_reducible first | exact HB.out | apply below_alloc | apply pw_below_drewN | apply below_drew1) | exact HB.out)) hb); clear HB; have HO249 := n0_; have HB := n1_; clear n0_ n1_; (try clear hb); (try clear hb2); (try clear hk); (try clear hi); (try clear ho0)) | ((with_reducible refine gate_callee (f := 9) rfl ?_); refine goesL_ (some 70) rfl rfl Tryd.func9 (by kernel_rfl) rfl #[.string a1] rfl (by (try simp only [List.map_toArray, List.map_cons, List.map_nil]); first | done | rfl | (simp only [List.length_drop, List.length_take]; rfl)) ?_; (with_reducible refine (deci_Words.calls kj12 a1 t250 t251 _ A28.out).mono ?_); rintro e w62 ⟨v252, rfl, ho0, hb⟩; refine ⟨_, rfl, ?_⟩; have n0_ := Aside0.mk (Kd.R_elder' (by (with_reducible repeat (first | apply Kd.R_alloc | apply Kd.R_drewN | apply Kd.R_drew)); exact HO249.out) (Kd.R_base ho0) hb); have n1_ := Aside0.mk (Kd.R_lower (Kd.R_new' ho0 (Kd.R_lt (by (with_reducible repeat (first | apply Kd.R_alloc | apply Kd.R_drewN | apply Kd.R_drew)); exact HO249.out))) (below_size (by repeat (first | (with_reducible first | exact HB.out | apply below_alloc | apply pw_below_drewN | apply below_drew1) | exact HB.out)))); have n2_ := Aside0.mk (below_step (by repeat (first | (with_reducible first | exact HB.out | apply below_alloc | apply pw_below_drewN | apply below_drew1) | exact HB.out)) hb); clear HO249; clear HB; have HO249 := n0_; have HO253 := n1_; have HB := n2_; clear n0_ n1_ n2_; (try clear hb); (try clear hb2); (try clear hk); (try clear hi); (try clear ho0)) | ((with_reducible refine gate_callee (f := 9) rfl ?_); refine goesL_ (some 78) rfl rfl Tryd.func9 (by kernel_rfl) rfl #[.string ((a0 ++ (⟨#[32]⟩ : ByteArray)) ++ a1)] rfl (by (try simp only [List.map_toArray, List.map_cons, List.map_nil]); first | done | rfl | (simp only [List.length_drop, List.length_take]; rfl)) ?_; (with_reducible refine (deci_Words.calls kj12 ((a0 ++ (⟨#[32]⟩ : ByteArray)) ++ a1) t254 t255 _ A31.out).mono ?_); rintro e w63 ⟨v256, rfl, ho0, hb⟩; refine ⟨_, rfl, ?_⟩; have n0_ := Aside0.mk (Kd.R_elder' (by (with_reducible repeat (first | apply Kd.R_alloc | apply Kd.R_drewN | apply Kd.R_drew)); exact HO249.out) (Kd.R_base ho0) hb); have n1_ := Aside0.mk (Kd.R_elder' (by (with_reducible repeat (first | apply Kd.R_alloc | apply Kd.R_drewN | apply Kd.R_drew)); exact HO253.out) (Kd.R_base ho0) hb); have n2_ := Aside0.mk (Kd.R_lower (Kd.R_new' (Kd.R_new' ho0 (Kd.R_lt (by (with_reducible repeat (first | apply Kd.R_alloc | apply Kd.R_drewN | apply Kd.R_drew)); exact HO249.out))) (Kd.R_lt (by (with_reducible repeat (first | apply Kd.R_alloc | apply Kd.R_drewN | apply Kd.R_drew)); exact HO253.out))) (below_size (by repeat (first | (with_reducible first | exact HB.out | apply below_alloc | apply pw_below_drewN | apply below_drew1) | exact HB.out)))); have n3_ := Aside0.mk (below_step (by repeat (first | (with_reducible first | exact HB.out | apply below_alloc | apply pw_below_drewN | apply below_drew1) | exact HB.out)) hb); clear HO249; clear HO253; clear HB; have HO249 := n0_; have HO253 := n1_; have HO257 := n2_; have HB := n3_; clear n0_ n1_ n2_ n3_; (try clear hb); (try clear hb2); (try clear hk); (try clear hi); (try clear ho0)))
                          go_ret
                          exact ⟨by first | rfl | (simp [errW_none, errW_some] <;> rfl) | (simp [*, errW_none, errW_some] <;> rfl), by repeat (first | (with_reducible first | exact HB.out | apply below_alloc | apply pw_below_drewN | apply below_drew1) | exact HB.out)⟩
                      · rw [if_neg c32] at H
                        have c32b0 : (t247 == 0) = false := beq_eq_false_iff_ne.mpr c32
                        have c32b1 : (t247 != 0) = true := bne_iff_ne.mpr c32
                        obtain rfl := Option.some.inj H
                        go_wp2_with (first | ((with_reducible refine gate_callee (f := 9) rfl ?_); refine goesL_ (some 65) rfl rfl Tryd.func9 (by kernel_rfl) rfl #[.string a0] rfl (by (try simp only [List.map_toArray, List.map_cons, List.map_nil]); first | done | rfl | (simp only [List.length_drop, List.length_take]; rfl)) ?_; (with_reducible refine (deci_Words.calls kj12 a0 t246 t247 _ A27.out).mono ?_); rintro e w64 ⟨v248, rfl, ho0, hb⟩; refine ⟨_, rfl, ?_⟩; have n0_ := Aside0.mk (Kd.R_lower ho0 (below_size (by repeat (first | (with_reducible first | exact HB.out | apply below_alloc | apply pw_below_drewN | apply below_drew1) | exact HB.out)))); have n1_ := Aside0.mk (below_step (by repeat (first | (with_reducible first | exact HB.out | apply below_alloc | apply pw_below_drewN | apply below_drew1) | exact HB.out)) hb); clear HB; have HO249 := n0_; have HB := n1_; clear n0_ n1_; (try clear hb); (try clear hb2); (try clear hk); (try clear hi); (try clear ho0)) | ((with_reducible refine gate_callee (f := 9) rfl ?_); refine goesL_ (some 70) rfl rfl Tryd.func9 (by kernel_rfl) rfl #[.string a1] rfl (by (try simp only [List.map_toArray, List.map_cons, List.map_nil]); first | done | rfl | (simp only [List.length_drop, List.length_take]; rfl)) ?_; (with_reducible refine (deci_Words.calls kj12 a1 t250 t251 _ A28.out).mono ?_); rintro e w65 ⟨v252, rfl, ho0, hb⟩; refine ⟨_, rfl, ?_⟩; have n0_ := Aside0.mk (Kd.R_elder' (by (with_reducible repeat (first | apply Kd.R_alloc | apply Kd.R_drewN | apply Kd.R_drew)); exact HO249.out) (Kd.R_base ho0) hb); have n1_ := Aside0.mk (Kd.R_lower (Kd.R_new' ho0 (Kd.R_lt (by (with_reducible repeat (first | apply Kd.R_alloc | apply Kd.R_drewN | apply Kd.R_drew)); exact HO249.out))) (below_size (by repeat (first | (with_reducible first | exact HB.out | apply below_alloc | apply pw_below_drewN | apply below_drew1) | exact HB.out)))); have n2_ := Aside0.mk (below_step (by repeat (first | (with_reducible first | exact HB.out | apply below_alloc | apply pw_below_drewN | apply below_drew1) | exact HB.out)) hb); clear HO249; clear HB; have HO249 := n0_; have HO253 := n1_; have HB := n2_; clear n0_ n1_ n2_; (try clear hb); (try clear hb2); (try clear hk); (try clear hi); (try clear ho0)) | ((with_reducible refine gate_callee (f := 9) rfl ?_); refine goesL_ (some 78) rfl rfl Tryd.func9 (by kernel_rfl) rfl #[.string ((a0 ++ (⟨#[32]⟩ : ByteArray)) ++ a1)] rfl (by (try simp only [List.map_toArray, List.map_cons, List.map_nil]); first | done | rfl | (simp only [List.length_drop, List.length_take]; rfl)) ?_; (with_reducible refine (deci_Words.calls kj12 ((a0 ++ (⟨#[32]⟩ : ByteArray)) ++ a1) t254 t255 _ A31.out).mono ?_); rintro e w66 ⟨v256, rfl, ho0, hb⟩; refine ⟨_, rfl, ?_⟩; have n0_ := Aside0.mk (Kd.R_elder' (by (with_reducible repeat (first | apply Kd.R_alloc | apply Kd.R_drewN | apply Kd.R_drew)); exact HO249.out) (Kd.R_base ho0) hb); have n1_ := Aside0.mk (Kd.R_elder' (by (with_reducible repeat (first | apply Kd.R_alloc | apply Kd.R_drewN | apply Kd.R_drew)); exact HO253.out) (Kd.R_base ho0) hb); have n2_ := Aside0.mk (Kd.R_lower (Kd.R_new' (Kd.R_new' ho0 (Kd.R_lt (by (with_reducible repeat (first | apply Kd.R_alloc | apply Kd.R_drewN | apply Kd.R_drew)); exact HO249.out))) (Kd.R_lt (by (with_reducible repeat (first | apply Kd.R_alloc | apply Kd.R_drewN | apply Kd.R_drew)); exact HO253.out))) (below_size (by repeat (first | (with_reducible first | exact HB.out | apply below_alloc | apply pw_below_drewN | apply below_drew1) | exact HB.out)))); have n3_ := Aside0.mk (below_step (by repeat (first | (with_reducible first | exact HB.out | apply below_alloc | apply pw_below_drewN | apply below_drew1) | exact HB.out)) hb); clear HO249; clear HO253; clear HB; have HO249 := n0_; have HO253 := n1_; have HO257 := n2_; have HB := n3_; clear n0_ n1_ n2_ n3_; (try clear hb); (try clear hb2); (try clear hk); (try clear hi); (try clear ho0)))
                        go_ret
                        exact ⟨by first | rfl | (simp [errW_none, errW_some] <;> rfl) | (simp [*, errW_none, errW_some] <;> rfl), by repeat (first | (with_reducible first | exact HB.out | apply below_alloc | apply pw_below_drewN | apply below_drew1) | exact HB.out)⟩
                    · rw [if_neg c30] at H
                      exact absurd H (by simp)
                  · rw [if_neg c29] at H
                    exact absurd H (by simp)
          · rw [if_neg c11] at H
            exact absurd H (by simp)
  · replace c4 := Bool.eq_false_iff.mpr c4
    subst c4
    have H1 : (some false) = some r := by rw [if_neg (show ¬ (false = true) by decide)] at H; exact H
    clear H
    have H := H1
    clear H1
    obtain rfl := Option.some.inj H
    go_enter Tryd.func6, Tryd.ntmps6
    go_wp2_with (first | ((with_reducible refine gate_callee (f := 8) rfl ?_); refine goesL_ (some 17) rfl rfl Tryd.func8 (by kernel_rfl) rfl #[] rfl (by (try simp only [List.map_toArray, List.map_cons, List.map_nil]); first | done | rfl | (simp only [List.length_drop, List.length_take]; rfl)) ?_; (with_reducible refine (jitneylaw03_alive.calls k  false _ A3.out (GW.step hG (by repeat (first | (with_reducible first | exact HB.out | apply below_alloc | apply pw_below_drewN | apply below_drew1) | exact HB.out)))).mono ?_); rintro e w67 ⟨rfl, hb⟩; refine ⟨_, rfl, ?_⟩; have n0_ := Aside0.mk (below_step (by repeat (first | (with_reducible first | exact HB.out | apply below_alloc | apply pw_below_drewN | apply below_drew1) | exact HB.out)) hb); clear HB; have HB := n0_; clear n0_; (try clear hb); (try clear hb2); (try clear hk); (try clear hi)))
    go_ret
    exact ⟨by first | rfl | (simp [errW_none, errW_some] <;> rfl) | (simp [*, errW_none, errW_some] <;> rfl), by repeat (first | (with_reducible first | exact HB.out | apply below_alloc | apply pw_below_drewN | apply below_drew1) | exact HB.out)⟩

end Go.Proofs.YtfhpppibiemhkaaDoor.P
