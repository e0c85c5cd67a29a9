-- printed by the session's own program wip/xprint.py (over the kit's printer); nothing here is trusted: Lean checks it
import Derived.Test.YtfhpppibiemhkaaDoorStr
import Derived.Test.YtfhpppibiemhkaaDoorP0
import Derived.Test.YtfhpppibiemhkaaDoorP3
import Derived.Test.YtfhpppibiemhkaaDoorP4
import Derived.Test.YtfhpppibiemhkaaDoorP5
import Derived.Test.YtfhpppibiemhkaaDoorP6
import Derived.Test.YtfhpppibiemhkaaDoorP8
namespace Go.Proofs.YtfhpppibiemhkaaDoor.P
open Go.Proofs.YtfhpppibiemhkaaDoorR
open Go.RowKit Go.Proofs.YtfhpppibiemhkaaDoorW.PrintWords Go.Proofs.YtfhpppibiemhkaaDoorW.PrintLast Go.Proofs.YtfhpppibiemhkaaDoorW.PrintMore
attribute [local go_sem] max2_int min2_int max_two min_two max_three min_three max_four min_four   -- for this text's walks alone
set_option linter.unusedVariables false
set_option linter.unusedSimpArgs false

/-! ### deci_Write: function 14 -/
def deci_Write.j0 : Nat → Int → Int → ByteArray → Option (ByteArray)
  | 0, _, _, _ => none
  | k + 1, x1, x5, x6 => (deci_power.f k x1).bind fun t115 => (if (IntKind.u64.wrap (t115)) = 0 then (none) else ((strconv_FormatUint_24.f (IntKind.u64.wrap (Int.tdiv x5 (IntKind.u64.wrap (t115)))) 10).bind fun t116 => (if x6.size + t116.size ≤ 9223372036854775807 then (if (Int.tmod x5 (IntKind.u64.wrap (t115))) = 0 then (some (x6 ++ t116)) else ((strconv_FormatUint_24.f (Int.tmod x5 (IntKind.u64.wrap (t115))) 10).bind fun t117 => ((strings_Repeat.f (⟨#[48]⟩ : ByteArray) (wrap64 (x1 - (t117.size : Int)))).bind fun t118 => (if t118.size + t117.size ≤ 9223372036854775807 then (if (x6 ++ t116).size + 1 ≤ 9223372036854775807 then ((strings_TrimRight.f (t118 ++ t117) (⟨#[48]⟩ : ByteArray)).bind fun t119 => (if ((x6 ++ t116) ++ (⟨#[46]⟩ : ByteArray)).size + t119.size ≤ 9223372036854775807 then (some (((x6 ++ t116) ++ (⟨#[46]⟩ : ByteArray)) ++ t119)) else (none))) else (none)) else (none))))) else (none))))
def deci_Write.f (k : Nat) (a0 : Int) (a1 : Int) : Option (ByteArray) := if a0 < 0 then (deci_Write.j0 k (mn (mx a1 0) 6) (IntKind.u64.wrap (-(IntKind.u64.wrap (a0)))) (⟨#[45]⟩ : ByteArray)) else (deci_Write.j0 k (mn (mx a1 0) 6) (IntKind.u64.wrap (a0)) (⟨#[]⟩ : ByteArray))
theorem deci_Write.mono_l : ∀ k, (∀ y0 y1 y2, LeO (deci_Write.j0 k y0 y1 y2) (deci_Write.j0 (k + 1) y0 y1 y2))
  | 0 => fun _ _ _ r h => by simp [deci_Write.j0] at h
  | k + 1 => by
    have ih0 := deci_Write.mono_l k
    · intro y0 y1 y2
      unfold deci_Write.j0
      repeat' first
      | (with_reducible exact ih0 _ _ _)
      | (with_reducible exact deci_power.mono _ _)
      | (with_reducible exact LeO.refl _)
      | (with_reducible exact LeO.none _)
      | (with_reducible refine LeO.ite ?_ ?_)
      | (with_reducible refine LeO.bind ?_ (fun _ => ?_))
      | exact ih0 _ _ _
      | exact deci_power.mono _ _
      | exact LeO.none _
      | refine LeO.ite ?_ ?_
      | refine LeO.bind ?_ (fun _ => ?_)
theorem deci_Write.mono : ∀ a0 a1 k, LeO (deci_Write.f k a0 a1) (deci_Write.f (k + 1) a0 a1) := by
  intro a0 a1 k
  have ih0 := deci_Write.mono_l k
  unfold deci_Write.f
  repeat' first
      | (with_reducible exact ih0 _ _ _)
      | (with_reducible exact deci_power.mono _ _)
      | (with_reducible exact LeO.refl _)
      | (with_reducible exact LeO.none _)
      | (with_reducible refine LeO.ite ?_ ?_)
      | (with_reducible refine LeO.bind ?_ (fun _ => ?_))
      | exact ih0 _ _ _
      | exact deci_power.mono _ _
      | exact LeO.none _
      | refine LeO.ite ?_ ?_
      | refine LeO.bind ?_ (fun _ => ?_)
set_option maxHeartbeats 8000000 in
set_option maxRecDepth 100000 in
theorem deci_Write.calls (k : Nat) (a0 : Int) (a1 : Int) (r : ByteArray) (w : World) (h : deci_Write.f k a0 a1 = some r) (hG : GW w) :
    Calls Tryd.prog 14 #[.int .i64 a0, .int .i64 a1] w fun e w' => e = .returned (.string r) ∧ Below w.heap.size w w' := by
  have HB := Aside0.mk (Below.refl w.heap.size w)
  have H : (if a0 < 0 then (deci_Write.j0 k (mn (mx a1 0) 6) (IntKind.u64.wrap (-(IntKind.u64.wrap (a0)))) (⟨#[45]⟩ : ByteArray)) else (deci_Write.j0 k (mn (mx a1 0) 6) (IntKind.u64.wrap (a0)) (⟨#[]⟩ : ByteArray))) = some r := h
  clear h
  obtain ⟨ji3, hji3⟩ : ∃ j_ : Int, (mx a1 0) = j_ := ⟨_, rfl⟩
  replace H : (if a0 < 0 then (deci_Write.j0 k (mn (ji3) 6) (IntKind.u64.wrap (-(IntKind.u64.wrap (a0)))) (⟨#[45]⟩ : ByteArray)) else (deci_Write.j0 k (mn (ji3) 6) (IntKind.u64.wrap (a0)) (⟨#[]⟩ : ByteArray))) = some r := by first | (rw [hji3] at H; exact H) | (simp only [hji3] at H ⊢; exact H)
  (try (have hji3l : 0 ≤ ji3 := by (rw [← hji3]; unfold mx; (repeat' split) <;> omega)))
  (try (have hji3m : 0 ≤ ji3 := by omega))
  have hji3_ : (if a1 < 0 then 0 else a1) = ji3 := hji3
  obtain ⟨ji4, hji4⟩ : ∃ j_ : Int, (mn (ji3) 6) = j_ := ⟨_, rfl⟩
  replace H : (if a0 < 0 then (deci_Write.j0 k ji4 (IntKind.u64.wrap (-(IntKind.u64.wrap (a0)))) (⟨#[45]⟩ : ByteArray)) else (deci_Write.j0 k ji4 (IntKind.u64.wrap (a0)) (⟨#[]⟩ : ByteArray))) = some r := by first | (rw [hji4] at H; exact H) | (simp only [hji4] at H ⊢; exact H)
  have hji4_ : (if 6 < (ji3) then 6 else (ji3)) = ji4 := hji4
  have HC5 := Aside0.mk H
  clear H
  go_enter Tryd.func14, Tryd.ntmps14
  go_upto_if 16 with (fail)
  go_cut [5, 6] (fun v5 v6 wc => ∃ (kq : Nat) (x5_4 : Int) (x6_4 : ByteArray), v5 = .int .u64 x5_4 ∧ v6 = .string x6_4 ∧ Aside0 (deci_Write.j0 kq ji4 x5_4 x6_4 = some r) ∧ Aside0 (kq ≤ k) ∧ Aside0 (Below w.heap.size w wc))
  case first =>
    have H := HC5.out
    clear HC5
    by_cases c6 : a0 < 0
    · rw [if_pos c6] at H
      have c6b0 : decide (a0 < 0) = true := decide_eq_true c6
      clear c6
      (first | rw [c6b0] | (simp only [i64_w, i32_w]; rw [c6b0]) | skip)
      have H' := Aside0.mk H
      clear H
      go_wp2
      go_meet
      case rel => exact ⟨_, (IntKind.u64.wrap (-(IntKind.u64.wrap (a0)))), ((⟨#[45]⟩ : ByteArray)), (by first | rfl | (simp; done) | (simp [*]; done)), (by first | rfl | (simp; done) | (simp [*]; done)), H', ⟨by first | omega | exact Nat.le_refl _⟩, ⟨by repeat (first | (with_reducible first | exact HB.out | apply below_alloc | apply pw_below_drewN | apply below_drew1) | exact HB.out)⟩⟩
    · rw [if_neg c6] at H
      have c6b0 : decide (a0 < 0) = false := decide_eq_false c6
      clear c6
      (first | rw [c6b0] | (simp only [i64_w, i32_w]; rw [c6b0]) | skip)
      have H' := Aside0.mk H
      clear H
      go_wp2
      go_meet
      case rel => exact ⟨_, (IntKind.u64.wrap (a0)), ((⟨#[]⟩ : ByteArray)), (by first | rfl | (simp; done) | (simp [*]; done)), (by first | rfl | (simp; done) | (simp [*]; done)), H', ⟨by first | omega | exact Nat.le_refl _⟩, ⟨by repeat (first | (with_reducible first | exact HB.out | apply below_alloc | apply pw_below_drewN | apply below_drew1) | exact HB.out)⟩⟩
  case rest =>
    clear HC5
    try clear c1
    try clear p2
    try clear c6
    try clear c6b0
    obtain ⟨kq, x5_4, x6_4, rfl, rfl, HA, HJ4, HB⟩ := hcut
    cases kq with
    | zero => exact absurd HA.out (by simp [deci_Write.j0])
    | succ kj4 =>
      have H := HA.out
      clear HA
      simp only [deci_Write.j0] at H
      replace H := Option.bind_eq_some_iff.mp H
      obtain ⟨t115, A70, H⟩ := H
      replace H : (if (IntKind.u64.wrap (t115)) = 0 then (none) else ((strconv_FormatUint_24.f (IntKind.u64.wrap (Int.tdiv x5_4 (IntKind.u64.wrap (t115)))) 10).bind fun t116 => (if x6_4.size + t116.size ≤ 9223372036854775807 then (if (Int.tmod x5_4 (IntKind.u64.wrap (t115))) = 0 then (some (x6_4 ++ t116)) else ((strconv_FormatUint_24.f (Int.tmod x5_4 (IntKind.u64.wrap (t115))) 10).bind fun t117 => ((strings_Repeat.f (⟨#[48]⟩ : ByteArray) (wrap64 (ji4 - (t117.size : Int)))).bind fun t118 => (if t118.size + t117.size ≤ 9223372036854775807 then (if (x6_4 ++ t116).size + 1 ≤ 9223372036854775807 then ((strings_TrimRight.f (t118 ++ t117) (⟨#[48]⟩ : ByteArray)).bind fun t119 => (if ((x6_4 ++ t116) ++ (⟨#[46]⟩ : ByteArray)).size + t119.size ≤ 9223372036854775807 then (some (((x6_4 ++ t116) ++ (⟨#[46]⟩ : ByteArray)) ++ t119)) else (none))) else (none)) else (none))))) else (none)))) = some r := H
      have A7 := Aside0.mk A70
      clear A70
      by_cases c8 : (IntKind.u64.wrap (t115)) = 0
      · rw [if_pos c8] at H
        exact absurd H (by simp)
      · rw [if_neg c8] at H
        have c8b0 : ((IntKind.u64.wrap (t115)) == 0) = false := beq_eq_false_iff_ne.mpr c8
        have c8b1 : ((IntKind.u64.wrap (t115)) != 0) = true := bne_iff_ne.mpr c8
        replace H := Option.bind_eq_some_iff.mp H
        obtain ⟨t116, A90, H⟩ := H
        replace H : (if x6_4.size + t116.size ≤ 9223372036854775807 then (if (Int.tmod x5_4 (IntKind.u64.wrap (t115))) = 0 then (some (x6_4 ++ t116)) else ((strconv_FormatUint_24.f (Int.tmod x5_4 (IntKind.u64.wrap (t115))) 10).bind fun t117 => ((strings_Repeat.f (⟨#[48]⟩ : ByteArray) (wrap64 (ji4 - (t117.size : Int)))).bind fun t118 => (if t118.size + t117.size ≤ 9223372036854775807 then (if (x6_4 ++ t116).size + 1 ≤ 9223372036854775807 then ((strings_TrimRight.f (t118 ++ t117) (⟨#[48]⟩ : ByteArray)).bind fun t119 => (if ((x6_4 ++ t116) ++ (⟨#[46]⟩ : ByteArray)).size + t119.size ≤ 9223372036854775807 then (some (((x6_4 ++ t116) ++ (⟨#[46]⟩ : ByteArray)) ++ t119)) else (none))) else (none)) else (none))))) else (none)) = some r := H
        have A9 := Aside0.mk A90
        clear A90
        by_cases c10 : x6_4.size + t116.size ≤ 9223372036854775807
        · rw [if_pos c10] at H
          have c10b0 := eq_true c10
          have c10b1 : decide (x6_4.size + t116.size ≤ 9223372036854775807) = true := decide_eq_true c10
          try have c10b2 : (9223372036854775807 < x6_4.size + t116.size) = False := eq_false (Nat.not_lt.2 c10)
          by_cases c11 : (Int.tmod x5_4 (IntKind.u64.wrap (t115))) = 0
          · rw [if_pos c11] at H
            have c11b0 : ((Int.tmod x5_4 (IntKind.u64.wrap (t115))) == 0) = true := beq_iff_eq.mpr c11
            have c11b1 : ((Int.tmod x5_4 (IntKind.u64.wrap (t115))) != 0) = false := bne_eq_false_iff_eq.mpr c11
            clear c11
            obtain rfl := Option.some.inj H
            go_wp2_with (first | ((with_reducible refine gate_callee (f := 23) rfl ?_); refine goesL_ (some 20) rfl rfl Tryd.func23 (by kernel_rfl) rfl #[.int .i64 ji4] rfl (by (try simp only [List.map_toArray, List.map_cons, List.map_nil]); first | done | (simp only [hji4]; rfl) | rfl | (simp only [List.length_drop, List.length_take]; rfl)) ?_; (with_reducible refine (deci_power.calls kj4 ji4 t115 _ A7.out).mono ?_); rintro e w' ⟨rfl, ⟨nd, rfl⟩⟩; refine ⟨_, rfl, ?_⟩) | ((with_reducible refine gate_callee (f := 24) rfl ?_); refine goesL_ (some 26) rfl rfl Tryd.func24 (by kernel_rfl) rfl #[.int .u64 (IntKind.u64.wrap (Int.tdiv x5_4 (IntKind.u64.wrap (t115)))), .int .i64 10] rfl (by (try simp only [List.map_toArray, List.map_cons, List.map_nil]); first | done | rfl | (simp only [List.length_drop, List.length_take]; rfl)) ?_; (with_reducible refine (strconv_FormatUint_24.calls (IntKind.u64.wrap (Int.tdiv x5_4 (IntKind.u64.wrap (t115)))) 10 t116 _ A9.out (GW.step hG (by repeat (first | (with_reducible first | exact HB.out | apply below_alloc | apply pw_below_drewN | apply below_drew1) | exact HB.out)))).mono ?_); rintro e w12 ⟨rfl, hb⟩; refine ⟨_, rfl, ?_⟩; have n0_ := Aside0.mk (below_step (by repeat (first | (with_reducible first | exact HB.out | apply below_alloc | apply pw_below_drewN | apply below_drew1) | exact HB.out)) hb); clear HB; have HB := n0_; clear n0_; (try clear hb); (try clear hb2); (try clear hk); (try clear hi)))
            go_ret
            exact ⟨by first | rfl | (simp [errW_none, errW_some] <;> rfl) | (simp only [← hji3, ← hji4]; first | rfl | (simp [errW_none, errW_some] <;> rfl)) | (simp [*, errW_none, errW_some] <;> rfl), by repeat (first | (with_reducible first | exact HB.out | apply below_alloc | apply pw_below_drewN | apply below_drew1) | exact HB.out)⟩
          · rw [if_neg c11] at H
            have c11b0 : ((Int.tmod x5_4 (IntKind.u64.wrap (t115))) == 0) = false := beq_eq_false_iff_ne.mpr c11
            have c11b1 : ((Int.tmod x5_4 (IntKind.u64.wrap (t115))) != 0) = true := bne_iff_ne.mpr c11
            replace H := Option.bind_eq_some_iff.mp H
            obtain ⟨t117, A130, H⟩ := H
            replace H : ((strings_Repeat.f (⟨#[48]⟩ : ByteArray) (wrap64 (ji4 - (t117.size : Int)))).bind fun t118 => (if t118.size + t117.size ≤ 9223372036854775807 then (if (x6_4 ++ t116).size + 1 ≤ 9223372036854775807 then ((strings_TrimRight.f (t118 ++ t117) (⟨#[48]⟩ : ByteArray)).bind fun t119 => (if ((x6_4 ++ t116) ++ (⟨#[46]⟩ : ByteArray)).size + t119.size ≤ 9223372036854775807 then (some (((x6_4 ++ t116) ++ (⟨#[46]⟩ : ByteArray)) ++ t119)) else (none))) else (none)) else (none))) = some r := H
            have A13 := Aside0.mk A130
            clear A130
            replace H := Option.bind_eq_some_iff.mp H
            obtain ⟨t118, A140, H⟩ := H
            replace H : (if t118.size + t117.size ≤ 9223372036854775807 then (if (x6_4 ++ t116).size + 1 ≤ 9223372036854775807 then ((strings_TrimRight.f (t118 ++ t117) (⟨#[48]⟩ : ByteArray)).bind fun t119 => (if ((x6_4 ++ t116) ++ (⟨#[46]⟩ : ByteArray)).size + t119.size ≤ 9223372036854775807 then (some (((x6_4 ++ t116) ++ (⟨#[46]⟩ : ByteArray)) ++ t119)) else (none))) else (none)) else (none)) = some r := H
            have A14 := Aside0.mk A140
            clear A140
            by_cases c15 : t118.size + t117.size ≤ 9223372036854775807
            · rw [if_pos c15] at H
              have c15b0 := eq_true c15
              have c15b1 : decide (t118.size + t117.size ≤ 9223372036854775807) = true := decide_eq_true c15
              try have c15b2 : (9223372036854775807 < t118.size + t117.size) = False := eq_false (Nat.not_lt.2 c15)
              by_cases c16 : (x6_4 ++ t116).size + 1 ≤ 9223372036854775807
              · rw [if_pos c16] at H
                have c16b0 := eq_true c16
                have c16b1 : decide ((x6_4 ++ t116).size + 1 ≤ 9223372036854775807) = true := decide_eq_true c16
                try have c16b2 : (9223372036854775807 < (x6_4 ++ t116).size + 1) = False := eq_false (Nat.not_lt.2 c16)
                replace H := Option.bind_eq_some_iff.mp H
                obtain ⟨t119, A170, H⟩ := H
                replace H : (if ((x6_4 ++ t116) ++ (⟨#[46]⟩ : ByteArray)).size + t119.size ≤ 9223372036854775807 then (some (((x6_4 ++ t116) ++ (⟨#[46]⟩ : ByteArray)) ++ t119)) else (none)) = some r := H
                have A17 := Aside0.mk A170
                clear A170
                by_cases c18 : ((x6_4 ++ t116) ++ (⟨#[46]⟩ : ByteArray)).size + t119.size ≤ 9223372036854775807
                · rw [if_pos c18] at H
                  have c18b0 := eq_true c18
                  have c18b1 : decide (((x6_4 ++ t116) ++ (⟨#[46]⟩ : ByteArray)).size + t119.size ≤ 9223372036854775807) = true := decide_eq_true c18
                  try have c18b2 : (9223372036854775807 < ((x6_4 ++ t116) ++ (⟨#[46]⟩ : ByteArray)).size + t119.size) = False := eq_false (Nat.not_lt.2 c18)
                  obtain rfl := Option.some.inj H
                  have c16c : x6_4.size + t116.size + 1 ≤ 9223372036854775807 := by have h' := c16; rw [ByteArray.size_append] at h'; exact h'
                  have c16d := eq_true c16c
                  have c18c : x6_4.size + t116.size + 1 + t119.size ≤ 9223372036854775807 := by have h' := c18; rw [ByteArray.size_append, ByteArray.size_append] at h'; exact h'
                  have c18d := eq_true c18c
                  go_wp2_with (first | ((with_reducible refine gate_callee (f := 23) rfl ?_); refine goesL_ (some 20) rfl rfl Tryd.func23 (by kernel_rfl) rfl #[.int .i64 ji4] rfl (by (try simp only [List.map_toArray, List.map_cons, List.map_nil]); first | done | (simp only [hji4]; rfl) | rfl | (simp only [List.length_drop, List.length_take]; rfl)) ?_; (with_reducible refine (deci_power.calls kj4 ji4 t115 _ A7.out).mono ?_); rintro e w' ⟨rfl, ⟨nd, rfl⟩⟩; refine ⟨_, rfl, ?_⟩) | ((with_reducible refine gate_callee (f := 24) rfl ?_); refine goesL_ (some 26) rfl rfl Tryd.func24 (by kernel_rfl) rfl #[.int .u64 (IntKind.u64.wrap (Int.tdiv x5_4 (IntKind.u64.wrap (t115)))), .int .i64 10] rfl (by (try simp only [List.map_toArray, List.map_cons, List.map_nil]); first | done | rfl | (simp only [List.length_drop, List.length_take]; rfl)) ?_; (with_reducible refine (strconv_FormatUint_24.calls (IntKind.u64.wrap (Int.tdiv x5_4 (IntKind.u64.wrap (t115)))) 10 t116 _ A9.out (GW.step hG (by repeat (first | (with_reducible first | exact HB.out | apply below_alloc | apply pw_below_drewN | apply below_drew1) | exact HB.out)))).mono ?_); rintro e w19 ⟨rfl, hb⟩; refine ⟨_, rfl, ?_⟩; have n0_ := Aside0.mk (below_step (by repeat (first | (with_reducible first | exact HB.out | apply below_alloc | apply pw_below_drewN | apply below_drew1) | exact HB.out)) hb); clear HB; have HB := n0_; clear n0_; (try clear hb); (try clear hb2); (try clear hk); (try clear hi)) | ((with_reducible refine gate_callee (f := 24) rfl ?_); refine goesL_ (some 36) rfl rfl Tryd.func24 (by kernel_rfl) rfl #[.int .u64 (Int.tmod x5_4 (IntKind.u64.wrap (t115))), .int .i64 10] rfl (by (try simp only [List.map_toArray, List.map_cons, List.map_nil]); first | done | rfl | (simp only [List.length_drop, List.length_take]; rfl)) ?_; (with_reducible refine (strconv_FormatUint_24.calls (Int.tmod x5_4 (IntKind.u64.wrap (t115))) 10 t117 _ A13.out (GW.step hG (by repeat (first | (with_reducible first | exact HB.out | apply below_alloc | apply pw_below_drewN | apply below_drew1) | exact HB.out)))).mono ?_); rintro e w20 ⟨rfl, hb⟩; refine ⟨_, rfl, ?_⟩; have n0_ := Aside0.mk (below_step (by repeat (first | (with_reducible first | exact HB.out | apply below_alloc | apply pw_below_drewN | apply below_drew1) | exact HB.out)) hb); clear HB; have HB := n0_; clear n0_; (try clear hb); (try clear hb2); (try clear hk); (try clear hi)) | ((with_reducible refine gate_callee (f := 25) rfl ?_); refine goesL_ (some 41) rfl rfl Tryd.func25 (by kernel_rfl) rfl #[.string (⟨#[48]⟩ : ByteArray), .int .i64 (wrap64 (ji4 - (t117.size : Int)))] rfl (by (try simp only [List.map_toArray, List.map_cons, List.map_nil]); first | done | (have hwr : wrap64 (ji4 - (t117.size : Int)) = ji4 - (t117.size : Int) := (by unfold wrap64; omega); rw [hwr]; rfl) | (simp only [hji4]; rfl) | rfl | (simp only [List.length_drop, List.length_take]; rfl)) ?_; (with_reducible refine (strings_Repeat.calls (⟨#[48]⟩ : ByteArray) (wrap64 (ji4 - (t117.size : Int))) t118 _ A14.out).mono ?_); rintro e w21 ⟨rfl, hb⟩; refine ⟨_, rfl, ?_⟩; have n0_ := Aside0.mk (below_step (by repeat (first | (with_reducible first | exact HB.out | apply below_alloc | apply pw_below_drewN | apply below_drew1) | exact HB.out)) hb); clear HB; have HB := n0_; clear n0_; (try clear hb); (try clear hb2); (try clear hk); (try clear hi)) | ((with_reducible refine gate_callee (f := 26) rfl ?_); refine goesL_ (some 47) rfl rfl Tryd.func26 (by kernel_rfl) rfl #[.string (t118 ++ t117), .string (⟨#[48]⟩ : ByteArray)] rfl (by (try simp only [List.map_toArray, List.map_cons, List.map_nil]); first | done | rfl | (simp only [List.length_drop, List.length_take]; rfl)) ?_; (with_reducible refine (strings_TrimRight.calls (t118 ++ t117) (⟨#[48]⟩ : ByteArray) t119 _ A17.out).mono ?_); rintro e w22 ⟨rfl, hb⟩; refine ⟨_, rfl, ?_⟩; have n0_ := Aside0.mk (below_step (by repeat (first | (with_reducible first | exact HB.out | apply below_alloc | apply pw_below_drewN | apply below_drew1) | exact HB.out)) hb); clear HB; have HB := n0_; clear n0_; (try clear hb); (try clear hb2); (try clear hk); (try clear hi)))
                  go_ret
                  exact ⟨by first | rfl | (simp [errW_none, errW_some] <;> rfl) | (simp only [← hji3, ← hji4]; first | rfl | (simp [errW_none, errW_some] <;> rfl)) | (simp [*, errW_none, errW_some] <;> rfl), by repeat (first | (with_reducible first | exact HB.out | apply below_alloc | apply pw_below_drewN | apply below_drew1) | exact HB.out)⟩
                · rw [if_neg c18] at H
                  exact absurd H (by simp)
              · rw [if_neg c16] at H
                exact absurd H (by simp)
            · rw [if_neg c15] at H
              exact absurd H (by simp)
        · rw [if_neg c10] at H
          exact absurd H (by simp)

/-! ### stringslite_CutPrefix: function 47 -/
def stringslite_CutPrefix.f (a0 : ByteArray) (a1 : ByteArray) : Option (ByteArray × Bool) := (stringslite_HasPrefix.f a0 a1).bind fun t120 => (if t120 = true then (if 0 ≤ (a1.size : Int) then (if (a1.size : Int) ≤ (a0.size : Int) then (some (a0.extract ((a1.size : Int) : Int).toNat a0.size, true)) else (none)) else (none)) else (some (a0, false)))
set_option maxHeartbeats 8000000 in
set_option maxRecDepth 100000 in
theorem stringslite_CutPrefix.calls (a0 : ByteArray) (a1 : ByteArray) (r1 : ByteArray) (r2 : Bool) (w : World) (h : stringslite_CutPrefix.f a0 a1 = some (r1, r2)) :
    Calls Tryd.prog 47 #[.string a0, .string a1] w fun e w' => e = .returned (.tuple #[.string r1, .bool r2]) ∧ Drawn0 w w' := by
  have H : ((stringslite_HasPrefix.f a0 a1).bind fun t120 => (if t120 = true then (if 0 ≤ (a1.size : Int) then (if (a1.size : Int) ≤ (a0.size : Int) then (some (a0.extract ((a1.size : Int) : Int).toNat a0.size, true)) else (none)) else (none)) else (some (a0, false)))) = some (r1, r2) := h
  clear h
  replace H := Option.bind_eq_some_iff.mp H
  obtain ⟨t120, A30, H⟩ := H
  replace H : (if t120 = true then (if 0 ≤ (a1.size : Int) then (if (a1.size : Int) ≤ (a0.size : Int) then (some (a0.extract ((a1.size : Int) : Int).toNat a0.size, true)) else (none)) else (none)) else (some (a0, false))) = some (r1, r2) := H
  have A3 := Aside0.mk A30
  clear A30
  by_cases c4 : t120 = true
  · subst c4
    have H1 : (if 0 ≤ (a1.size : Int) then (if (a1.size : Int) ≤ (a0.size : Int) then (some (a0.extract ((a1.size : Int) : Int).toNat a0.size, true)) else (none)) else (none)) = some (r1, r2) := by rw [if_pos rfl] at H; exact H
    clear H
    have H := H1
    clear H1
    by_cases c5 : 0 ≤ (a1.size : Int)
    · rw [if_pos c5] at H
      have c5b0 := eq_true c5
      have c5b1 : decide (0 ≤ (a1.size : Int)) = true := decide_eq_true c5
      clear c5
      by_cases c6 : (a1.size : Int) ≤ (a0.size : Int)
      · rw [if_pos c6] at H
        have c6b0 := eq_true c6
        have c6b1 : decide ((a1.size : Int) ≤ (a0.size : Int)) = true := decide_eq_true c6
        clear c6
        simp only [Option.some.injEq, Prod.mk.injEq] at H
        obtain ⟨rfl, rfl⟩ := H
        go_enter Tryd.func47, Tryd.ntmps47
        go_wp2_with (first | ((with_reducible refine gate_callee (f := 52) rfl ?_); refine goesL_ (some 8) rfl rfl Tryd.func52 (by kernel_rfl) rfl #[.string a0, .string a1] rfl (by (try simp only [List.map_toArray, List.map_cons, List.map_nil]); first | done | rfl | (simp only [List.length_drop, List.length_take]; rfl)) ?_; (with_reducible refine (stringslite_HasPrefix.calls a0 a1 true _ A3.out).mono ?_); rintro e w' ⟨rfl, ⟨nd, rfl⟩⟩; refine ⟨_, rfl, ?_⟩))
        go_ret2
        exact ⟨by first | rfl | (simp; done) | (simp [*]; done), by repeat (first | exact Drawn0.refl _ | apply Drawn0.step)⟩
      · rw [if_neg c6] at H
        exact absurd H (by simp)
    · rw [if_neg c5] at H
      exact absurd H (by simp)
  · replace c4 := Bool.eq_false_iff.mpr c4
    subst c4
    have H1 : (some (a0, false)) = some (r1, r2) := by rw [if_neg (show ¬ (false = true) by decide)] at H; exact H
    clear H
    have H := H1
    clear H1
    simp only [Option.some.injEq, Prod.mk.injEq] at H
    obtain ⟨rfl, rfl⟩ := H
    go_enter Tryd.func47, Tryd.ntmps47
    go_wp2_with (first | ((with_reducible refine gate_callee (f := 52) rfl ?_); refine goesL_ (some 8) rfl rfl Tryd.func52 (by kernel_rfl) rfl #[.string a0, .string a1] rfl (by (try simp only [List.map_toArray, List.map_cons, List.map_nil]); first | done | rfl | (simp only [List.length_drop, List.length_take]; rfl)) ?_; (with_reducible refine (stringslite_HasPrefix.calls a0 a1 false _ A3.out).mono ?_); rintro e w' ⟨rfl, ⟨nd, rfl⟩⟩; refine ⟨_, rfl, ?_⟩))
    go_ret2
    exact ⟨by first | rfl | (simp; done) | (simp [*]; done), by repeat (first | exact Drawn0.refl _ | apply Drawn0.step)⟩

/-! ### strings_CutPrefix: function 27 -/
def strings_CutPrefix.f (a0 : ByteArray) (a1 : ByteArray) : Option (ByteArray × Bool) := (stringslite_CutPrefix.f a0 a1).bind fun bt121 => (some (bt121.1, bt121.2))
set_option maxHeartbeats 8000000 in
set_option maxRecDepth 100000 in
theorem strings_CutPrefix.calls (a0 : ByteArray) (a1 : ByteArray) (r1 : ByteArray) (r2 : Bool) (w : World) (h : strings_CutPrefix.f a0 a1 = some (r1, r2)) :
    Calls Tryd.prog 27 #[.string a0, .string a1] w fun e w' => e = .returned (.tuple #[.string r1, .bool r2]) ∧ Drawn0 w w' := by
  have H : ((stringslite_CutPrefix.f a0 a1).bind fun bt121 => (some (bt121.1, bt121.2))) = some (r1, r2) := h
  clear h
  replace H := Option.bind_eq_some_iff.mp H
  obtain ⟨⟨t121, t122⟩, A30, H⟩ := H
  replace H : (some (t121, t122)) = some (r1, r2) := H
  have A3 := Aside0.mk A30
  clear A30
  simp only [Option.some.injEq, Prod.mk.injEq] at H
  obtain ⟨rfl, rfl⟩ := H
  go_enter Tryd.func27, Tryd.ntmps27
  go_wp2_with (first | ((with_reducible refine gate_callee (f := 47) rfl ?_); refine goesL_ (some 8) rfl rfl Tryd.func47 (by kernel_rfl) rfl #[.string a0, .string a1] rfl (by (try simp only [List.map_toArray, List.map_cons, List.map_nil]); first | done | rfl | (simp only [List.length_drop, List.length_take]; rfl)) ?_; (with_reducible refine (stringslite_CutPrefix.calls a0 a1 t121 t122 _ A3.out).mono ?_); rintro e w' ⟨rfl, ⟨nd, rfl⟩⟩; refine ⟨_, rfl, ?_⟩))
  go_ret2
  exact ⟨by first | rfl | (simp; done) | (simp [*]; done), by repeat (first | exact Drawn0.refl _ | apply Drawn0.step)⟩

-- NOT PRINTED: function 48 (stringslite_Cut)

end Go.Proofs.YtfhpppibiemhkaaDoor.P
