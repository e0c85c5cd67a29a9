-- printed by the session's own program wip/xprint.py (over the kit's printer); nothing here is trusted: Lean checks it
import Derived.Test.YtfhpppibiemhkaaDoorStr
import Derived.Test.YtfhpppibiemhkaaDoorP0
import Derived.Test.YtfhpppibiemhkaaDoorP3
import Derived.Test.YtfhpppibiemhkaaDoorP5
import Derived.Test.YtfhpppibiemhkaaDoorP9
import Derived.Test.YtfhpppibiemhkaaDoorP10
import Derived.Test.YtfhpppibiemhkaaDoorP11
namespace Go.Proofs.YtfhpppibiemhkaaDoor.P
open Go.Proofs.YtfhpppibiemhkaaDoorR
open Go.RowKit Go.Proofs.YtfhpppibiemhkaaDoorW.PrintWords Go.Proofs.YtfhpppibiemhkaaDoorW.PrintLast Go.Proofs.YtfhpppibiemhkaaDoorW.PrintMore
attribute [local go_sem] max2_int min2_int max_two min_two max_three min_three max_four min_four   -- for this text's walks alone
set_option linter.unusedVariables false
set_option linter.unusedSimpArgs false

/-! ### deci_Read: function 15 -/
mutual
def deci_Read.j0 : Nat → ByteArray → Int → Bool → Option (Int × Int)
  | 0, _, _, _ => none
  | k + 1, x0, x1, x18 => if x18 = true then (some (0, 1)) else ((strings_CutPrefix.f x0 (⟨#[45]⟩ : ByteArray)).bind fun bt129 => ((strings_Cut.f bt129.1 (⟨#[46]⟩ : ByteArray)).bind fun bt131 => ((deci_digits.f k bt131.1 13).bind fun t134 => (if t134 = true then (if bt131.2.2 = true then ((deci_digits.f k bt131.2.1 x1).bind fun t135 => (deci_Read.j1 k x1 bt129.2 bt131.1 bt131.2.1 (!t135))) else (deci_Read.j1 k x1 bt129.2 bt131.1 bt131.2.1 false)) else (deci_Read.j1 k x1 bt129.2 bt131.1 bt131.2.1 true)))))
def deci_Read.j1 : Nat → Int → Bool → ByteArray → ByteArray → Bool → Option (Int × Int)
  | 0, _, _, _, _, _ => none
  | k + 1, x1, x7, x8, x9, x41 => if x41 = true then (some (0, 21)) else ((deci_value.f k x8).bind fun t136 => ((deci_power.f k x1).bind fun t137 => ((num_Mul.f k t136 t137).bind fun bt138 => ((deci_value.f k x9).bind fun t140 => ((deci_power.f k (wrap64 (x1 - (x9.size : Int)))).bind fun t141 => (if x7 = true then (if bt138.2 = true then (if (wrap64 (-(wrap64 (bt138.1 + (wrap64 (t140 * t141)))))) < (-1099511627776) then (some (0, 23)) else (if (wrap64 (-(wrap64 (bt138.1 + (wrap64 (t140 * t141)))))) > 1099511627776 then (some (0, 23)) else (some (wrap64 (-(wrap64 (bt138.1 + (wrap64 (t140 * t141))))), 0)))) else (some (0, 23))) else (if bt138.2 = true then (if (wrap64 (bt138.1 + (wrap64 (t140 * t141)))) < (-1099511627776) then (some (0, 23)) else (if (wrap64 (bt138.1 + (wrap64 (t140 * t141)))) > 1099511627776 then (some (0, 23)) else (some (wrap64 (bt138.1 + (wrap64 (t140 * t141))), 0)))) else (some (0, 23)))))))))
end
def deci_Read.f (k : Nat) (a0 : ByteArray) (a1 : Int) : Option (Int × Int) := if a1 < 0 then (deci_Read.j0 k a0 a1 true) else (deci_Read.j0 k a0 a1 (decide (a1 > 6)))
theorem deci_Read.mono_l : ∀ k, (∀ y0 y1 y2, LeO (deci_Read.j0 k y0 y1 y2) (deci_Read.j0 (k + 1) y0 y1 y2)) ∧ (∀ y0 y1 y2 y3 y4, LeO (deci_Read.j1 k y0 y1 y2 y3 y4) (deci_Read.j1 (k + 1) y0 y1 y2 y3 y4))
  | 0 => ⟨fun _ _ _ r h => by simp [deci_Read.j0] at h, fun _ _ _ _ _ r h => by simp [deci_Read.j1] at h⟩
  | k + 1 => by
    obtain ⟨ih0, ih1⟩ := deci_Read.mono_l k
    refine ⟨?_, ?_⟩
    · intro y0 y1 y2
      unfold deci_Read.j0
      repeat' first
      | (with_reducible exact ih0 _ _ _)
      | (with_reducible exact ih1 _ _ _ _ _)
      | (with_reducible exact deci_digits.mono _ _ _)
      | (with_reducible exact deci_power.mono _ _)
      | (with_reducible exact deci_value.mono _ _)
      | (with_reducible exact num_Mul.mono _ _ _)
      | (with_reducible exact LeO.refl _)
      | (with_reducible exact LeO.none _)
      | (with_reducible refine LeO.ite ?_ ?_)
      | (with_reducible refine LeO.bind ?_ (fun _ => ?_))
      | exact ih0 _ _ _
      | exact ih1 _ _ _ _ _
      | exact deci_digits.mono _ _ _
      | exact deci_power.mono _ _
      | exact deci_value.mono _ _
      | exact num_Mul.mono _ _ _
      | exact LeO.none _
      | refine LeO.ite ?_ ?_
      | refine LeO.bind ?_ (fun _ => ?_)
    · intro y0 y1 y2 y3 y4
      unfold deci_Read.j1
      repeat' first
      | (with_reducible exact ih0 _ _ _)
      | (with_reducible exact ih1 _ _ _ _ _)
      | (with_reducible exact deci_digits.mono _ _ _)
      | (with_reducible exact deci_power.mono _ _)
      | (with_reducible exact deci_value.mono _ _)
      | (with_reducible exact num_Mul.mono _ _ _)
      | (with_reducible exact LeO.refl _)
      | (with_reducible exact LeO.none _)
      | (with_reducible refine LeO.ite ?_ ?_)
      | (with_reducible refine LeO.bind ?_ (fun _ => ?_))
      | exact ih0 _ _ _
      | exact ih1 _ _ _ _ _
      | exact deci_digits.mono _ _ _
      | exact deci_power.mono _ _
      | exact deci_value.mono _ _
      | exact num_Mul.mono _ _ _
      | exact LeO.none _
      | refine LeO.ite ?_ ?_
      | refine LeO.bind ?_ (fun _ => ?_)
theorem deci_Read.mono : ∀ a0 a1 k, LeO (deci_Read.f k a0 a1) (deci_Read.f (k + 1) a0 a1) := by
  intro a0 a1 k
  obtain ⟨ih0, ih1⟩ := deci_Read.mono_l k
  unfold deci_Read.f
  repeat' first
      | (with_reducible exact ih0 _ _ _)
      | (with_reducible exact ih1 _ _ _ _ _)
      | (with_reducible exact deci_digits.mono _ _ _)
      | (with_reducible exact deci_power.mono _ _)
      | (with_reducible exact deci_value.mono _ _)
      | (with_reducible exact num_Mul.mono _ _ _)
      | (with_reducible exact LeO.refl _)
      | (with_reducible exact LeO.none _)
      | (with_reducible refine LeO.ite ?_ ?_)
      | (with_reducible refine LeO.bind ?_ (fun _ => ?_))
      | exact ih0 _ _ _
      | exact ih1 _ _ _ _ _
      | exact deci_digits.mono _ _ _
      | exact deci_power.mono _ _
      | exact deci_value.mono _ _
      | exact num_Mul.mono _ _ _
      | exact LeO.none _
      | refine LeO.ite ?_ ?_
      | refine LeO.bind ?_ (fun _ => ?_)
set_option maxHeartbeats 8000000 in
set_option maxRecDepth 100000 in
theorem deci_Read.calls (k : Nat) (a0 : ByteArray) (a1 : Int) (r1 : Int) (r2 : Int) (w : World) (h : deci_Read.f k a0 a1 = some (r1, r2)) :
    Calls Tryd.prog 15 #[.string a0, .int .i64 a1] w fun e w' => e = .returned (.tuple #[.int .i64 r1, .int .i64 r2]) ∧ Below w.heap.size w w' := by
  have HB := Aside0.mk (Below.refl w.heap.size w)
  have H : (if a1 < 0 then (deci_Read.j0 k a0 a1 true) else (deci_Read.j0 k a0 a1 (decide (a1 > 6)))) = some (r1, r2) := h
  clear h
  have HC3 := Aside0.mk H
  clear H
  go_enter Tryd.func15, Tryd.ntmps15
  go_upto_region 1 with (fail)
  go_cut [18] (fun v18 wc => ∃ (kq : Nat) (x18_2 : Bool), v18 = .bool x18_2 ∧ Aside0 (deci_Read.j0 kq a0 a1 x18_2 = some (r1, r2)) ∧ Aside0 (kq ≤ k) ∧ Aside0 (Below w.heap.size w wc))
  case first =>
    have H := HC3.out
    clear HC3
    by_cases c4 : a1 < 0
    · rw [if_pos c4] at H
      have c4b0 : decide (a1 < 0) = true := decide_eq_true c4
      clear c4
      (first | rw [c4b0] | (simp only [i64_w, i32_w]; rw [c4b0]) | skip)
      have H' := Aside0.mk H
      clear H
      go_wp2
      go_meet
      case rel => exact ⟨_, (true), (by first | rfl | (simp; done) | (simp [*]; done)), H', ⟨by first | omega | exact Nat.le_refl _⟩, ⟨by repeat (first | (with_reducible first | exact HB.out | apply below_alloc | apply pw_below_drewN | apply below_drew1) | exact HB.out)⟩⟩
    · rw [if_neg c4] at H
      have c4b0 : decide (a1 < 0) = false := decide_eq_false c4
      clear c4
      (first | rw [c4b0] | (simp only [i64_w, i32_w]; rw [c4b0]) | skip)
      have H' := Aside0.mk H
      clear H
      go_wp2
      go_meet
      case rel => exact ⟨_, (decide (a1 > 6)), (by first | rfl | (simp; done) | (simp [*]; done)), H', ⟨by first | omega | exact Nat.le_refl _⟩, ⟨by repeat (first | (with_reducible first | exact HB.out | apply below_alloc | apply pw_below_drewN | apply below_drew1) | exact HB.out)⟩⟩
  case rest =>
    clear HC3
    try clear c1
    try clear p2
    try clear c4
    try clear c4b0
    obtain ⟨kq, x18_2, rfl, HA, HJ2, HB⟩ := hcut
    cases kq with
    | zero => exact absurd HA.out (by simp [deci_Read.j0])
    | succ kj2 =>
      have H := HA.out
      clear HA
      simp only [deci_Read.j0] at H
      by_cases c5 : x18_2 = true
      · subst c5
        have H1 : (some (0, 1)) = some (r1, r2) := by rw [if_pos rfl] at H; exact H
        clear H
        have H := H1
        clear H1
        simp only [Option.some.injEq, Prod.mk.injEq] at H
        obtain ⟨rfl, rfl⟩ := H
        go_wp2
        go_ret2
        exact ⟨by first | rfl | (simp [errW_none, errW_some] <;> rfl) | (simp [*, errW_none, errW_some] <;> rfl), by repeat (first | (with_reducible first | exact HB.out | apply below_alloc | apply pw_below_drewN | apply below_drew1) | exact HB.out)⟩
      · replace c5 := Bool.eq_false_iff.mpr c5
        subst c5
        have H1 : ((strings_CutPrefix.f a0 (⟨#[45]⟩ : ByteArray)).bind fun bt129 => ((strings_Cut.f bt129.1 (⟨#[46]⟩ : ByteArray)).bind fun bt131 => ((deci_digits.f kj2 bt131.1 13).bind fun t134 => (if t134 = true then (if bt131.2.2 = true then ((deci_digits.f kj2 bt131.2.1 a1).bind fun t135 => (deci_Read.j1 kj2 a1 bt129.2 bt131.1 bt131.2.1 (!t135))) else (deci_Read.j1 kj2 a1 bt129.2 bt131.1 bt131.2.1 false)) else (deci_Read.j1 kj2 a1 bt129.2 bt131.1 bt131.2.1 true))))) = some (r1, r2) := by rw [if_neg (show ¬ (false = true) by decide)] at H; exact H
        clear H
        have H := H1
        clear H1
        replace H := Option.bind_eq_some_iff.mp H
        obtain ⟨⟨t129, t130⟩, A60, H⟩ := H
        replace H : ((strings_Cut.f t129 (⟨#[46]⟩ : ByteArray)).bind fun bt131 => ((deci_digits.f kj2 bt131.1 13).bind fun t134 => (if t134 = true then (if bt131.2.2 = true then ((deci_digits.f kj2 bt131.2.1 a1).bind fun t135 => (deci_Read.j1 kj2 a1 t130 bt131.1 bt131.2.1 (!t135))) else (deci_Read.j1 kj2 a1 t130 bt131.1 bt131.2.1 false)) else (deci_Read.j1 kj2 a1 t130 bt131.1 bt131.2.1 true)))) = some (r1, r2) := H
        have A6 := Aside0.mk A60
        clear A60
        replace H := Option.bind_eq_some_iff.mp H
        obtain ⟨⟨t131, t132, t133⟩, A70, H⟩ := H
        replace H : ((deci_digits.f kj2 t131 13).bind fun t134 => (if t134 = true then (if t133 = true then ((deci_digits.f kj2 t132 a1).bind fun t135 => (deci_Read.j1 kj2 a1 t130 t131 t132 (!t135))) else (deci_Read.j1 kj2 a1 t130 t131 t132 false)) else (deci_Read.j1 kj2 a1 t130 t131 t132 true))) = some (r1, r2) := H
        have A7 := Aside0.mk A70
        clear A70
        have HC8 := Aside0.mk H
        clear H
        go_upto_region 5 with (first | ((with_reducible refine gate_callee (f := 27) rfl ?_); refine goesL_ (some 21) rfl rfl Tryd.func27 (by kernel_rfl) rfl #[.string a0, .string (⟨#[45]⟩ : ByteArray)] rfl (by (try simp only [List.map_toArray, List.map_cons, List.map_nil]); first | done | rfl | (simp only [List.length_drop, List.length_take]; rfl)) ?_; (with_reducible refine (strings_CutPrefix.calls a0 (⟨#[45]⟩ : ByteArray) t129 t130 _ A6.out).mono ?_); rintro e w' ⟨rfl, ⟨nd, rfl⟩⟩; refine ⟨_, rfl, ?_⟩) | ((with_reducible refine gate_callee (f := 28) rfl ?_); refine goesL_ (some 26) rfl rfl Tryd.func28 (by kernel_rfl) rfl #[.string t129, .string (⟨#[46]⟩ : ByteArray)] rfl (by (try simp only [List.map_toArray, List.map_cons, List.map_nil]); first | done | rfl | (simp only [List.length_drop, List.length_take]; rfl)) ?_; (with_reducible refine (strings_Cut.calls t129 (⟨#[46]⟩ : ByteArray) t131 t132 t133 _ A7.out).mono ?_); rintro e w9 ⟨rfl, hb⟩; refine ⟨_, rfl, ?_⟩; have n0_ := Aside0.mk (below_step (by repeat (first | (with_reducible first | exact HB.out | apply below_alloc | apply pw_below_drewN | apply below_drew1) | exact HB.out)) hb); clear HB; have HB := n0_; clear n0_; (try clear hb); (try clear hb2); (try clear hk); (try clear hi)))
        (try simp only [Act.put, List.setIfInBounds_toArray, List.set_cons_zero, List.set_cons_succ])
        go_cut [41] (fun v41 wc => ∃ (kq : Nat) (x41_7 : Bool), v41 = .bool x41_7 ∧ Aside0 (deci_Read.j1 kq a1 t130 t131 t132 x41_7 = some (r1, r2)) ∧ Aside0 (kq ≤ kj2) ∧ Aside0 (Below w.heap.size w wc))
        case first =>
          have H := HC8.out
          clear HC8
          replace H := Option.bind_eq_some_iff.mp H
          obtain ⟨t134, A100, H⟩ := H
          replace H : (if t134 = true then (if t133 = true then ((deci_digits.f kj2 t132 a1).bind fun t135 => (deci_Read.j1 kj2 a1 t130 t131 t132 (!t135))) else (deci_Read.j1 kj2 a1 t130 t131 t132 false)) else (deci_Read.j1 kj2 a1 t130 t131 t132 true)) = some (r1, r2) := H
          have A10 := Aside0.mk A100
          clear A100
          by_cases c11 : t134 = true
          · subst c11
            have H1 : (if t133 = true then ((deci_digits.f kj2 t132 a1).bind fun t135 => (deci_Read.j1 kj2 a1 t130 t131 t132 (!t135))) else (deci_Read.j1 kj2 a1 t130 t131 t132 false)) = some (r1, r2) := by rw [if_pos rfl] at H; exact H
            clear H
            have H := H1
            clear H1
            by_cases c12 : t133 = true
            · subst c12
              have H1 : ((deci_digits.f kj2 t132 a1).bind fun t135 => (deci_Read.j1 kj2 a1 t130 t131 t132 (!t135))) = some (r1, r2) := by rw [if_pos rfl] at H; exact H
              clear H
              have H := H1
              clear H1
              replace H := Option.bind_eq_some_iff.mp H
              obtain ⟨t135, A130, H⟩ := H
              replace H : (deci_Read.j1 kj2 a1 t130 t131 t132 (!t135)) = some (r1, r2) := H
              have A13 := Aside0.mk A130
              clear A130
              have H' := Aside0.mk H
              clear H
              go_wp2_with (first | ((with_reducible refine gate_callee (f := 29) rfl ?_); refine goesL_ (some 31) rfl rfl Tryd.func29 (by kernel_rfl) rfl #[.string t131, .int .i64 13] rfl (by (try simp only [List.map_toArray, List.map_cons, List.map_nil]); first | done | rfl | (simp only [List.length_drop, List.length_take]; rfl)) ?_; (with_reducible refine (deci_digits.calls kj2 t131 13 true _ A10.out).mono ?_); rintro e w' ⟨rfl, ⟨nd, rfl⟩⟩; refine ⟨_, rfl, ?_⟩) | (go_at_call 29; (with_reducible refine (deci_digits.calls kj2 t132 a1 t135 _ A13.out).mono ?_); rintro e w' ⟨rfl, ⟨nd, rfl⟩⟩))
              go_meet
              case rel => exact ⟨_, (!t135), (by first | rfl | (simp; done) | (simp [*]; done)), H', ⟨by have := HJ2.out; first | omega | exact Nat.le_refl _⟩, ⟨by repeat (first | (with_reducible first | exact HB.out | apply below_alloc | apply pw_below_drewN | apply below_drew1) | exact HB.out)⟩⟩
            · replace c12 := Bool.eq_false_iff.mpr c12
              subst c12
              have H1 : (deci_Read.j1 kj2 a1 t130 t131 t132 false) = some (r1, r2) := by rw [if_neg (show ¬ (false = true) by decide)] at H; exact H
              clear H
              have H := H1
              clear H1
              have H' := Aside0.mk H
              clear H
              go_wp2_with (first | ((with_reducible refine gate_callee (f := 29) rfl ?_); refine goesL_ (some 31) rfl rfl Tryd.func29 (by kernel_rfl) rfl #[.string t131, .int .i64 13] rfl (by (try simp only [List.map_toArray, List.map_cons, List.map_nil]); first | done | rfl | (simp only [List.length_drop, List.length_take]; rfl)) ?_; (with_reducible refine (deci_digits.calls kj2 t131 13 true _ A10.out).mono ?_); rintro e w' ⟨rfl, ⟨nd, rfl⟩⟩; refine ⟨_, rfl, ?_⟩))
              go_meet
              case rel => exact ⟨_, (false), (by first | rfl | (simp; done) | (simp [*]; done)), H', ⟨by have := HJ2.out; first | omega | exact Nat.le_refl _⟩, ⟨by repeat (first | (with_reducible first | exact HB.out | apply below_alloc | apply pw_below_drewN | apply below_drew1) | exact HB.out)⟩⟩
          · replace c11 := Bool.eq_false_iff.mpr c11
            subst c11
            have H1 : (deci_Read.j1 kj2 a1 t130 t131 t132 true) = some (r1, r2) := by rw [if_neg (show ¬ (false = true) by decide)] at H; exact H
            clear H
            have H := H1
            clear H1
            have H' := Aside0.mk H
            clear H
            go_wp2_with (first | ((with_reducible refine gate_callee (f := 29) rfl ?_); refine goesL_ (some 31) rfl rfl Tryd.func29 (by kernel_rfl) rfl #[.string t131, .int .i64 13] rfl (by (try simp only [List.map_toArray, List.map_cons, List.map_nil]); first | done | rfl | (simp only [List.length_drop, List.length_take]; rfl)) ?_; (with_reducible refine (deci_digits.calls kj2 t131 13 false _ A10.out).mono ?_); rintro e w' ⟨rfl, ⟨nd, rfl⟩⟩; refine ⟨_, rfl, ?_⟩))
            go_meet
            case rel => exact ⟨_, (true), (by first | rfl | (simp; done) | (simp [*]; done)), H', ⟨by have := HJ2.out; first | omega | exact Nat.le_refl _⟩, ⟨by repeat (first | (with_reducible first | exact HB.out | apply below_alloc | apply pw_below_drewN | apply below_drew1) | exact HB.out)⟩⟩
        case rest =>
          clear HC8
          try clear c1
          try clear c2
          try clear p2
          try clear c4
          try clear c4b0
          try clear c5
          try clear c11
          try clear c12
          try clear p2
          obtain ⟨kq, x41_7, rfl, HA, HJ7, HB⟩ := hcut
          cases kq with
          | zero => exact absurd HA.out (by simp [deci_Read.j1])
          | succ kj7 =>
            have H := HA.out
            clear HA
            simp only [deci_Read.j1] at H
            by_cases c14 : x41_7 = true
            · subst c14
              have H1 : (some (0, 21)) = some (r1, r2) := by rw [if_pos rfl] at H; exact H
              clear H
              have H := H1
              clear H1
              simp only [Option.some.injEq, Prod.mk.injEq] at H
              obtain ⟨rfl, rfl⟩ := H
              go_wp2
              go_ret2
              exact ⟨by first | rfl | (simp [errW_none, errW_some] <;> rfl) | (simp [*, errW_none, errW_some] <;> rfl), by repeat (first | (with_reducible first | exact HB.out | apply below_alloc | apply pw_below_drewN | apply below_drew1) | exact HB.out)⟩
            · replace c14 := Bool.eq_false_iff.mpr c14
              subst c14
              have H1 : ((deci_value.f kj7 t131).bind fun t136 => ((deci_power.f kj7 a1).bind fun t137 => ((num_Mul.f kj7 t136 t137).bind fun bt138 => ((deci_value.f kj7 t132).bind fun t140 => ((deci_power.f kj7 (wrap64 (a1 - (t132.size : Int)))).bind fun t141 => (if t130 = true then (if bt138.2 = true then (if (wrap64 (-(wrap64 (bt138.1 + (wrap64 (t140 * t141)))))) < (-1099511627776) then (some (0, 23)) else (if (wrap64 (-(wrap64 (bt138.1 + (wrap64 (t140 * t141)))))) > 1099511627776 then (some (0, 23)) else (some (wrap64 (-(wrap64 (bt138.1 + (wrap64 (t140 * t141))))), 0)))) else (some (0, 23))) else (if bt138.2 = true then (if (wrap64 (bt138.1 + (wrap64 (t140 * t141)))) < (-1099511627776) then (some (0, 23)) else (if (wrap64 (bt138.1 + (wrap64 (t140 * t141)))) > 1099511627776 then (some (0, 23)) else (some (wrap64 (bt138.1 + (wrap64 (t140 * t141))), 0)))) else (some (0, 23))))))))) = some (r1, r2) := by rw [if_neg (show ¬ (false = true) by decide)] at H; exact H
              clear H
              have H := H1
              clear H1
              replace H := Option.bind_eq_some_iff.mp H
              obtain ⟨t136, A150, H⟩ := H
              replace H : ((deci_power.f kj7 a1).bind fun t137 => ((num_Mul.f kj7 t136 t137).bind fun bt138 => ((deci_value.f kj7 t132).bind fun t140 => ((deci_power.f kj7 (wrap64 (a1 - (t132.size : Int)))).bind fun t141 => (if t130 = true then (if bt138.2 = true then (if (wrap64 (-(wrap64 (bt138.1 + (wrap64 (t140 * t141)))))) < (-1099511627776) then (some (0, 23)) else (if (wrap64 (-(wrap64 (bt138.1 + (wrap64 (t140 * t141)))))) > 1099511627776 then (some (0, 23)) else (some (wrap64 (-(wrap64 (bt138.1 + (wrap64 (t140 * t141))))), 0)))) else (some (0, 23))) else (if bt138.2 = true then (if (wrap64 (bt138.1 + (wrap64 (t140 * t141)))) < (-1099511627776) then (some (0, 23)) else (if (wrap64 (bt138.1 + (wrap64 (t140 * t141)))) > 1099511627776 then (some (0, 23)) else (some (wrap64 (bt138.1 + (wrap64 (t140 * t141))), 0)))) else (some (0, 23)))))))) = some (r1, r2) := H
              have A15 := Aside0.mk A150
              clear A150
              replace H := Option.bind_eq_some_iff.mp H
              obtain ⟨t137, A160, H⟩ := H
              replace H : ((num_Mul.f kj7 t136 t137).bind fun bt138 => ((deci_value.f kj7 t132).bind fun t140 => ((deci_power.f kj7 (wrap64 (a1 - (t132.size : Int)))).bind fun t141 => (if t130 = true then (if bt138.2 = true then (if (wrap64 (-(wrap64 (bt138.1 + (wrap64 (t140 * t141)))))) < (-1099511627776) then (some (0, 23)) else (if (wrap64 (-(wrap64 (bt138.1 + (wrap64 (t140 * t141)))))) > 1099511627776 then (some (0, 23)) else (some (wrap64 (-(wrap64 (bt138.1 + (wrap64 (t140 * t141))))), 0)))) else (some (0, 23))) else (if bt138.2 = true then (if (wrap64 (bt138.1 + (wrap64 (t140 * t141)))) < (-1099511627776) then (some (0, 23)) else (if (wrap64 (bt138.1 + (wrap64 (t140 * t141)))) > 1099511627776 then (some (0, 23)) else (some (wrap64 (bt138.1 + (wrap64 (t140 * t141))), 0)))) else (some (0, 23))))))) = some (r1, r2) := H
              have A16 := Aside0.mk A160
              clear A160
              replace H := Option.bind_eq_some_iff.mp H
              obtain ⟨⟨t138, t139⟩, A170, H⟩ := H
              replace H : ((deci_value.f kj7 t132).bind fun t140 => ((deci_power.f kj7 (wrap64 (a1 - (t132.size : Int)))).bind fun t141 => (if t130 = true then (if t139 = true then (if (wrap64 (-(wrap64 (t138 + (wrap64 (t140 * t141)))))) < (-1099511627776) then (some (0, 23)) else (if (wrap64 (-(wrap64 (t138 + (wrap64 (t140 * t141)))))) > 1099511627776 then (some (0, 23)) else (some (wrap64 (-(wrap64 (t138 + (wrap64 (t140 * t141))))), 0)))) else (some (0, 23))) else (if t139 = true then (if (wrap64 (t138 + (wrap64 (t140 * t141)))) < (-1099511627776) then (some (0, 23)) else (if (wrap64 (t138 + (wrap64 (t140 * t141)))) > 1099511627776 then (some (0, 23)) else (some (wrap64 (t138 + (wrap64 (t140 * t141))), 0)))) else (some (0, 23)))))) = some (r1, r2) := H
              have A17 := Aside0.mk A170
              clear A170
              replace H := Option.bind_eq_some_iff.mp H
              obtain ⟨t140, A180, H⟩ := H
              replace H : ((deci_power.f kj7 (wrap64 (a1 - (t132.size : Int)))).bind fun t141 => (if t130 = true then (if t139 = true then (if (wrap64 (-(wrap64 (t138 + (wrap64 (t140 * t141)))))) < (-1099511627776) then (some (0, 23)) else (if (wrap64 (-(wrap64 (t138 + (wrap64 (t140 * t141)))))) > 1099511627776 then (some (0, 23)) else (some (wrap64 (-(wrap64 (t138 + (wrap64 (t140 * t141))))), 0)))) else (some (0, 23))) else (if t139 = true then (if (wrap64 (t138 + (wrap64 (t140 * t141)))) < (-1099511627776) then (some (0, 23)) else (if (wrap64 (t138 + (wrap64 (t140 * t141)))) > 1099511627776 then (some (0, 23)) else (some (wrap64 (t138 + (wrap64 (t140 * t141))), 0)))) else (some (0, 23))))) = some (r1, r2) := H
              have A18 := Aside0.mk A180
              clear A180
              replace H := Option.bind_eq_some_iff.mp H
              obtain ⟨t141, A190, H⟩ := H
              replace H : (if t130 = true then (if t139 = true then (if (wrap64 (-(wrap64 (t138 + (wrap64 (t140 * t141)))))) < (-1099511627776) then (some (0, 23)) else (if (wrap64 (-(wrap64 (t138 + (wrap64 (t140 * t141)))))) > 1099511627776 then (some (0, 23)) else (some (wrap64 (-(wrap64 (t138 + (wrap64 (t140 * t141))))), 0)))) else (some (0, 23))) else (if t139 = true then (if (wrap64 (t138 + (wrap64 (t140 * t141)))) < (-1099511627776) then (some (0, 23)) else (if (wrap64 (t138 + (wrap64 (t140 * t141)))) > 1099511627776 then (some (0, 23)) else (some (wrap64 (t138 + (wrap64 (t140 * t141))), 0)))) else (some (0, 23)))) = some (r1, r2) := H
              have A19 := Aside0.mk A190
              clear A190
              by_cases c20 : t130 = true
              · subst c20
                have H1 : (if t139 = true then (if (wrap64 (-(wrap64 (t138 + (wrap64 (t140 * t141)))))) < (-1099511627776) then (some (0, 23)) else (if (wrap64 (-(wrap64 (t138 + (wrap64 (t140 * t141)))))) > 1099511627776 then (some (0, 23)) else (some (wrap64 (-(wrap64 (t138 + (wrap64 (t140 * t141))))), 0)))) else (some (0, 23))) = some (r1, r2) := by rw [if_pos rfl] at H; exact H
                clear H
                have H := H1
                clear H1
                by_cases c21 : t139 = true
                · subst c21
                  have H1 : (if (wrap64 (-(wrap64 (t138 + (wrap64 (t140 * t141)))))) < (-1099511627776) then (some (0, 23)) else (if (wrap64 (-(wrap64 (t138 + (wrap64 (t140 * t141)))))) > 1099511627776 then (some (0, 23)) else (some (wrap64 (-(wrap64 (t138 + (wrap64 (t140 * t141))))), 0)))) = some (r1, r2) := by rw [if_pos rfl] at H; exact H
                  clear H
                  have H := H1
                  clear H1
                  by_cases c22 : (wrap64 (-(wrap64 (t138 + (wrap64 (t140 * t141)))))) < (-1099511627776)
                  · rw [if_pos c22] at H
                    have c22b0 : decide ((wrap64 (-(wrap64 (t138 + (wrap64 (t140 * t141)))))) < (-1099511627776)) = true := decide_eq_true c22
                    clear c22
                    simp only [Option.some.injEq, Prod.mk.injEq] at H
                    obtain ⟨rfl, rfl⟩ := H
                    go_wp2_with (first | ((with_reducible refine gate_callee (f := 31) rfl ?_); refine goesL_ (some 44) rfl rfl Tryd.func31 (by kernel_rfl) rfl #[.string t131] rfl (by (try simp only [List.map_toArray, List.map_cons, List.map_nil]); first | done | rfl | (simp only [List.length_drop, List.length_take]; rfl)) ?_; (with_reducible refine (deci_value.calls kj7 t131 t136 _ A15.out).mono ?_); rintro e w' ⟨rfl, ⟨nd, rfl⟩⟩; refine ⟨_, rfl, ?_⟩) | ((with_reducible refine gate_callee (f := 23) rfl ?_); refine goesL_ (some 46) rfl rfl Tryd.func23 (by kernel_rfl) rfl #[.int .i64 a1] rfl (by (try simp only [List.map_toArray, List.map_cons, List.map_nil]); first | done | rfl | (simp only [List.length_drop, List.length_take]; rfl)) ?_; (with_reducible refine (deci_power.calls kj7 a1 t137 _ A16.out).mono ?_); rintro e w' ⟨rfl, ⟨nd, rfl⟩⟩; refine ⟨_, rfl, ?_⟩) | ((with_reducible refine gate_callee (f := 30) rfl ?_); refine goesL_ (some 47) rfl rfl Tryd.func30 (by kernel_rfl) rfl #[.int .i64 t136, .int .i64 t137] rfl (by (try simp only [List.map_toArray, List.map_cons, List.map_nil]); first | done | rfl | (simp only [List.length_drop, List.length_take]; rfl)) ?_; (with_reducible refine (num_Mul.calls kj7 t136 t137 t138 true _ A17.out).mono ?_); rintro e w' ⟨rfl, ⟨nd, rfl⟩⟩; refine ⟨_, rfl, ?_⟩) | ((with_reducible refine gate_callee (f := 31) rfl ?_); refine goesL_ (some 52) rfl rfl Tryd.func31 (by kernel_rfl) rfl #[.string t132] rfl (by (try simp only [List.map_toArray, List.map_cons, List.map_nil]); first | done | rfl | (simp only [List.length_drop, List.length_take]; rfl)) ?_; (with_reducible refine (deci_value.calls kj7 t132 t140 _ A18.out).mono ?_); rintro e w' ⟨rfl, ⟨nd, rfl⟩⟩; refine ⟨_, rfl, ?_⟩) | ((with_reducible refine gate_callee (f := 23) rfl ?_); refine goesL_ (some 57) rfl rfl Tryd.func23 (by kernel_rfl) rfl #[.int .i64 (wrap64 (a1 - (t132.size : Int)))] rfl (by (try simp only [List.map_toArray, List.map_cons, List.map_nil]); first | done | rfl | (simp only [List.length_drop, List.length_take]; rfl)) ?_; (with_reducible refine (deci_power.calls kj7 (wrap64 (a1 - (t132.size : Int))) t141 _ A19.out).mono ?_); rintro e w' ⟨rfl, ⟨nd, rfl⟩⟩; refine ⟨_, rfl, ?_⟩))
                    go_ret2
                    exact ⟨by first | rfl | (simp [errW_none, errW_some] <;> rfl) | (simp [*, errW_none, errW_some] <;> rfl), by repeat (first | (with_reducible first | exact HB.out | apply below_alloc | apply pw_below_drewN | apply below_drew1) | exact HB.out)⟩
                  · rw [if_neg c22] at H
                    have c22b0 : decide ((wrap64 (-(wrap64 (t138 + (wrap64 (t140 * t141)))))) < (-1099511627776)) = false := decide_eq_false c22
                    clear c22
                    by_cases c23 : (wrap64 (-(wrap64 (t138 + (wrap64 (t140 * t141)))))) > 1099511627776
                    · rw [if_pos c23] at H
                      have c23b0 : decide (1099511627776 < (wrap64 (-(wrap64 (t138 + (wrap64 (t140 * t141))))))) = true := decide_eq_true c23
                      clear c23
                      simp only [Option.some.injEq, Prod.mk.injEq] at H
                      obtain ⟨rfl, rfl⟩ := H
                      go_wp2_with (first | ((with_reducible refine gate_callee (f := 31) rfl ?_); refine goesL_ (some 44) rfl rfl Tryd.func31 (by kernel_rfl) rfl #[.string t131] rfl (by (try simp only [List.map_toArray, List.map_cons, List.map_nil]); first | done | rfl | (simp only [List.length_drop, List.length_take]; rfl)) ?_; (with_reducible refine (deci_value.calls kj7 t131 t136 _ A15.out).mono ?_); rintro e w' ⟨rfl, ⟨nd, rfl⟩⟩; refine ⟨_, rfl, ?_⟩) | ((with_reducible refine gate_callee (f := 23) rfl ?_); refine goesL_ (some 46) rfl rfl Tryd.func23 (by kernel_rfl) rfl #[.int .i64 a1] rfl (by (try simp only [List.map_toArray, List.map_cons, List.map_nil]); first | done | rfl | (simp only [List.length_drop, List.length_take]; rfl)) ?_; (with_reducible refine (deci_power.calls kj7 a1 t137 _ A16.out).mono ?_); rintro e w' ⟨rfl, ⟨nd, rfl⟩⟩; refine ⟨_, rfl, ?_⟩) | ((with_reducible refine gate_callee (f := 30) rfl ?_); refine goesL_ (some 47) rfl rfl Tryd.func30 (by kernel_rfl) rfl #[.int .i64 t136, .int .i64 t137] rfl (by (try simp only [List.map_toArray, List.map_cons, List.map_nil]); first | done | rfl | (simp only [List.length_drop, List.length_take]; rfl)) ?_; (with_reducible refine (num_Mul.calls kj7 t136 t137 t138 true _ A17.out).mono ?_); rintro e w' ⟨rfl, ⟨nd, rfl⟩⟩; refine ⟨_, rfl, ?_⟩) | ((with_reducible refine gate_callee (f := 31) rfl ?_); refine goesL_ (some 52) rfl rfl Tryd.func31 (by kernel_rfl) rfl #[.string t132] rfl (by (try simp only [List.map_toArray, List.map_cons, List.map_nil]); first | done | rfl | (simp only [List.length_drop, List.length_take]; rfl)) ?_; (with_reducible refine (deci_value.calls kj7 t132 t140 _ A18.out).mono ?_); rintro e w' ⟨rfl, ⟨nd, rfl⟩⟩; refine ⟨_, rfl, ?_⟩) | ((with_reducible refine gate_callee (f := 23) rfl ?_); refine goesL_ (some 57) rfl rfl Tryd.func23 (by kernel_rfl) rfl #[.int .i64 (wrap64 (a1 - (t132.size : Int)))] rfl (by (try simp only [List.map_toArray, List.map_cons, List.map_nil]); first | done | rfl | (simp only [List.length_drop, List.length_take]; rfl)) ?_; (with_reducible refine (deci_power.calls kj7 (wrap64 (a1 - (t132.size : Int))) t141 _ A19.out).mono ?_); rintro e w' ⟨rfl, ⟨nd, rfl⟩⟩; refine ⟨_, rfl, ?_⟩))
                      go_ret2
                      exact ⟨by first | rfl | (simp [errW_none, errW_some] <;> rfl) | (simp [*, errW_none, errW_some] <;> rfl), by repeat (first | (with_reducible first | exact HB.out | apply below_alloc | apply pw_below_drewN | apply below_drew1) | exact HB.out)⟩
                    · rw [if_neg c23] at H
                      have c23b0 : decide (1099511627776 < (wrap64 (-(wrap64 (t138 + (wrap64 (t140 * t141))))))) = false := decide_eq_false c23
                      clear c23
                      simp only [Option.some.injEq, Prod.mk.injEq] at H
                      obtain ⟨rfl, rfl⟩ := H
                      go_wp2_with (first | ((with_reducible refine gate_callee (f := 31) rfl ?_); refine goesL_ (some 44) rfl rfl Tryd.func31 (by kernel_rfl) rfl #[.string t131] rfl (by (try simp only [List.map_toArray, List.map_cons, List.map_nil]); first | done | rfl | (simp only [List.length_drop, List.length_take]; rfl)) ?_; (with_reducible refine (deci_value.calls kj7 t131 t136 _ A15.out).mono ?_); rintro e w' ⟨rfl, ⟨nd, rfl⟩⟩; refine ⟨_, rfl, ?_⟩) | ((with_reducible refine gate_callee (f := 23) rfl ?_); refine goesL_ (some 46) rfl rfl Tryd.func23 (by kernel_rfl) rfl #[.int .i64 a1] rfl (by (try simp only [List.map_toArray, List.map_cons, List.map_nil]); first | done | rfl | (simp only [List.length_drop, List.length_take]; rfl)) ?_; (with_reducible refine (deci_power.calls kj7 a1 t137 _ A16.out).mono ?_); rintro e w' ⟨rfl, ⟨nd, rfl⟩⟩; refine ⟨_, rfl, ?_⟩) | ((with_reducible refine gate_callee (f := 30) rfl ?_); refine goesL_ (some 47) rfl rfl Tryd.func30 (by kernel_rfl) rfl #[.int .i64 t136, .int .i64 t137] rfl (by (try simp only [List.map_toArray, List.map_cons, List.map_nil]); first | done | rfl | (simp only [List.length_drop, List.length_take]; rfl)) ?_; (with_reducible refine (num_Mul.calls kj7 t136 t137 t138 true _ A17.out).mono ?_); rintro e w' ⟨rfl, ⟨nd, rfl⟩⟩; refine ⟨_, rfl, ?_⟩) | ((with_reducible refine gate_callee (f := 31) rfl ?_); refine goesL_ (some 52) rfl rfl Tryd.func31 (by kernel_rfl) rfl #[.string t132] rfl (by (try simp only [List.map_toArray, List.map_cons, List.map_nil]); first | done | rfl | (simp only [List.length_drop, List.length_take]; rfl)) ?_; (with_reducible refine (deci_value.calls kj7 t132 t140 _ A18.out).mono ?_); rintro e w' ⟨rfl, ⟨nd, rfl⟩⟩; refine ⟨_, rfl, ?_⟩) | ((with_reducible refine gate_callee (f := 23) rfl ?_); refine goesL_ (some 57) rfl rfl Tryd.func23 (by kernel_rfl) rfl #[.int .i64 (wrap64 (a1 - (t132.size : Int)))] rfl (by (try simp only [List.map_toArray, List.map_cons, List.map_nil]); first | done | rfl | (simp only [List.length_drop, List.length_take]; rfl)) ?_; (with_reducible refine (deci_power.calls kj7 (wrap64 (a1 - (t132.size : Int))) t141 _ A19.out).mono ?_); rintro e w' ⟨rfl, ⟨nd, rfl⟩⟩; refine ⟨_, rfl, ?_⟩))
                      go_ret2
                      exact ⟨by first | rfl | (simp [errW_none, errW_some] <;> rfl) | (simp [*, errW_none, errW_some] <;> rfl), by repeat (first | (with_reducible first | exact HB.out | apply below_alloc | apply pw_below_drewN | apply below_drew1) | exact HB.out)⟩
                · replace c21 := Bool.eq_false_iff.mpr c21
                  subst c21
                  have H1 : (some (0, 23)) = some (r1, r2) := by rw [if_neg (show ¬ (false = true) by decide)] at H; exact H
                  clear H
                  have H := H1
                  clear H1
                  simp only [Option.some.injEq, Prod.mk.injEq] at H
                  obtain ⟨rfl, rfl⟩ := H
                  go_wp2_with (first | ((with_reducible refine gate_callee (f := 31) rfl ?_); refine goesL_ (some 44) rfl rfl Tryd.func31 (by kernel_rfl) rfl #[.string t131] rfl (by (try simp only [List.map_toArray, List.map_cons, List.map_nil]); first | done | rfl | (simp only [List.length_drop, List.length_take]; rfl)) ?_; (with_reducible refine (deci_value.calls kj7 t131 t136 _ A15.out).mono ?_); rintro e w' ⟨rfl, ⟨nd, rfl⟩⟩; refine ⟨_, rfl, ?_⟩) | ((with_reducible refine gate_callee (f := 23) rfl ?_); refine goesL_ (some 46) rfl rfl Tryd.func23 (by kernel_rfl) rfl #[.int .i64 a1] rfl (by (try simp only [List.map_toArray, List.map_cons, List.map_nil]); first | done | rfl | (simp only [List.length_drop, List.length_take]; rfl)) ?_; (with_reducible refine (deci_power.calls kj7 a1 t137 _ A16.out).mono ?_); rintro e w' ⟨rfl, ⟨nd, rfl⟩⟩; refine ⟨_, rfl, ?_⟩) | ((with_reducible refine gate_callee (f := 30) rfl ?_); refine goesL_ (some 47) rfl rfl Tryd.func30 (by kernel_rfl) rfl #[.int .i64 t136, .int .i64 t137] rfl (by (try simp only [List.map_toArray, List.map_cons, List.map_nil]); first | done | rfl | (simp only [List.length_drop, List.length_take]; rfl)) ?_; (with_reducible refine (num_Mul.calls kj7 t136 t137 t138 false _ A17.out).mono ?_); rintro e w' ⟨rfl, ⟨nd, rfl⟩⟩; refine ⟨_, rfl, ?_⟩) | ((with_reducible refine gate_callee (f := 31) rfl ?_); refine goesL_ (some 52) rfl rfl Tryd.func31 (by kernel_rfl) rfl #[.string t132] rfl (by (try simp only [List.map_toArray, List.map_cons, List.map_nil]); first | done | rfl | (simp only [List.length_drop, List.length_take]; rfl)) ?_; (with_reducible refine (deci_value.calls kj7 t132 t140 _ A18.out).mono ?_); rintro e w' ⟨rfl, ⟨nd, rfl⟩⟩; refine ⟨_, rfl, ?_⟩) | ((with_reducible refine gate_callee (f := 23) rfl ?_); refine goesL_ (some 57) rfl rfl Tryd.func23 (by kernel_rfl) rfl #[.int .i64 (wrap64 (a1 - (t132.size : Int)))] rfl (by (try simp only [List.map_toArray, List.map_cons, List.map_nil]); first | done | rfl | (simp only [List.length_drop, List.length_take]; rfl)) ?_; (with_reducible refine (deci_power.calls kj7 (wrap64 (a1 - (t132.size : Int))) t141 _ A19.out).mono ?_); rintro e w' ⟨rfl, ⟨nd, rfl⟩⟩; refine ⟨_, rfl, ?_⟩))
                  go_ret2
                  exact ⟨by first | rfl | (simp [errW_none, errW_some] <;> rfl) | (simp [*, errW_none, errW_some] <;> rfl), by repeat (first | (with_reducible first | exact HB.out | apply below_alloc | apply pw_below_drewN | apply below_drew1) | exact HB.out)⟩
              · replace c20 := Bool.eq_false_iff.mpr c20
                subst c20
                have H1 : (if t139 = true then (if (wrap64 (t138 + (wrap64 (t140 * t141)))) < (-1099511627776) then (some (0, 23)) else (if (wrap64 (t138 + (wrap64 (t140 * t141)))) > 1099511627776 then (some (0, 23)) else (some (wrap64 (t138 + (wrap64 (t140 * t141))), 0)))) else (some (0, 23))) = some (r1, r2) := by rw [if_neg (show ¬ (false = true) by decide)] at H; exact H
                clear H
                have H := H1
                clear H1
                by_cases c24 : t139 = true
                · subst c24
                  have H1 : (if (wrap64 (t138 + (wrap64 (t140 * t141)))) < (-1099511627776) then (some (0, 23)) else (if (wrap64 (t138 + (wrap64 (t140 * t141)))) > 1099511627776 then (some (0, 23)) else (some (wrap64 (t138 + (wrap64 (t140 * t141))), 0)))) = some (r1, r2) := by rw [if_pos rfl] at H; exact H
                  clear H
                  have H := H1
                  clear H1
                  by_cases c25 : (wrap64 (t138 + (wrap64 (t140 * t141)))) < (-1099511627776)
                  · rw [if_pos c25] at H
                    have c25b0 : decide ((wrap64 (t138 + (wrap64 (t140 * t141)))) < (-1099511627776)) = true := decide_eq_true c25
                    clear c25
                    simp only [Option.some.injEq, Prod.mk.injEq] at H
                    obtain ⟨rfl, rfl⟩ := H
                    go_wp2_with (first | ((with_reducible refine gate_callee (f := 31) rfl ?_); refine goesL_ (some 44) rfl rfl Tryd.func31 (by kernel_rfl) rfl #[.string t131] rfl (by (try simp only [List.map_toArray, List.map_cons, List.map_nil]); first | done | rfl | (simp only [List.length_drop, List.length_take]; rfl)) ?_; (with_reducible refine (deci_value.calls kj7 t131 t136 _ A15.out).mono ?_); rintro e w' ⟨rfl, ⟨nd, rfl⟩⟩; refine ⟨_, rfl, ?_⟩) | ((with_reducible refine gate_callee (f := 23) rfl ?_); refine goesL_ (some 46) rfl rfl Tryd.func23 (by kernel_rfl) rfl #[.int .i64 a1] rfl (by (try simp only [List.map_toArray, List.map_cons, List.map_nil]); first | done | rfl | (simp only [List.length_drop, List.length_take]; rfl)) ?_; (with_reducible refine (deci_power.calls kj7 a1 t137 _ A16.out).mono ?_); rintro e w' ⟨rfl, ⟨nd, rfl⟩⟩; refine ⟨_, rfl, ?_⟩) | ((with_reducible refine gate_callee (f := 30) rfl ?_); refine goesL_ (some 47) rfl rfl Tryd.func30 (by kernel_rfl) rfl #[.int .i64 t136, .int .i64 t137] rfl (by (try simp only [List.map_toArray, List.map_cons, List.map_nil]); first | done | rfl | (simp only [List.length_drop, List.length_take]; rfl)) ?_; (with_reducible refine (num_Mul.calls kj7 t136 t137 t138 true _ A17.out).mono ?_); rintro e w' ⟨rfl, ⟨nd, rfl⟩⟩; refine ⟨_, rfl, ?_⟩) | ((with_reducible refine gate_callee (f := 31) rfl ?_); refine goesL_ (some 52) rfl rfl Tryd.func31 (by kernel_rfl) rfl #[.string t132] rfl (by (try simp only [List.map_toArray, List.map_cons, List.map_nil]); first | done | rfl | (simp only [List.length_drop, List.length_take]; rfl)) ?_; (with_reducible refine (deci_value.calls kj7 t132 t140 _ A18.out).mono ?_); rintro e w' ⟨rfl, ⟨nd, rfl⟩⟩; refine ⟨_, rfl, ?_⟩) | ((with_reducible refine gate_callee (f := 23) rfl ?_); refine goesL_ (some 57) rfl rfl Tryd.func23 (by kernel_rfl) rfl #[.int .i64 (wrap64 (a1 - (t132.size : Int)))] rfl (by (try simp only [List.map_toArray, List.map_cons, List.map_nil]); first | done | rfl | (simp only [List.length_drop, List.length_take]; rfl)) ?_; (with_reducible refine (deci_power.calls kj7 (wrap64 (a1 - (t132.size : Int))) t141 _ A19.out).mono ?_); rintro e w' ⟨rfl, ⟨nd, rfl⟩⟩; refine ⟨_, rfl, ?_⟩))
                    go_ret2
                    exact ⟨by first | rfl | (simp [errW_none, errW_some] <;> rfl) | (simp [*, errW_none, errW_some] <;> rfl), by repeat (first | (with_reducible first | exact HB.out | apply below_alloc | apply pw_below_drewN | apply below_drew1) | exact HB.out)⟩
                  · rw [if_neg c25] at H
                    have c25b0 : decide ((wrap64 (t138 + (wrap64 (t140 * t141)))) < (-1099511627776)) = false := decide_eq_false c25
                    clear c25
                    by_cases c26 : (wrap64 (t138 + (wrap64 (t140 * t141)))) > 1099511627776
                    · rw [if_pos c26] at H
                      have c26b0 : decide (1099511627776 < (wrap64 (t138 + (wrap64 (t140 * t141))))) = true := decide_eq_true c26
                      clear c26
                      simp only [Option.some.injEq, Prod.mk.injEq] at H
                      obtain ⟨rfl, rfl⟩ := H
                      go_wp2_with (first | ((with_reducible refine gate_callee (f := 31) rfl ?_); refine goesL_ (some 44) rfl rfl Tryd.func31 (by kernel_rfl) rfl #[.string t131] rfl (by (try simp only [List.map_toArray, List.map_cons, List.map_nil]); first | done | rfl | (simp only [List.length_drop, List.length_take]; rfl)) ?_; (with_reducible refine (deci_value.calls kj7 t131 t136 _ A15.out).mono ?_); rintro e w' ⟨rfl, ⟨nd, rfl⟩⟩; refine ⟨_, rfl, ?_⟩) | ((with_reducible refine gate_callee (f := 23) rfl ?_); refine goesL_ (some 46) rfl rfl Tryd.func23 (by kernel_rfl) rfl #[.int .i64 a1] rfl (by (try simp only [List.map_toArray, List.map_cons, List.map_nil]); first | done | rfl | (simp only [List.length_drop, List.length_take]; rfl)) ?_; (with_reducible refine (deci_power.calls kj7 a1 t137 _ A16.out).mono ?_); rintro e w' ⟨rfl, ⟨nd, rfl⟩⟩; refine ⟨_, rfl, ?_⟩) | ((with_reducible refine gate_callee (f := 30) rfl ?_); refine goesL_ (some 47) rfl rfl Tryd.func30 (by kernel_rfl) rfl #[.int .i64 t136, .int .i64 t137] rfl (by (try simp only [List.map_toArray, List.map_cons, List.map_nil]); first | done | rfl | (simp only [List.length_drop, List.length_take]; rfl)) ?_; (with_reducible refine (num_Mul.calls kj7 t136 t137 t138 true _ A17.out).mono ?_); rintro e w' ⟨rfl, ⟨nd, rfl⟩⟩; refine ⟨_, rfl, ?_⟩) | ((with_reducible refine gate_callee (f := 31) rfl ?_); refine goesL_ (some 52) rfl rfl Tryd.func31 (by kernel_rfl) rfl #[.string t132] rfl (by (try simp only [List.map_toArray, List.map_cons, List.map_nil]); first | done | rfl | (simp only [List.length_drop, List.length_take]; rfl)) ?_; (with_reducible refine (deci_value.calls kj7 t132 t140 _ A18.out).mono ?_); rintro e w' ⟨rfl, ⟨nd, rfl⟩⟩; refine ⟨_, rfl, ?_⟩) | ((with_reducible refine gate_callee (f := 23) rfl ?_); refine goesL_ (some 57) rfl rfl Tryd.func23 (by kernel_rfl) rfl #[.int .i64 (wrap64 (a1 - (t132.size : Int)))] rfl (by (try simp only [List.map_toArray, List.map_cons, List.map_nil]); first | done | rfl | (simp only [List.length_drop, List.length_take]; rfl)) ?_; (with_reducible refine (deci_power.calls kj7 (wrap64 (a1 - (t132.size : Int))) t141 _ A19.out).mono ?_); rintro e w' ⟨rfl, ⟨nd, rfl⟩⟩; refine ⟨_, rfl, ?_⟩))
                      go_ret2
                      exact ⟨by first | rfl | (simp [errW_none, errW_some] <;> rfl) | (simp [*, errW_none, errW_some] <;> rfl), by repeat (first | (with_reducible first | exact HB.out | apply below_alloc | apply pw_below_drewN | apply below_drew1) | exact HB.out)⟩
                    · rw [if_neg c26] at H
                      have c26b0 : decide (1099511627776 < (wrap64 (t138 + (wrap64 (t140 * t141))))) = false := decide_eq_false c26
                      clear c26
                      simp only [Option.some.injEq, Prod.mk.injEq] at H
                      obtain ⟨rfl, rfl⟩ := H
                      go_wp2_with (first | ((with_reducible refine gate_callee (f := 31) rfl ?_); refine goesL_ (some 44) rfl rfl Tryd.func31 (by kernel_rfl) rfl #[.string t131] rfl (by (try simp only [List.map_toArray, List.map_cons, List.map_nil]); first | done | rfl | (simp only [List.length_drop, List.length_take]; rfl)) ?_; (with_reducible refine (deci_value.calls kj7 t131 t136 _ A15.out).mono ?_); rintro e w' ⟨rfl, ⟨nd, rfl⟩⟩; refine ⟨_, rfl, ?_⟩) | ((with_reducible refine gate_callee (f := 23) rfl ?_); refine goesL_ (some 46) rfl rfl Tryd.func23 (by kernel_rfl) rfl #[.int .i64 a1] rfl (by (try simp only [List.map_toArray, List.map_cons, List.map_nil]); first | done | rfl | (simp only [List.length_drop, List.length_take]; rfl)) ?_; (with_reducible refine (deci_power.calls kj7 a1 t137 _ A16.out).mono ?_); rintro e w' ⟨rfl, ⟨nd, rfl⟩⟩; refine ⟨_, rfl, ?_⟩) | ((with_reducible refine gate_callee (f := 30) rfl ?_); refine goesL_ (some 47) rfl rfl Tryd.func30 (by kernel_rfl) rfl #[.int .i64 t136, .int .i64 t137] rfl (by (try simp only [List.map_toArray, List.map_cons, List.map_nil]); first | done | rfl | (simp only [List.length_drop, List.length_take]; rfl)) ?_; (with_reducible refine (num_Mul.calls kj7 t136 t137 t138 true _ A17.out).mono ?_); rintro e w' ⟨rfl, ⟨nd, rfl⟩⟩; refine ⟨_, rfl, ?_⟩) | ((with_reducible refine gate_callee (f := 31) rfl ?_); refine goesL_ (some 52) rfl rfl Tryd.func31 (by kernel_rfl) rfl #[.string t132] rfl (by (try simp only [List.map_toArray, List.map_cons, List.map_nil]); first | done | rfl | (simp only [List.length_drop, List.length_take]; rfl)) ?_; (with_reducible refine (deci_value.calls kj7 t132 t140 _ A18.out).mono ?_); rintro e w' ⟨rfl, ⟨nd, rfl⟩⟩; refine ⟨_, rfl, ?_⟩) | ((with_reducible refine gate_callee (f := 23) rfl ?_); refine goesL_ (some 57) rfl rfl Tryd.func23 (by kernel_rfl) rfl #[.int .i64 (wrap64 (a1 - (t132.size : Int)))] rfl (by (try simp only [List.map_toArray, List.map_cons, List.map_nil]); first | done | rfl | (simp only [List.length_drop, List.length_take]; rfl)) ?_; (with_reducible refine (deci_power.calls kj7 (wrap64 (a1 - (t132.size : Int))) t141 _ A19.out).mono ?_); rintro e w' ⟨rfl, ⟨nd, rfl⟩⟩; refine ⟨_, rfl, ?_⟩))
                      go_ret2
                      exact ⟨by first | rfl | (simp [errW_none, errW_some] <;> rfl) | (simp [*, errW_none, errW_some] <;> rfl), by repeat (first | (with_reducible first | exact HB.out | apply below_alloc | apply pw_below_drewN | apply below_drew1) | exact HB.out)⟩
                · replace c24 := Bool.eq_false_iff.mpr c24
                  subst c24
                  have H1 : (some (0, 23)) = some (r1, r2) := by rw [if_neg (show ¬ (false = true) by decide)] at H; exact H
                  clear H
                  have H := H1
                  clear H1
                  simp only [Option.some.injEq, Prod.mk.injEq] at H
                  obtain ⟨rfl, rfl⟩ := H
                  go_wp2_with (first | ((with_reducible refine gate_callee (f := 31) rfl ?_); refine goesL_ (some 44) rfl rfl Tryd.func31 (by kernel_rfl) rfl #[.string t131] rfl (by (try simp only [List.map_toArray, List.map_cons, List.map_nil]); first | done | rfl | (simp only [List.length_drop, List.length_take]; rfl)) ?_; (with_reducible refine (deci_value.calls kj7 t131 t136 _ A15.out).mono ?_); rintro e w' ⟨rfl, ⟨nd, rfl⟩⟩; refine ⟨_, rfl, ?_⟩) | ((with_reducible refine gate_callee (f := 23) rfl ?_); refine goesL_ (some 46) rfl rfl Tryd.func23 (by kernel_rfl) rfl #[.int .i64 a1] rfl (by (try simp only [List.map_toArray, List.map_cons, List.map_nil]); first | done | rfl | (simp only [List.length_drop, List.length_take]; rfl)) ?_; (with_reducible refine (deci_power.calls kj7 a1 t137 _ A16.out).mono ?_); rintro e w' ⟨rfl, ⟨nd, rfl⟩⟩; refine ⟨_, rfl, ?_⟩) | ((with_reducible refine gate_callee (f := 30) rfl ?_); refine goesL_ (some 47) rfl rfl Tryd.func30 (by kernel_rfl) rfl #[.int .i64 t136, .int .i64 t137] rfl (by (try simp only [List.map_toArray, List.map_cons, List.map_nil]); first | done | rfl | (simp only [List.length_drop, List.length_take]; rfl)) ?_; (with_reducible refine (num_Mul.calls kj7 t136 t137 t138 false _ A17.out).mono ?_); rintro e w' ⟨rfl, ⟨nd, rfl⟩⟩; refine ⟨_, rfl, ?_⟩) | ((with_reducible refine gate_callee (f := 31) rfl ?_); refine goesL_ (some 52) rfl rfl Tryd.func31 (by kernel_rfl) rfl #[.string t132] rfl (by (try simp only [List.map_toArray, List.map_cons, List.map_nil]); first | done | rfl | (simp only [List.length_drop, List.length_take]; rfl)) ?_; (with_reducible refine (deci_value.calls kj7 t132 t140 _ A18.out).mono ?_); rintro e w' ⟨rfl, ⟨nd, rfl⟩⟩; refine ⟨_, rfl, ?_⟩) | ((with_reducible refine gate_callee (f := 23) rfl ?_); refine goesL_ (some 57) rfl rfl Tryd.func23 (by kernel_rfl) rfl #[.int .i64 (wrap64 (a1 - (t132.size : Int)))] rfl (by (try simp only [List.map_toArray, List.map_cons, List.map_nil]); first | done | rfl | (simp only [List.length_drop, List.length_take]; rfl)) ?_; (with_reducible refine (deci_power.calls kj7 (wrap64 (a1 - (t132.size : Int))) t141 _ A19.out).mono ?_); rintro e w' ⟨rfl, ⟨nd, rfl⟩⟩; refine ⟨_, rfl, ?_⟩))
                  go_ret2
                  exact ⟨by first | rfl | (simp [errW_none, errW_some] <;> rfl) | (simp [*, errW_none, errW_some] <;> rfl), by repeat (first | (with_reducible first | exact HB.out | apply below_alloc | apply pw_below_drewN | apply below_drew1) | exact HB.out)⟩

/-! ### deci_Whole: function 17 -/
def deci_Whole.f (k : Nat) (a0 : ByteArray) : Option (Int × Int) := if (a0.size : Int) > 1 then (if 0 < (a0.size : Int) then (if (bt a0 0) = 48 then (some (0, 21)) else ((strings_HasPrefix.f a0 (⟨#[45]⟩ : ByteArray)).bind fun t142 => (if t142 = true then (some (0, 21)) else ((deci_Read.f k a0 0).bind fun bt143 => (some (bt143.1, bt143.2)))))) else (none)) else ((strings_HasPrefix.f a0 (⟨#[45]⟩ : ByteArray)).bind fun t145 => (if t145 = true then (some (0, 21)) else ((deci_Read.f k a0 0).bind fun bt146 => (some (bt146.1, bt146.2)))))
theorem deci_Whole.mono : ∀ a0 k, LeO (deci_Whole.f k a0) (deci_Whole.f (k + 1) a0) := by
  intro a0 k
  unfold deci_Whole.f
  repeat' first
      | (with_reducible exact deci_Read.mono _ _ _)
      | (with_reducible exact LeO.refl _)
      | (with_reducible exact LeO.none _)
      | (with_reducible refine LeO.ite ?_ ?_)
      | (with_reducible refine LeO.bind ?_ (fun _ => ?_))
      | exact deci_Read.mono _ _ _
      | exact LeO.none _
      | refine LeO.ite ?_ ?_
      | refine LeO.bind ?_ (fun _ => ?_)
set_option maxHeartbeats 8000000 in
set_option maxRecDepth 100000 in
theorem deci_Whole.calls (k : Nat) (a0 : ByteArray) (r1 : Int) (r2 : Int) (w : World) (h : deci_Whole.f k a0 = some (r1, r2)) :
    Calls Tryd.prog 17 #[.string a0] w fun e w' => e = .returned (.tuple #[.int .i64 r1, .int .i64 r2]) ∧ Below w.heap.size w w' := by
  have HB := Aside0.mk (Below.refl w.heap.size w)
  have H : (if (a0.size : Int) > 1 then (if 0 < (a0.size : Int) then (if (bt a0 0) = 48 then (some (0, 21)) else ((strings_HasPrefix.f a0 (⟨#[45]⟩ : ByteArray)).bind fun t142 => (if t142 = true then (some (0, 21)) else ((deci_Read.f k a0 0).bind fun bt143 => (some (bt143.1, bt143.2)))))) else (none)) else ((strings_HasPrefix.f a0 (⟨#[45]⟩ : ByteArray)).bind fun t145 => (if t145 = true then (some (0, 21)) else ((deci_Read.f k a0 0).bind fun bt146 => (some (bt146.1, bt146.2)))))) = some (r1, r2) := h
  clear h
  by_cases c2 : (a0.size : Int) > 1
  · rw [if_pos c2] at H
    have c2b0 : decide (1 < (a0.size : Int)) = true := decide_eq_true c2
    have c2b1 : decide (1 < a0.size) = true := decide_eq_true (by omega)
    clear c2
    by_cases c3 : 0 < (a0.size : Int)
    · rw [if_pos c3] at H
      have c3b0 : decide (0 < (a0.size : Int)) = true := decide_eq_true c3
      have c3b1 : decide (0 < a0.size) = true := decide_eq_true (by omega)
      clear c3
      by_cases c5 : (bt a0 0) = 48
      · rw [if_pos c5] at H
        have c5b0 : ((bt a0 0) == 48) = true := beq_iff_eq.mpr c5
        have c5b1 : ((bt a0 0) != 48) = false := bne_eq_false_iff_eq.mpr c5
        clear c5
        simp only [Option.some.injEq, Prod.mk.injEq] at H
        obtain ⟨rfl, rfl⟩ := H
        have p4 : 0 ≤ (0 : Int) := (by omega)
        have q4 : 0 < a0.size := (by have : (0 : Int) < (a0.size : Int) := of_decide_eq_true (by first | (with_reducible assumption) | assumption); omega)
        have hx4 : ∀ h : 0 < a0.size, ((a0[0]'h).toNat : Int) = bt a0 0 := bt_at a0 0
        clear p4
        have qi4 : (0 < (a0.size : Int)) = True := eq_true (of_decide_eq_true (by first | (with_reducible assumption) | assumption))
        replace q4 := eq_true q4
        go_enter Tryd.func17, Tryd.ntmps17
        go_wp2
        go_ret2
        exact ⟨by first | rfl | (simp [errW_none, errW_some] <;> rfl) | (simp [*, errW_none, errW_some] <;> rfl), by repeat (first | (with_reducible first | exact HB.out | apply below_alloc | apply pw_below_drewN | apply below_drew1) | exact HB.out)⟩
      · rw [if_neg c5] at H
        have c5b0 : ((bt a0 0) == 48) = false := beq_eq_false_iff_ne.mpr c5
        have c5b1 : ((bt a0 0) != 48) = true := bne_iff_ne.mpr c5
        replace H := Option.bind_eq_some_iff.mp H
        obtain ⟨t142, A60, H⟩ := H
        replace H : (if t142 = true then (some (0, 21)) else ((deci_Read.f k a0 0).bind fun bt143 => (some (bt143.1, bt143.2)))) = some (r1, r2) := H
        have A6 := Aside0.mk A60
        clear A60
        by_cases c7 : t142 = true
        · subst c7
          have H1 : (some (0, 21)) = some (r1, r2) := by rw [if_pos rfl] at H; exact H
          clear H
          have H := H1
          clear H1
          simp only [Option.some.injEq, Prod.mk.injEq] at H
          obtain ⟨rfl, rfl⟩ := H
          have p4 : 0 ≤ (0 : Int) := (by omega)
          have q4 : 0 < a0.size := (by have : (0 : Int) < (a0.size : Int) := of_decide_eq_true (by first | (with_reducible assumption) | assumption); omega)
          have hx4 : ∀ h : 0 < a0.size, ((a0[0]'h).toNat : Int) = bt a0 0 := bt_at a0 0
          clear p4
          have qi4 : (0 < (a0.size : Int)) = True := eq_true (of_decide_eq_true (by first | (with_reducible assumption) | assumption))
          replace q4 := eq_true q4
          go_enter Tryd.func17, Tryd.ntmps17
          go_wp2_with (first | (go_at_call 32; (with_reducible refine (strings_HasPrefix.calls a0 (⟨#[45]⟩ : ByteArray) true _ A6.out).mono ?_); rintro e w' ⟨rfl, ⟨nd, rfl⟩⟩))
          go_ret2
          exact ⟨by first | rfl | (simp [errW_none, errW_some] <;> rfl) | (simp [*, errW_none, errW_some] <;> rfl), by repeat (first | (with_reducible first | exact HB.out | apply below_alloc | apply pw_below_drewN | apply below_drew1) | exact HB.out)⟩
        · replace c7 := Bool.eq_false_iff.mpr c7
          subst c7
          have H1 : ((deci_Read.f k a0 0).bind fun bt143 => (some (bt143.1, bt143.2))) = some (r1, r2) := by rw [if_neg (show ¬ (false = true) by decide)] at H; exact H
          clear H
          have H := H1
          clear H1
          replace H := Option.bind_eq_some_iff.mp H
          obtain ⟨⟨t143, t144⟩, A80, H⟩ := H
          replace H : (some (t143, t144)) = some (r1, r2) := H
          have A8 := Aside0.mk A80
          clear A80
          simp only [Option.some.injEq, Prod.mk.injEq] at H
          obtain ⟨rfl, rfl⟩ := H
          have p4 : 0 ≤ (0 : Int) := (by omega)
          have q4 : 0 < a0.size := (by have : (0 : Int) < (a0.size : Int) := of_decide_eq_true (by first | (with_reducible assumption) | assumption); omega)
          have hx4 : ∀ h : 0 < a0.size, ((a0[0]'h).toNat : Int) = bt a0 0 := bt_at a0 0
          clear p4
          have qi4 : (0 < (a0.size : Int)) = True := eq_true (of_decide_eq_true (by first | (with_reducible assumption) | assumption))
          replace q4 := eq_true q4
          go_enter Tryd.func17, Tryd.ntmps17
          go_wp2_with (first | (go_at_call 32; (with_reducible refine (strings_HasPrefix.calls a0 (⟨#[45]⟩ : ByteArray) false _ A6.out).mono ?_); rintro e w' ⟨rfl, ⟨nd, rfl⟩⟩) | ((with_reducible refine gate_callee (f := 15) rfl ?_); refine goesL_ (some 20) rfl rfl Tryd.func15 (by kernel_rfl) rfl #[.string a0, .int .i64 0] rfl (by (try simp only [List.map_toArray, List.map_cons, List.map_nil]); first | done | rfl | (simp only [List.length_drop, List.length_take]; rfl)) ?_; (with_reducible refine (deci_Read.calls k a0 0 t143 t144 _ A8.out).mono ?_); rintro e w9 ⟨rfl, hb⟩; refine ⟨_, rfl, ?_⟩; have n0_ := Aside0.mk (below_step (by repeat (first | (with_reducible first | exact HB.out | apply below_alloc | apply pw_below_drewN | apply below_drew1) | exact HB.out)) hb); clear HB; have HB := n0_; clear n0_; (try clear hb); (try clear hb2); (try clear hk); (try clear hi)))
          go_ret2
          exact ⟨by first | rfl | (simp [errW_none, errW_some] <;> rfl) | (simp [*, errW_none, errW_some] <;> rfl), by repeat (first | (with_reducible first | exact HB.out | apply below_alloc | apply pw_below_drewN | apply below_drew1) | exact HB.out)⟩
    · rw [if_neg c3] at H
      exact absurd H (by simp)
  · rw [if_neg c2] at H
    have c2b0 : decide (1 < (a0.size : Int)) = false := decide_eq_false c2
    have c2b1 : decide (1 < a0.size) = false := decide_eq_false (by omega)
    clear c2
    replace H := Option.bind_eq_some_iff.mp H
    obtain ⟨t145, A100, H⟩ := H
    replace H : (if t145 = true then (some (0, 21)) else ((deci_Read.f k a0 0).bind fun bt146 => (some (bt146.1, bt146.2)))) = some (r1, r2) := H
    have A10 := Aside0.mk A100
    clear A100
    by_cases c11 : t145 = true
    · subst c11
      have H1 : (some (0, 21)) = some (r1, r2) := by rw [if_pos rfl] at H; exact H
      clear H
      have H := H1
      clear H1
      simp only [Option.some.injEq, Prod.mk.injEq] at H
      obtain ⟨rfl, rfl⟩ := H
      go_enter Tryd.func17, Tryd.ntmps17
      go_wp2_with (first | (go_at_call 32; (with_reducible refine (strings_HasPrefix.calls a0 (⟨#[45]⟩ : ByteArray) true _ A10.out).mono ?_); rintro e w' ⟨rfl, ⟨nd, rfl⟩⟩))
      go_ret2
      exact ⟨by first | rfl | (simp [errW_none, errW_some] <;> rfl) | (simp [*, errW_none, errW_some] <;> rfl), by repeat (first | (with_reducible first | exact HB.out | apply below_alloc | apply pw_below_drewN | apply below_drew1) | exact HB.out)⟩
    · replace c11 := Bool.eq_false_iff.mpr c11
      subst c11
      have H1 : ((deci_Read.f k a0 0).bind fun bt146 => (some (bt146.1, bt146.2))) = some (r1, r2) := by rw [if_neg (show ¬ (false = true) by decide)] at H; exact H
      clear H
      have H := H1
      clear H1
      replace H := Option.bind_eq_some_iff.mp H
      obtain ⟨⟨t146, t147⟩, A120, H⟩ := H
      replace H : (some (t146, t147)) = some (r1, r2) := H
      have A12 := Aside0.mk A120
      clear A120
      simp only [Option.some.injEq, Prod.mk.injEq] at H
      obtain ⟨rfl, rfl⟩ := H
      go_enter Tryd.func17, Tryd.ntmps17
      go_wp2_with (first | (go_at_call 32; (with_reducible refine (strings_HasPrefix.calls a0 (⟨#[45]⟩ : ByteArray) false _ A10.out).mono ?_); rintro e w' ⟨rfl, ⟨nd, rfl⟩⟩) | ((with_reducible refine gate_callee (f := 15) rfl ?_); refine goesL_ (some 20) rfl rfl Tryd.func15 (by kernel_rfl) rfl #[.string a0, .int .i64 0] rfl (by (try simp only [List.map_toArray, List.map_cons, List.map_nil]); first | done | rfl | (simp only [List.length_drop, List.length_take]; rfl)) ?_; (with_reducible refine (deci_Read.calls k a0 0 t146 t147 _ A12.out).mono ?_); rintro e w13 ⟨rfl, hb⟩; refine ⟨_, rfl, ?_⟩; have n0_ := Aside0.mk (below_step (by repeat (first | (with_reducible first | exact HB.out | apply below_alloc | apply pw_below_drewN | apply below_drew1) | exact HB.out)) hb); clear HB; have HB := n0_; clear n0_; (try clear hb); (try clear hb2); (try clear hk); (try clear hi)))
      go_ret2
      exact ⟨by first | rfl | (simp [errW_none, errW_some] <;> rfl) | (simp [*, errW_none, errW_some] <;> rfl), by repeat (first | (with_reducible first | exact HB.out | apply below_alloc | apply pw_below_drewN | apply below_drew1) | exact HB.out)⟩

end Go.Proofs.YtfhpppibiemhkaaDoor.P
