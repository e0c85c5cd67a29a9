/- P8 -/
import Derived.Test.YtcdmndhaeiccoaaGreatDoorMkit
import Derived.Test.YtcdmndhaeiccoaaGreatDoorM00
import Derived.Test.YtcdmndhaeiccoaaGreatDoorM01
namespace Go.Proofs.YtcdmndhaeiccoaaGreatDoor.P
open Go.Proofs.YtcdmndhaeiccoaaGreatDoorR
open Go.RowKit Go.Proofs.YtcdmndhaeiccoaaGreatDoorW.PrintWords Go.Proofs.YtcdmndhaeiccoaaGreatDoorW.PrintLast
attribute [local go_sem] max2_int min2_int max_two min_two   -- for this text's walks alone
set_option linter.unusedVariables false
set_option linter.unusedSimpArgs false

/-! ### deci_Read: function 60 -/
mutual
def deci_Read.j0 : Nat → ByteArray → Int → Bool → Option (Int × Int)
  | 0, _, _, _ => none
  | k + 1, x0, x1, x18 => if x18 = true then (some (0, 1)) else ((strings_CutPrefix.f x0 (⟨#[45]⟩ : ByteArray)).bind fun bt124 => ((strings_Cut.f bt124.1 (⟨#[46]⟩ : ByteArray)).bind fun bt126 => ((deci_digits.f k bt126.1 13).bind fun t129 => (if t129 = true then (if bt126.2.2 = true then ((deci_digits.f k bt126.2.1 x1).bind fun t130 => (deci_Read.j1 k x1 bt124.2 bt126.1 bt126.2.1 (!t130))) else (deci_Read.j1 k x1 bt124.2 bt126.1 bt126.2.1 false)) else (deci_Read.j1 k x1 bt124.2 bt126.1 bt126.2.1 true)))))
def deci_Read.j1 : Nat → Int → Bool → ByteArray → ByteArray → Bool → Option (Int × Int)
  | 0, _, _, _, _, _ => none
  | k + 1, x1, x7, x8, x9, x41 => if x41 = true then (some (0, 21)) else ((deci_value.f k x8).bind fun t131 => ((deci_power.f k x1).bind fun t132 => ((num_Mul.f k t131 t132).bind fun bt133 => ((deci_value.f k x9).bind fun t135 => ((deci_power.f k (wrap64 (x1 - (x9.size : Int)))).bind fun t136 => (if x7 = true then (if bt133.2 = true then (if (wrap64 (-(wrap64 (bt133.1 + (wrap64 (t135 * t136)))))) < (-1099511627776) then (some (0, 23)) else (if (wrap64 (-(wrap64 (bt133.1 + (wrap64 (t135 * t136)))))) > 1099511627776 then (some (0, 23)) else (some (wrap64 (-(wrap64 (bt133.1 + (wrap64 (t135 * t136))))), 0)))) else (some (0, 23))) else (if bt133.2 = true then (if (wrap64 (bt133.1 + (wrap64 (t135 * t136)))) < (-1099511627776) then (some (0, 23)) else (if (wrap64 (bt133.1 + (wrap64 (t135 * t136)))) > 1099511627776 then (some (0, 23)) else (some (wrap64 (bt133.1 + (wrap64 (t135 * t136))), 0)))) else (some (0, 23)))))))))
end
def deci_Read.f (k : Nat) (a0 : ByteArray) (a1 : Int) : Option (Int × Int) := if a1 < 0 then (deci_Read.j0 k a0 a1 true) else (deci_Read.j0 k a0 a1 (decide (a1 > 6)))
set_option maxHeartbeats 8000000 in
set_option maxRecDepth 100000 in
theorem deci_Read.calls (k : Nat) (a0 : ByteArray) (a1 : Int) (r1 : Int) (r2 : Int) (w : World) (h : deci_Read.f k a0 a1 = some (r1, r2)) :
    Calls Tryz.prog 60 #[.string a0, .int .i64 a1] w fun e w' => e = .returned (.tuple #[.int .i64 r1, .int .i64 r2]) ∧ Below w.heap.size w w' := by
  have HB := Aside0.mk (Below.refl w.heap.size w)
  have H : (if a1 < 0 then (deci_Read.j0 k a0 a1 true) else (deci_Read.j0 k a0 a1 (decide (a1 > 6)))) = some (r1, r2) := h
  clear h
  have HC3 := Aside0.mk H
  clear H
  go_enter Tryz.func60, Tryz.ntmps60
  go_upto_region 1 with (fail)
  go_cut [18] (fun v18 wc => ∃ (kq : Nat) (x18_2 : Bool), v18 = .bool x18_2 ∧ Aside0 (deci_Read.j0 kq a0 a1 x18_2 = some (r1, r2)) ∧ Aside0 (kq ≤ k) ∧ Aside0 (Below w.heap.size w wc))
  case first =>
    have H := HC3.out
    clear HC3
    by_cases c4 : a1 < 0
    · rw [if_pos c4] at H
      have c4b0 : decide (a1 < 0) = true := decide_eq_true c4
      clear c4
      (first | rw [c4b0] | (simp only [i64_w, i32_w]; rw [c4b0]) | skip)
      have H' := Aside0.mk H
      clear H
      go_wp2
      go_meet
      case rel => exact ⟨_, (true), (by first | rfl | (simp; done) | (simp [*]; done)), H', ⟨by first | omega | exact Nat.le_refl _⟩, ⟨by repeat (first | (with_reducible first | exact HB.out | apply below_alloc | apply pw_below_drewN | apply below_drew1) | exact HB.out)⟩⟩
    · rw [if_neg c4] at H
      have c4b0 : decide (a1 < 0) = false := decide_eq_false c4
      clear c4
      (first | rw [c4b0] | (simp only [i64_w, i32_w]; rw [c4b0]) | skip)
      have H' := Aside0.mk H
      clear H
      go_wp2
      go_meet
      case rel => exact ⟨_, (decide (a1 > 6)), (by first | rfl | (simp; done) | (simp [*]; done)), H', ⟨by first | omega | exact Nat.le_refl _⟩, ⟨by repeat (first | (with_reducible first | exact HB.out | apply below_alloc | apply pw_below_drewN | apply below_drew1) | exact HB.out)⟩⟩
  case rest =>
    clear HC3
    try clear p2
    try clear c4
    try clear c4b0
    obtain ⟨kq, x18_2, rfl, HA, HJ2, HB⟩ := hcut
    cases kq with
    | zero => exact absurd HA.out (by simp [deci_Read.j0])
    | succ kj2 =>
      have H := HA.out
      clear HA
      simp only [deci_Read.j0] at H
      by_cases c5 : x18_2 = true
      · subst c5
        have H1 : (some (0, 1)) = some (r1, r2) := by rw [if_pos rfl] at H; exact H
        clear H
        have H := H1
        clear H1
        simp only [Option.some.injEq, Prod.mk.injEq] at H
        obtain ⟨rfl, rfl⟩ := H
        go_wp2
        go_ret2
        exact ⟨by first | rfl | (simp [errW_none, errW_some] <;> rfl) | (simp [*, errW_none, errW_some] <;> rfl), by repeat (first | (with_reducible first | exact HB.out | apply below_alloc | apply pw_below_drewN | apply below_drew1) | exact HB.out)⟩
      · replace c5 := Bool.eq_false_iff.mpr c5
        subst c5
        have H1 : ((strings_CutPrefix.f a0 (⟨#[45]⟩ : ByteArray)).bind fun bt124 => ((strings_Cut.f bt124.1 (⟨#[46]⟩ : ByteArray)).bind fun bt126 => ((deci_digits.f kj2 bt126.1 13).bind fun t129 => (if t129 = true then (if bt126.2.2 = true then ((deci_digits.f kj2 bt126.2.1 a1).bind fun t130 => (deci_Read.j1 kj2 a1 bt124.2 bt126.1 bt126.2.1 (!t130))) else (deci_Read.j1 kj2 a1 bt124.2 bt126.1 bt126.2.1 false)) else (deci_Read.j1 kj2 a1 bt124.2 bt126.1 bt126.2.1 true))))) = some (r1, r2) := by rw [if_neg (show ¬ (false = true) by decide)] at H; exact H
        clear H
        have H := H1
        clear H1
        replace H := Option.bind_eq_some_iff.mp H
        obtain ⟨⟨t124, t125⟩, A60, H⟩ := H
        replace H : ((strings_Cut.f t124 (⟨#[46]⟩ : ByteArray)).bind fun bt126 => ((deci_digits.f kj2 bt126.1 13).bind fun t129 => (if t129 = true then (if bt126.2.2 = true then ((deci_digits.f kj2 bt126.2.1 a1).bind fun t130 => (deci_Read.j1 kj2 a1 t125 bt126.1 bt126.2.1 (!t130))) else (deci_Read.j1 kj2 a1 t125 bt126.1 bt126.2.1 false)) else (deci_Read.j1 kj2 a1 t125 bt126.1 bt126.2.1 true)))) = some (r1, r2) := H
        have A6 := Aside0.mk A60
        clear A60
        replace H := Option.bind_eq_some_iff.mp H
        obtain ⟨⟨t126, t127, t128⟩, A70, H⟩ := H
        replace H : ((deci_digits.f kj2 t126 13).bind fun t129 => (if t129 = true then (if t128 = true then ((deci_digits.f kj2 t127 a1).bind fun t130 => (deci_Read.j1 kj2 a1 t125 t126 t127 (!t130))) else (deci_Read.j1 kj2 a1 t125 t126 t127 false)) else (deci_Read.j1 kj2 a1 t125 t126 t127 true))) = some (r1, r2) := H
        have A7 := Aside0.mk A70
        clear A70
        have HC8 := Aside0.mk H
        clear H
        go_upto_region 5 with (first | ((with_reducible refine gate_callee (f := 94) rfl ?_); refine goesL_ (some 21) rfl rfl Tryz.func94 (by kernel_rfl) rfl #[.string a0, .string (⟨#[45]⟩ : ByteArray)] rfl (by (try simp only [List.map_toArray, List.map_cons, List.map_nil]); first | done | rfl | (simp only [List.length_drop, List.length_take]; rfl)) ?_; (with_reducible refine (strings_CutPrefix.calls a0 (⟨#[45]⟩ : ByteArray) t124 t125 _ A6.out).mono ?_); rintro e w' ⟨rfl, ⟨nd, rfl⟩⟩; refine ⟨_, rfl, ?_⟩) | ((with_reducible refine gate_callee (f := 95) rfl ?_); refine goesL_ (some 26) rfl rfl Tryz.func95 (by kernel_rfl) rfl #[.string t124, .string (⟨#[46]⟩ : ByteArray)] rfl (by (try simp only [List.map_toArray, List.map_cons, List.map_nil]); first | done | rfl | (simp only [List.length_drop, List.length_take]; rfl)) ?_; (with_reducible refine (strings_Cut.calls t124 (⟨#[46]⟩ : ByteArray) t126 t127 t128 _ A7.out).mono ?_); rintro e w9 ⟨rfl, hb⟩; refine ⟨_, rfl, ?_⟩; have n0_ := Aside0.mk (below_step (by repeat (first | (with_reducible first | exact HB.out | apply below_alloc | apply pw_below_drewN | apply below_drew1) | exact HB.out)) hb); clear HB; have HB := n0_; clear n0_; (try clear hb); (try clear hb2); (try clear hk); (try clear hi)))
        (try simp only [Act.put, List.setIfInBounds_toArray, List.set_cons_zero, List.set_cons_succ])
        go_cut [41] (fun v41 wc => ∃ (kq : Nat) (x41_7 : Bool), v41 = .bool x41_7 ∧ Aside0 (deci_Read.j1 kq a1 t125 t126 t127 x41_7 = some (r1, r2)) ∧ Aside0 (kq ≤ kj2) ∧ Aside0 (Below w.heap.size w wc))
        case first =>
          have H := HC8.out
          clear HC8
          replace H := Option.bind_eq_some_iff.mp H
          obtain ⟨t129, A100, H⟩ := H
          replace H : (if t129 = true then (if t128 = true then ((deci_digits.f kj2 t127 a1).bind fun t130 => (deci_Read.j1 kj2 a1 t125 t126 t127 (!t130))) else (deci_Read.j1 kj2 a1 t125 t126 t127 false)) else (deci_Read.j1 kj2 a1 t125 t126 t127 true)) = some (r1, r2) := H
          have A10 := Aside0.mk A100
          clear A100
          by_cases c11 : t129 = true
          · subst c11
            have H1 : (if t128 = true then ((deci_digits.f kj2 t127 a1).bind fun t130 => (deci_Read.j1 kj2 a1 t125 t126 t127 (!t130))) else (deci_Read.j1 kj2 a1 t125 t126 t127 false)) = some (r1, r2) := by rw [if_pos rfl] at H; exact H
            clear H
            have H := H1
            clear H1
            by_cases c12 : t128 = true
            · subst c12
              have H1 : ((deci_digits.f kj2 t127 a1).bind fun t130 => (deci_Read.j1 kj2 a1 t125 t126 t127 (!t130))) = some (r1, r2) := by rw [if_pos rfl] at H; exact H
              clear H
              have H := H1
              clear H1
              replace H := Option.bind_eq_some_iff.mp H
              obtain ⟨t130, A130, H⟩ := H
              replace H : (deci_Read.j1 kj2 a1 t125 t126 t127 (!t130)) = some (r1, r2) := H
              have A13 := Aside0.mk A130
              clear A130
              have H' := Aside0.mk H
              clear H
              go_wp2_with (first | ((with_reducible refine gate_callee (f := 96) rfl ?_); refine goesL_ (some 31) rfl rfl Tryz.func96 (by kernel_rfl) rfl #[.string t126, .int .i64 13] rfl (by (try simp only [List.map_toArray, List.map_cons, List.map_nil]); first | done | rfl | (simp only [List.length_drop, List.length_take]; rfl)) ?_; (with_reducible refine (deci_digits.calls kj2 t126 13 true _ A10.out).mono ?_); rintro e w' ⟨rfl, ⟨nd, rfl⟩⟩; refine ⟨_, rfl, ?_⟩) | (go_at_call 96; (with_reducible refine (deci_digits.calls kj2 t127 a1 t130 _ A13.out).mono ?_); rintro e w' ⟨rfl, ⟨nd, rfl⟩⟩))
              go_meet
              case rel => exact ⟨_, (!t130), (by first | rfl | (simp; done) | (simp [*]; done)), H', ⟨by have := HJ2.out; first | omega | exact Nat.le_refl _⟩, ⟨by repeat (first | (with_reducible first | exact HB.out | apply below_alloc | apply pw_below_drewN | apply below_drew1) | exact HB.out)⟩⟩
            · replace c12 := Bool.eq_false_iff.mpr c12
              subst c12
              have H1 : (deci_Read.j1 kj2 a1 t125 t126 t127 false) = some (r1, r2) := by rw [if_neg (show ¬ (false = true) by decide)] at H; exact H
              clear H
              have H := H1
              clear H1
              have H' := Aside0.mk H
              clear H
              go_wp2_with (first | ((with_reducible refine gate_callee (f := 96) rfl ?_); refine goesL_ (some 31) rfl rfl Tryz.func96 (by kernel_rfl) rfl #[.string t126, .int .i64 13] rfl (by (try simp only [List.map_toArray, List.map_cons, List.map_nil]); first | done | rfl | (simp only [List.length_drop, List.length_take]; rfl)) ?_; (with_reducible refine (deci_digits.calls kj2 t126 13 true _ A10.out).mono ?_); rintro e w' ⟨rfl, ⟨nd, rfl⟩⟩; refine ⟨_, rfl, ?_⟩))
              go_meet
              case rel => exact ⟨_, (false), (by first | rfl | (simp; done) | (simp [*]; done)), H', ⟨by have := HJ2.out; first | omega | exact Nat.le_refl _⟩, ⟨by repeat (first | (with_reducible first | exact HB.out | apply below_alloc | apply pw_below_drewN | apply below_drew1) | exact HB.out)⟩⟩
          · replace c11 := Bool.eq_false_iff.mpr c11
            subst c11
            have H1 : (deci_Read.j1 kj2 a1 t125 t126 t127 true) = some (r1, r2) := by rw [if_neg (show ¬ (false = true) by decide)] at H; exact H
            clear H
            have H := H1
            clear H1
            have H' := Aside0.mk H
            clear H
            go_wp2_with (first | ((with_reducible refine gate_callee (f := 96) rfl ?_); refine goesL_ (some 31) rfl rfl Tryz.func96 (by kernel_rfl) rfl #[.string t126, .int .i64 13] rfl (by (try simp only [List.map_toArray, List.map_cons, List.map_nil]); first | done | rfl | (simp only [List.length_drop, List.length_take]; rfl)) ?_; (with_reducible refine (deci_digits.calls kj2 t126 13 false _ A10.out).mono ?_); rintro e w' ⟨rfl, ⟨nd, rfl⟩⟩; refine ⟨_, rfl, ?_⟩))
            go_meet
            case rel => exact ⟨_, (true), (by first | rfl | (simp; done) | (simp [*]; done)), H', ⟨by have := HJ2.out; first | omega | exact Nat.le_refl _⟩, ⟨by repeat (first | (with_reducible first | exact HB.out | apply below_alloc | apply pw_below_drewN | apply below_drew1) | exact HB.out)⟩⟩
        case rest =>
          clear HC8
          try clear c1
          try clear p2
          try clear c4
          try clear c4b0
          try clear c5
          try clear c6
          try clear c9
          try clear c11
          try clear c12
          try clear p2
          obtain ⟨kq, x41_7, rfl, HA, HJ7, HB⟩ := hcut
          cases kq with
          | zero => exact absurd HA.out (by simp [deci_Read.j1])
          | succ kj7 =>
            have H := HA.out
            clear HA
            simp only [deci_Read.j1] at H
            by_cases c14 : x41_7 = true
            · subst c14
              have H1 : (some (0, 21)) = some (r1, r2) := by rw [if_pos rfl] at H; exact H
              clear H
              have H := H1
              clear H1
              simp only [Option.some.injEq, Prod.mk.injEq] at H
              obtain ⟨rfl, rfl⟩ := H
              go_wp2
              go_ret2
              exact ⟨by first | rfl | (simp [errW_none, errW_some] <;> rfl) | (simp [*, errW_none, errW_some] <;> rfl), by repeat (first | (with_reducible first | exact HB.out | apply below_alloc | apply pw_below_drewN | apply below_drew1) | exact HB.out)⟩
            · replace c14 := Bool.eq_false_iff.mpr c14
              subst c14
              have H1 : ((deci_value.f kj7 t126).bind fun t131 => ((deci_power.f kj7 a1).bind fun t132 => ((num_Mul.f kj7 t131 t132).bind fun bt133 => ((deci_value.f kj7 t127).bind fun t135 => ((deci_power.f kj7 (wrap64 (a1 - (t127.size : Int)))).bind fun t136 => (if t125 = true then (if bt133.2 = true then (if (wrap64 (-(wrap64 (bt133.1 + (wrap64 (t135 * t136)))))) < (-1099511627776) then (some (0, 23)) else (if (wrap64 (-(wrap64 (bt133.1 + (wrap64 (t135 * t136)))))) > 1099511627776 then (some (0, 23)) else (some (wrap64 (-(wrap64 (bt133.1 + (wrap64 (t135 * t136))))), 0)))) else (some (0, 23))) else (if bt133.2 = true then (if (wrap64 (bt133.1 + (wrap64 (t135 * t136)))) < (-1099511627776) then (some (0, 23)) else (if (wrap64 (bt133.1 + (wrap64 (t135 * t136)))) > 1099511627776 then (some (0, 23)) else (some (wrap64 (bt133.1 + (wrap64 (t135 * t136))), 0)))) else (some (0, 23))))))))) = some (r1, r2) := by rw [if_neg (show ¬ (false = true) by decide)] at H; exact H
              clear H
              have H := H1
              clear H1
              replace H := Option.bind_eq_some_iff.mp H
              obtain ⟨t131, A150, H⟩ := H
              replace H : ((deci_power.f kj7 a1).bind fun t132 => ((num_Mul.f kj7 t131 t132).bind fun bt133 => ((deci_value.f kj7 t127).bind fun t135 => ((deci_power.f kj7 (wrap64 (a1 - (t127.size : Int)))).bind fun t136 => (if t125 = true then (if bt133.2 = true then (if (wrap64 (-(wrap64 (bt133.1 + (wrap64 (t135 * t136)))))) < (-1099511627776) then (some (0, 23)) else (if (wrap64 (-(wrap64 (bt133.1 + (wrap64 (t135 * t136)))))) > 1099511627776 then (some (0, 23)) else (some (wrap64 (-(wrap64 (bt133.1 + (wrap64 (t135 * t136))))), 0)))) else (some (0, 23))) else (if bt133.2 = true then (if (wrap64 (bt133.1 + (wrap64 (t135 * t136)))) < (-1099511627776) then (some (0, 23)) else (if (wrap64 (bt133.1 + (wrap64 (t135 * t136)))) > 1099511627776 then (some (0, 23)) else (some (wrap64 (bt133.1 + (wrap64 (t135 * t136))), 0)))) else (some (0, 23)))))))) = some (r1, r2) := H
              have A15 := Aside0.mk A150
              clear A150
              replace H := Option.bind_eq_some_iff.mp H
              obtain ⟨t132, A160, H⟩ := H
              replace H : ((num_Mul.f kj7 t131 t132).bind fun bt133 => ((deci_value.f kj7 t127).bind fun t135 => ((deci_power.f kj7 (wrap64 (a1 - (t127.size : Int)))).bind fun t136 => (if t125 = true then (if bt133.2 = true then (if (wrap64 (-(wrap64 (bt133.1 + (wrap64 (t135 * t136)))))) < (-1099511627776) then (some (0, 23)) else (if (wrap64 (-(wrap64 (bt133.1 + (wrap64 (t135 * t136)))))) > 1099511627776 then (some (0, 23)) else (some (wrap64 (-(wrap64 (bt133.1 + (wrap64 (t135 * t136))))), 0)))) else (some (0, 23))) else (if bt133.2 = true then (if (wrap64 (bt133.1 + (wrap64 (t135 * t136)))) < (-1099511627776) then (some (0, 23)) else (if (wrap64 (bt133.1 + (wrap64 (t135 * t136)))) > 1099511627776 then (some (0, 23)) else (some (wrap64 (bt133.1 + (wrap64 (t135 * t136))), 0)))) else (some (0, 23))))))) = some (r1, r2) := H
              have A16 := Aside0.mk A160
              clear A160
              replace H := Option.bind_eq_some_iff.mp H
              obtain ⟨⟨t133, t134⟩, A170, H⟩ := H
              replace H : ((deci_value.f kj7 t127).bind fun t135 => ((deci_power.f kj7 (wrap64 (a1 - (t127.size : Int)))).bind fun t136 => (if t125 = true then (if t134 = true then (if (wrap64 (-(wrap64 (t133 + (wrap64 (t135 * t136)))))) < (-1099511627776) then (some (0, 23)) else (if (wrap64 (-(wrap64 (t133 + (wrap64 (t135 * t136)))))) > 1099511627776 then (some (0, 23)) else (some (wrap64 (-(wrap64 (t133 + (wrap64 (t135 * t136))))), 0)))) else (some (0, 23))) else (if t134 = true then (if (wrap64 (t133 + (wrap64 (t135 * t136)))) < (-1099511627776) then (some (0, 23)) else (if (wrap64 (t133 + (wrap64 (t135 * t136)))) > 1099511627776 then (some (0, 23)) else (some (wrap64 (t133 + (wrap64 (t135 * t136))), 0)))) else (some (0, 23)))))) = some (r1, r2) := H
              have A17 := Aside0.mk A170
              clear A170
              replace H := Option.bind_eq_some_iff.mp H
              obtain ⟨t135, A180, H⟩ := H
              replace H : ((deci_power.f kj7 (wrap64 (a1 - (t127.size : Int)))).bind fun t136 => (if t125 = true then (if t134 = true then (if (wrap64 (-(wrap64 (t133 + (wrap64 (t135 * t136)))))) < (-1099511627776) then (some (0, 23)) else (if (wrap64 (-(wrap64 (t133 + (wrap64 (t135 * t136)))))) > 1099511627776 then (some (0, 23)) else (some (wrap64 (-(wrap64 (t133 + (wrap64 (t135 * t136))))), 0)))) else (some (0, 23))) else (if t134 = true then (if (wrap64 (t133 + (wrap64 (t135 * t136)))) < (-1099511627776) then (some (0, 23)) else (if (wrap64 (t133 + (wrap64 (t135 * t136)))) > 1099511627776 then (some (0, 23)) else (some (wrap64 (t133 + (wrap64 (t135 * t136))), 0)))) else (some (0, 23))))) = some (r1, r2) := H
              have A18 := Aside0.mk A180
              clear A180
              replace H := Option.bind_eq_some_iff.mp H
              obtain ⟨t136, A190, H⟩ := H
              replace H : (if t125 = true then (if t134 = true then (if (wrap64 (-(wrap64 (t133 + (wrap64 (t135 * t136)))))) < (-1099511627776) then (some (0, 23)) else (if (wrap64 (-(wrap64 (t133 + (wrap64 (t135 * t136)))))) > 1099511627776 then (some (0, 23)) else (some (wrap64 (-(wrap64 (t133 + (wrap64 (t135 * t136))))), 0)))) else (some (0, 23))) else (if t134 = true then (if (wrap64 (t133 + (wrap64 (t135 * t136)))) < (-1099511627776) then (some (0, 23)) else (if (wrap64 (t133 + (wrap64 (t135 * t136)))) > 1099511627776 then (some (0, 23)) else (some (wrap64 (t133 + (wrap64 (t135 * t136))), 0)))) else (some (0, 23)))) = some (r1, r2) := H
              have A19 := Aside0.mk A190
              clear A190
              by_cases c20 : t125 = true
              · subst c20
                have H1 : (if t134 = true then (if (wrap64 (-(wrap64 (t133 + (wrap64 (t135 * t136)))))) < (-1099511627776) then (some (0, 23)) else (if (wrap64 (-(wrap64 (t133 + (wrap64 (t135 * t136)))))) > 1099511627776 then (some (0, 23)) else (some (wrap64 (-(wrap64 (t133 + (wrap64 (t135 * t136))))), 0)))) else (some (0, 23))) = some (r1, r2) := by rw [if_pos rfl] at H; exact H
                clear H
                have H := H1
                clear H1
                by_cases c21 : t134 = true
                · subst c21
                  have H1 : (if (wrap64 (-(wrap64 (t133 + (wrap64 (t135 * t136)))))) < (-1099511627776) then (some (0, 23)) else (if (wrap64 (-(wrap64 (t133 + (wrap64 (t135 * t136)))))) > 1099511627776 then (some (0, 23)) else (some (wrap64 (-(wrap64 (t133 + (wrap64 (t135 * t136))))), 0)))) = some (r1, r2) := by rw [if_pos rfl] at H; exact H
                  clear H
                  have H := H1
                  clear H1
                  by_cases c22 : (wrap64 (-(wrap64 (t133 + (wrap64 (t135 * t136)))))) < (-1099511627776)
                  · rw [if_pos c22] at H
                    have c22b0 : decide ((wrap64 (-(wrap64 (t133 + (wrap64 (t135 * t136)))))) < (-1099511627776)) = true := decide_eq_true c22
                    clear c22
                    simp only [Option.some.injEq, Prod.mk.injEq] at H
                    obtain ⟨rfl, rfl⟩ := H
                    go_wp2_with (first | ((with_reducible refine gate_callee (f := 98) rfl ?_); refine goesL_ (some 44) rfl rfl Tryz.func98 (by kernel_rfl) rfl #[.string t126] rfl (by (try simp only [List.map_toArray, List.map_cons, List.map_nil]); first | done | rfl | (simp only [List.length_drop, List.length_take]; rfl)) ?_; (with_reducible refine (deci_value.calls kj7 t126 t131 _ A15.out).mono ?_); rintro e w' ⟨rfl, ⟨nd, rfl⟩⟩; refine ⟨_, rfl, ?_⟩) | ((with_reducible refine gate_callee (f := 84) rfl ?_); refine goesL_ (some 46) rfl rfl Tryz.func84 (by kernel_rfl) rfl #[.int .i64 a1] rfl (by (try simp only [List.map_toArray, List.map_cons, List.map_nil]); first | done | rfl | (simp only [List.length_drop, List.length_take]; rfl)) ?_; (with_reducible refine (deci_power.calls kj7 a1 t132 _ A16.out).mono ?_); rintro e w' ⟨rfl, ⟨nd, rfl⟩⟩; refine ⟨_, rfl, ?_⟩) | ((with_reducible refine gate_callee (f := 97) rfl ?_); refine goesL_ (some 47) rfl rfl Tryz.func97 (by kernel_rfl) rfl #[.int .i64 t131, .int .i64 t132] rfl (by (try simp only [List.map_toArray, List.map_cons, List.map_nil]); first | done | rfl | (simp only [List.length_drop, List.length_take]; rfl)) ?_; (with_reducible refine (num_Mul.calls kj7 t131 t132 t133 true _ A17.out).mono ?_); rintro e w' ⟨rfl, ⟨nd, rfl⟩⟩; refine ⟨_, rfl, ?_⟩) | ((with_reducible refine gate_callee (f := 98) rfl ?_); refine goesL_ (some 52) rfl rfl Tryz.func98 (by kernel_rfl) rfl #[.string t127] rfl (by (try simp only [List.map_toArray, List.map_cons, List.map_nil]); first | done | rfl | (simp only [List.length_drop, List.length_take]; rfl)) ?_; (with_reducible refine (deci_value.calls kj7 t127 t135 _ A18.out).mono ?_); rintro e w' ⟨rfl, ⟨nd, rfl⟩⟩; refine ⟨_, rfl, ?_⟩) | ((with_reducible refine gate_callee (f := 84) rfl ?_); refine goesL_ (some 57) rfl rfl Tryz.func84 (by kernel_rfl) rfl #[.int .i64 (wrap64 (a1 - (t127.size : Int)))] rfl (by (try simp only [List.map_toArray, List.map_cons, List.map_nil]); first | done | rfl | (simp only [List.length_drop, List.length_take]; rfl)) ?_; (with_reducible refine (deci_power.calls kj7 (wrap64 (a1 - (t127.size : Int))) t136 _ A19.out).mono ?_); rintro e w' ⟨rfl, ⟨nd, rfl⟩⟩; refine ⟨_, rfl, ?_⟩))
                    go_ret2
                    exact ⟨by first | rfl | (simp [errW_none, errW_some] <;> rfl) | (simp [*, errW_none, errW_some] <;> rfl), by repeat (first | (with_reducible first | exact HB.out | apply below_alloc | apply pw_below_drewN | apply below_drew1) | exact HB.out)⟩
                  · rw [if_neg c22] at H
                    have c22b0 : decide ((wrap64 (-(wrap64 (t133 + (wrap64 (t135 * t136)))))) < (-1099511627776)) = false := decide_eq_false c22
                    clear c22
                    by_cases c23 : (wrap64 (-(wrap64 (t133 + (wrap64 (t135 * t136)))))) > 1099511627776
                    · rw [if_pos c23] at H
                      have c23b0 : decide (1099511627776 < (wrap64 (-(wrap64 (t133 + (wrap64 (t135 * t136))))))) = true := decide_eq_true c23
                      clear c23
                      simp only [Option.some.injEq, Prod.mk.injEq] at H
                      obtain ⟨rfl, rfl⟩ := H
                      go_wp2_with (first | ((with_reducible refine gate_callee (f := 98) rfl ?_); refine goesL_ (some 44) rfl rfl Tryz.func98 (by kernel_rfl) rfl #[.string t126] rfl (by (try simp only [List.map_toArray, List.map_cons, List.map_nil]); first | done | rfl | (simp only [List.length_drop, List.length_take]; rfl)) ?_; (with_reducible refine (deci_value.calls kj7 t126 t131 _ A15.out).mono ?_); rintro e w' ⟨rfl, ⟨nd, rfl⟩⟩; refine ⟨_, rfl, ?_⟩) | ((with_reducible refine gate_callee (f := 84) rfl ?_); refine goesL_ (some 46) rfl rfl Tryz.func84 (by kernel_rfl) rfl #[.int .i64 a1] rfl (by (try simp only [List.map_toArray, List.map_cons, List.map_nil]); first | done | rfl | (simp only [List.length_drop, List.length_take]; rfl)) ?_; (with_reducible refine (deci_power.calls kj7 a1 t132 _ A16.out).mono ?_); rintro e w' ⟨rfl, ⟨nd, rfl⟩⟩; refine ⟨_, rfl, ?_⟩) | ((with_reducible refine gate_callee (f := 97) rfl ?_); refine goesL_ (some 47) rfl rfl Tryz.func97 (by kernel_rfl) rfl #[.int .i64 t131, .int .i64 t132] rfl (by (try simp only [List.map_toArray, List.map_cons, List.map_nil]); first | done | rfl | (simp only [List.length_drop, List.length_take]; rfl)) ?_; (with_reducible refine (num_Mul.calls kj7 t131 t132 t133 true _ A17.out).mono ?_); rintro e w' ⟨rfl, ⟨nd, rfl⟩⟩; refine ⟨_, rfl, ?_⟩) | ((with_reducible refine gate_callee (f := 98) rfl ?_); refine goesL_ (some 52) rfl rfl Tryz.func98 (by kernel_rfl) rfl #[.string t127] rfl (by (try simp only [List.map_toArray, List.map_cons, List.map_nil]); first | done | rfl | (simp only [List.length_drop, List.length_take]; rfl)) ?_; (with_reducible refine (deci_value.calls kj7 t127 t135 _ A18.out).mono ?_); rintro e w' ⟨rfl, ⟨nd, rfl⟩⟩; refine ⟨_, rfl, ?_⟩) | ((with_reducible refine gate_callee (f := 84) rfl ?_); refine goesL_ (some 57) rfl rfl Tryz.func84 (by kernel_rfl) rfl #[.int .i64 (wrap64 (a1 - (t127.size : Int)))] rfl (by (try simp only [List.map_toArray, List.map_cons, List.map_nil]); first | done | rfl | (simp only [List.length_drop, List.length_take]; rfl)) ?_; (with_reducible refine (deci_power.calls kj7 (wrap64 (a1 - (t127.size : Int))) t136 _ A19.out).mono ?_); rintro e w' ⟨rfl, ⟨nd, rfl⟩⟩; refine ⟨_, rfl, ?_⟩))
                      go_ret2
                      exact ⟨by first | rfl | (simp [errW_none, errW_some] <;> rfl) | (simp [*, errW_none, errW_some] <;> rfl), by repeat (first | (with_reducible first | exact HB.out | apply below_alloc | apply pw_below_drewN | apply below_drew1) | exact HB.out)⟩
                    · rw [if_neg c23] at H
                      have c23b0 : decide (1099511627776 < (wrap64 (-(wrap64 (t133 + (wrap64 (t135 * t136))))))) = false := decide_eq_false c23
                      clear c23
                      simp only [Option.some.injEq, Prod.mk.injEq] at H
                      obtain ⟨rfl, rfl⟩ := H
                      go_wp2_with (first | ((with_reducible refine gate_callee (f := 98) rfl ?_); refine goesL_ (some 44) rfl rfl Tryz.func98 (by kernel_rfl) rfl #[.string t126] rfl (by (try simp only [List.map_toArray, List.map_cons, List.map_nil]); first | done | rfl | (simp only [List.length_drop, List.length_take]; rfl)) ?_; (with_reducible refine (deci_value.calls kj7 t126 t131 _ A15.out).mono ?_); rintro e w' ⟨rfl, ⟨nd, rfl⟩⟩; refine ⟨_, rfl, ?_⟩) | ((with_reducible refine gate_callee (f := 84) rfl ?_); refine goesL_ (some 46) rfl rfl Tryz.func84 (by kernel_rfl) rfl #[.int .i64 a1] rfl (by (try simp only [List.map_toArray, List.map_cons, List.map_nil]); first | done | rfl | (simp only [List.length_drop, List.length_take]; rfl)) ?_; (with_reducible refine (deci_power.calls kj7 a1 t132 _ A16.out).mono ?_); rintro e w' ⟨rfl, ⟨nd, rfl⟩⟩; refine ⟨_, rfl, ?_⟩) | ((with_reducible refine gate_callee (f := 97) rfl ?_); refine goesL_ (some 47) rfl rfl Tryz.func97 (by kernel_rfl) rfl #[.int .i64 t131, .int .i64 t132] rfl (by (try simp only [List.map_toArray, List.map_cons, List.map_nil]); first | done | rfl | (simp only [List.length_drop, List.length_take]; rfl)) ?_; (with_reducible refine (num_Mul.calls kj7 t131 t132 t133 true _ A17.out).mono ?_); rintro e w' ⟨rfl, ⟨nd, rfl⟩⟩; refine ⟨_, rfl, ?_⟩) | ((with_reducible refine gate_callee (f := 98) rfl ?_); refine goesL_ (some 52) rfl rfl Tryz.func98 (by kernel_rfl) rfl #[.string t127] rfl (by (try simp only [List.map_toArray, List.map_cons, List.map_nil]); first | done | rfl | (simp only [List.length_drop, List.length_take]; rfl)) ?_; (with_reducible refine (deci_value.calls kj7 t127 t135 _ A18.out).mono ?_); rintro e w' ⟨rfl, ⟨nd, rfl⟩⟩; refine ⟨_, rfl, ?_⟩) | ((with_reducible refine gate_callee (f := 84) rfl ?_); refine goesL_ (some 57) rfl rfl Tryz.func84 (by kernel_rfl) rfl #[.int .i64 (wrap64 (a1 - (t127.size : Int)))] rfl (by (try simp only [List.map_toArray, List.map_cons, List.map_nil]); first | done | rfl | (simp only [List.length_drop, List.length_take]; rfl)) ?_; (with_reducible refine (deci_power.calls kj7 (wrap64 (a1 - (t127.size : Int))) t136 _ A19.out).mono ?_); rintro e w' ⟨rfl, ⟨nd, rfl⟩⟩; refine ⟨_, rfl, ?_⟩))
                      go_ret2
                      exact ⟨by first | rfl | (simp [errW_none, errW_some] <;> rfl) | (simp [*, errW_none, errW_some] <;> rfl), by repeat (first | (with_reducible first | exact HB.out | apply below_alloc | apply pw_below_drewN | apply below_drew1) | exact HB.out)⟩
                · replace c21 := Bool.eq_false_iff.mpr c21
                  subst c21
                  have H1 : (some (0, 23)) = some (r1, r2) := by rw [if_neg (show ¬ (false = true) by decide)] at H; exact H
                  clear H
                  have H := H1
                  clear H1
                  simp only [Option.some.injEq, Prod.mk.injEq] at H
                  obtain ⟨rfl, rfl⟩ := H
                  go_wp2_with (first | ((with_reducible refine gate_callee (f := 98) rfl ?_); refine goesL_ (some 44) rfl rfl Tryz.func98 (by kernel_rfl) rfl #[.string t126] rfl (by (try simp only [List.map_toArray, List.map_cons, List.map_nil]); first | done | rfl | (simp only [List.length_drop, List.length_take]; rfl)) ?_; (with_reducible refine (deci_value.calls kj7 t126 t131 _ A15.out).mono ?_); rintro e w' ⟨rfl, ⟨nd, rfl⟩⟩; refine ⟨_, rfl, ?_⟩) | ((with_reducible refine gate_callee (f := 84) rfl ?_); refine goesL_ (some 46) rfl rfl Tryz.func84 (by kernel_rfl) rfl #[.int .i64 a1] rfl (by (try simp only [List.map_toArray, List.map_cons, List.map_nil]); first | done | rfl | (simp only [List.length_drop, List.length_take]; rfl)) ?_; (with_reducible refine (deci_power.calls kj7 a1 t132 _ A16.out).mono ?_); rintro e w' ⟨rfl, ⟨nd, rfl⟩⟩; refine ⟨_, rfl, ?_⟩) | ((with_reducible refine gate_callee (f := 97) rfl ?_); refine goesL_ (some 47) rfl rfl Tryz.func97 (by kernel_rfl) rfl #[.int .i64 t131, .int .i64 t132] rfl (by (try simp only [List.map_toArray, List.map_cons, List.map_nil]); first | done | rfl | (simp only [List.length_drop, List.length_take]; rfl)) ?_; (with_reducible refine (num_Mul.calls kj7 t131 t132 t133 false _ A17.out).mono ?_); rintro e w' ⟨rfl, ⟨nd, rfl⟩⟩; refine ⟨_, rfl, ?_⟩) | ((with_reducible refine gate_callee (f := 98) rfl ?_); refine goesL_ (some 52) rfl rfl Tryz.func98 (by kernel_rfl) rfl #[.string t127] rfl (by (try simp only [List.map_toArray, List.map_cons, List.map_nil]); first | done | rfl | (simp only [List.length_drop, List.length_take]; rfl)) ?_; (with_reducible refine (deci_value.calls kj7 t127 t135 _ A18.out).mono ?_); rintro e w' ⟨rfl, ⟨nd, rfl⟩⟩; refine ⟨_, rfl, ?_⟩) | ((with_reducible refine gate_callee (f := 84) rfl ?_); refine goesL_ (some 57) rfl rfl Tryz.func84 (by kernel_rfl) rfl #[.int .i64 (wrap64 (a1 - (t127.size : Int)))] rfl (by (try simp only [List.map_toArray, List.map_cons, List.map_nil]); first | done | rfl | (simp only [List.length_drop, List.length_take]; rfl)) ?_; (with_reducible refine (deci_power.calls kj7 (wrap64 (a1 - (t127.size : Int))) t136 _ A19.out).mono ?_); rintro e w' ⟨rfl, ⟨nd, rfl⟩⟩; refine ⟨_, rfl, ?_⟩))
                  go_ret2
                  exact ⟨by first | rfl | (simp [errW_none, errW_some] <;> rfl) | (simp [*, errW_none, errW_some] <;> rfl), by repeat (first | (with_reducible first | exact HB.out | apply below_alloc | apply pw_below_drewN | apply below_drew1) | exact HB.out)⟩
              · replace c20 := Bool.eq_false_iff.mpr c20
                subst c20
                have H1 : (if t134 = true then (if (wrap64 (t133 + (wrap64 (t135 * t136)))) < (-1099511627776) then (some (0, 23)) else (if (wrap64 (t133 + (wrap64 (t135 * t136)))) > 1099511627776 then (some (0, 23)) else (some (wrap64 (t133 + (wrap64 (t135 * t136))), 0)))) else (some (0, 23))) = some (r1, r2) := by rw [if_neg (show ¬ (false = true) by decide)] at H; exact H
                clear H
                have H := H1
                clear H1
                by_cases c24 : t134 = true
                · subst c24
                  have H1 : (if (wrap64 (t133 + (wrap64 (t135 * t136)))) < (-1099511627776) then (some (0, 23)) else (if (wrap64 (t133 + (wrap64 (t135 * t136)))) > 1099511627776 then (some (0, 23)) else (some (wrap64 (t133 + (wrap64 (t135 * t136))), 0)))) = some (r1, r2) := by rw [if_pos rfl] at H; exact H
                  clear H
                  have H := H1
                  clear H1
                  by_cases c25 : (wrap64 (t133 + (wrap64 (t135 * t136)))) < (-1099511627776)
                  · rw [if_pos c25] at H
                    have c25b0 : decide ((wrap64 (t133 + (wrap64 (t135 * t136)))) < (-1099511627776)) = true := decide_eq_true c25
                    clear c25
                    simp only [Option.some.injEq, Prod.mk.injEq] at H
                    obtain ⟨rfl, rfl⟩ := H
                    go_wp2_with (first | ((with_reducible refine gate_callee (f := 98) rfl ?_); refine goesL_ (some 44) rfl rfl Tryz.func98 (by kernel_rfl) rfl #[.string t126] rfl (by (try simp only [List.map_toArray, List.map_cons, List.map_nil]); first | done | rfl | (simp only [List.length_drop, List.length_take]; rfl)) ?_; (with_reducible refine (deci_value.calls kj7 t126 t131 _ A15.out).mono ?_); rintro e w' ⟨rfl, ⟨nd, rfl⟩⟩; refine ⟨_, rfl, ?_⟩) | ((with_reducible refine gate_callee (f := 84) rfl ?_); refine goesL_ (some 46) rfl rfl Tryz.func84 (by kernel_rfl) rfl #[.int .i64 a1] rfl (by (try simp only [List.map_toArray, List.map_cons, List.map_nil]); first | done | rfl | (simp only [List.length_drop, List.length_take]; rfl)) ?_; (with_reducible refine (deci_power.calls kj7 a1 t132 _ A16.out).mono ?_); rintro e w' ⟨rfl, ⟨nd, rfl⟩⟩; refine ⟨_, rfl, ?_⟩) | ((with_reducible refine gate_callee (f := 97) rfl ?_); refine goesL_ (some 47) rfl rfl Tryz.func97 (by kernel_rfl) rfl #[.int .i64 t131, .int .i64 t132] rfl (by (try simp only [List.map_toArray, List.map_cons, List.map_nil]); first | done | rfl | (simp only [List.length_drop, List.length_take]; rfl)) ?_; (with_reducible refine (num_Mul.calls kj7 t131 t132 t133 true _ A17.out).mono ?_); rintro e w' ⟨rfl, ⟨nd, rfl⟩⟩; refine ⟨_, rfl, ?_⟩) | ((with_reducible refine gate_callee (f := 98) rfl ?_); refine goesL_ (some 52) rfl rfl Tryz.func98 (by kernel_rfl) rfl #[.string t127] rfl (by (try simp only [List.map_toArray, List.map_cons, List.map_nil]); first | done | rfl | (simp only [List.length_drop, List.length_take]; rfl)) ?_; (with_reducible refine (deci_value.calls kj7 t127 t135 _ A18.out).mono ?_); rintro e w' ⟨rfl, ⟨nd, rfl⟩⟩; refine ⟨_, rfl, ?_⟩) | ((with_reducible refine gate_callee (f := 84) rfl ?_); refine goesL_ (some 57) rfl rfl Tryz.func84 (by kernel_rfl) rfl #[.int .i64 (wrap64 (a1 - (t127.size : Int)))] rfl (by (try simp only [List.map_toArray, List.map_cons, List.map_nil]); first | done | rfl | (simp only [List.length_drop, List.length_take]; rfl)) ?_; (with_reducible refine (deci_power.calls kj7 (wrap64 (a1 - (t127.size : Int))) t136 _ A19.out).mono ?_); rintro e w' ⟨rfl, ⟨nd, rfl⟩⟩; refine ⟨_, rfl, ?_⟩))
                    go_ret2
                    exact ⟨by first | rfl | (simp [errW_none, errW_some] <;> rfl) | (simp [*, errW_none, errW_some] <;> rfl), by repeat (first | (with_reducible first | exact HB.out | apply below_alloc | apply pw_below_drewN | apply below_drew1) | exact HB.out)⟩
                  · rw [if_neg c25] at H
                    have c25b0 : decide ((wrap64 (t133 + (wrap64 (t135 * t136)))) < (-1099511627776)) = false := decide_eq_false c25
                    clear c25
                    by_cases c26 : (wrap64 (t133 + (wrap64 (t135 * t136)))) > 1099511627776
                    · rw [if_pos c26] at H
                      have c26b0 : decide (1099511627776 < (wrap64 (t133 + (wrap64 (t135 * t136))))) = true := decide_eq_true c26
                      clear c26
                      simp only [Option.some.injEq, Prod.mk.injEq] at H
                      obtain ⟨rfl, rfl⟩ := H
                      go_wp2_with (first | ((with_reducible refine gate_callee (f := 98) rfl ?_); refine goesL_ (some 44) rfl rfl Tryz.func98 (by kernel_rfl) rfl #[.string t126] rfl (by (try simp only [List.map_toArray, List.map_cons, List.map_nil]); first | done | rfl | (simp only [List.length_drop, List.length_take]; rfl)) ?_; (with_reducible refine (deci_value.calls kj7 t126 t131 _ A15.out).mono ?_); rintro e w' ⟨rfl, ⟨nd, rfl⟩⟩; refine ⟨_, rfl, ?_⟩) | ((with_reducible refine gate_callee (f := 84) rfl ?_); refine goesL_ (some 46) rfl rfl Tryz.func84 (by kernel_rfl) rfl #[.int .i64 a1] rfl (by (try simp only [List.map_toArray, List.map_cons, List.map_nil]); first | done | rfl | (simp only [List.length_drop, List.length_take]; rfl)) ?_; (with_reducible refine (deci_power.calls kj7 a1 t132 _ A16.out).mono ?_); rintro e w' ⟨rfl, ⟨nd, rfl⟩⟩; refine ⟨_, rfl, ?_⟩) | ((with_reducible refine gate_callee (f := 97) rfl ?_); refine goesL_ (some 47) rfl rfl Tryz.func97 (by kernel_rfl) rfl #[.int .i64 t131, .int .i64 t132] rfl (by (try simp only [List.map_toArray, List.map_cons, List.map_nil]); first | done | rfl | (simp only [List.length_drop, List.length_take]; rfl)) ?_; (with_reducible refine (num_Mul.calls kj7 t131 t132 t133 true _ A17.out).mono ?_); rintro e w' ⟨rfl, ⟨nd, rfl⟩⟩; refine ⟨_, rfl, ?_⟩) | ((with_reducible refine gate_callee (f := 98) rfl ?_); refine goesL_ (some 52) rfl rfl Tryz.func98 (by kernel_rfl) rfl #[.string t127] rfl (by (try simp only [List.map_toArray, List.map_cons, List.map_nil]); first | done | rfl | (simp only [List.length_drop, List.length_take]; rfl)) ?_; (with_reducible refine (deci_value.calls kj7 t127 t135 _ A18.out).mono ?_); rintro e w' ⟨rfl, ⟨nd, rfl⟩⟩; refine ⟨_, rfl, ?_⟩) | ((with_reducible refine gate_callee (f := 84) rfl ?_); refine goesL_ (some 57) rfl rfl Tryz.func84 (by kernel_rfl) rfl #[.int .i64 (wrap64 (a1 - (t127.size : Int)))] rfl (by (try simp only [List.map_toArray, List.map_cons, List.map_nil]); first | done | rfl | (simp only [List.length_drop, List.length_take]; rfl)) ?_; (with_reducible refine (deci_power.calls kj7 (wrap64 (a1 - (t127.size : Int))) t136 _ A19.out).mono ?_); rintro e w' ⟨rfl, ⟨nd, rfl⟩⟩; refine ⟨_, rfl, ?_⟩))
                      go_ret2
                      exact ⟨by first | rfl | (simp [errW_none, errW_some] <;> rfl) | (simp [*, errW_none, errW_some] <;> rfl), by repeat (first | (with_reducible first | exact HB.out | apply below_alloc | apply pw_below_drewN | apply below_drew1) | exact HB.out)⟩
                    · rw [if_neg c26] at H
                      have c26b0 : decide (1099511627776 < (wrap64 (t133 + (wrap64 (t135 * t136))))) = false := decide_eq_false c26
                      clear c26
                      simp only [Option.some.injEq, Prod.mk.injEq] at H
                      obtain ⟨rfl, rfl⟩ := H
                      go_wp2_with (first | ((with_reducible refine gate_callee (f := 98) rfl ?_); refine goesL_ (some 44) rfl rfl Tryz.func98 (by kernel_rfl) rfl #[.string t126] rfl (by (try simp only [List.map_toArray, List.map_cons, List.map_nil]); first | done | rfl | (simp only [List.length_drop, List.length_take]; rfl)) ?_; (with_reducible refine (deci_value.calls kj7 t126 t131 _ A15.out).mono ?_); rintro e w' ⟨rfl, ⟨nd, rfl⟩⟩; refine ⟨_, rfl, ?_⟩) | ((with_reducible refine gate_callee (f := 84) rfl ?_); refine goesL_ (some 46) rfl rfl Tryz.func84 (by kernel_rfl) rfl #[.int .i64 a1] rfl (by (try simp only [List.map_toArray, List.map_cons, List.map_nil]); first | done | rfl | (simp only [List.length_drop, List.length_take]; rfl)) ?_; (with_reducible refine (deci_power.calls kj7 a1 t132 _ A16.out).mono ?_); rintro e w' ⟨rfl, ⟨nd, rfl⟩⟩; refine ⟨_, rfl, ?_⟩) | ((with_reducible refine gate_callee (f := 97) rfl ?_); refine goesL_ (some 47) rfl rfl Tryz.func97 (by kernel_rfl) rfl #[.int .i64 t131, .int .i64 t132] rfl (by (try simp only [List.map_toArray, List.map_cons, List.map_nil]); first | done | rfl | (simp only [List.length_drop, List.length_take]; rfl)) ?_; (with_reducible refine (num_Mul.calls kj7 t131 t132 t133 true _ A17.out).mono ?_); rintro e w' ⟨rfl, ⟨nd, rfl⟩⟩; refine ⟨_, rfl, ?_⟩) | ((with_reducible refine gate_callee (f := 98) rfl ?_); refine goesL_ (some 52) rfl rfl Tryz.func98 (by kernel_rfl) rfl #[.string t127] rfl (by (try simp only [List.map_toArray, List.map_cons, List.map_nil]); first | done | rfl | (simp only [List.length_drop, List.length_take]; rfl)) ?_; (with_reducible refine (deci_value.calls kj7 t127 t135 _ A18.out).mono ?_); rintro e w' ⟨rfl, ⟨nd, rfl⟩⟩; refine ⟨_, rfl, ?_⟩) | ((with_reducible refine gate_callee (f := 84) rfl ?_); refine goesL_ (some 57) rfl rfl Tryz.func84 (by kernel_rfl) rfl #[.int .i64 (wrap64 (a1 - (t127.size : Int)))] rfl (by (try simp only [List.map_toArray, List.map_cons, List.map_nil]); first | done | rfl | (simp only [List.length_drop, List.length_take]; rfl)) ?_; (with_reducible refine (deci_power.calls kj7 (wrap64 (a1 - (t127.size : Int))) t136 _ A19.out).mono ?_); rintro e w' ⟨rfl, ⟨nd, rfl⟩⟩; refine ⟨_, rfl, ?_⟩))
                      go_ret2
                      exact ⟨by first | rfl | (simp [errW_none, errW_some] <;> rfl) | (simp [*, errW_none, errW_some] <;> rfl), by repeat (first | (with_reducible first | exact HB.out | apply below_alloc | apply pw_below_drewN | apply below_drew1) | exact HB.out)⟩
                · replace c24 := Bool.eq_false_iff.mpr c24
                  subst c24
                  have H1 : (some (0, 23)) = some (r1, r2) := by rw [if_neg (show ¬ (false = true) by decide)] at H; exact H
                  clear H
                  have H := H1
                  clear H1
                  simp only [Option.some.injEq, Prod.mk.injEq] at H
                  obtain ⟨rfl, rfl⟩ := H
                  go_wp2_with (first | ((with_reducible refine gate_callee (f := 98) rfl ?_); refine goesL_ (some 44) rfl rfl Tryz.func98 (by kernel_rfl) rfl #[.string t126] rfl (by (try simp only [List.map_toArray, List.map_cons, List.map_nil]); first | done | rfl | (simp only [List.length_drop, List.length_take]; rfl)) ?_; (with_reducible refine (deci_value.calls kj7 t126 t131 _ A15.out).mono ?_); rintro e w' ⟨rfl, ⟨nd, rfl⟩⟩; refine ⟨_, rfl, ?_⟩) | ((with_reducible refine gate_callee (f := 84) rfl ?_); refine goesL_ (some 46) rfl rfl Tryz.func84 (by kernel_rfl) rfl #[.int .i64 a1] rfl (by (try simp only [List.map_toArray, List.map_cons, List.map_nil]); first | done | rfl | (simp only [List.length_drop, List.length_take]; rfl)) ?_; (with_reducible refine (deci_power.calls kj7 a1 t132 _ A16.out).mono ?_); rintro e w' ⟨rfl, ⟨nd, rfl⟩⟩; refine ⟨_, rfl, ?_⟩) | ((with_reducible refine gate_callee (f := 97) rfl ?_); refine goesL_ (some 47) rfl rfl Tryz.func97 (by kernel_rfl) rfl #[.int .i64 t131, .int .i64 t132] rfl (by (try simp only [List.map_toArray, List.map_cons, List.map_nil]); first | done | rfl | (simp only [List.length_drop, List.length_take]; rfl)) ?_; (with_reducible refine (num_Mul.calls kj7 t131 t132 t133 false _ A17.out).mono ?_); rintro e w' ⟨rfl, ⟨nd, rfl⟩⟩; refine ⟨_, rfl, ?_⟩) | ((with_reducible refine gate_callee (f := 98) rfl ?_); refine goesL_ (some 52) rfl rfl Tryz.func98 (by kernel_rfl) rfl #[.string t127] rfl (by (try simp only [List.map_toArray, List.map_cons, List.map_nil]); first | done | rfl | (simp only [List.length_drop, List.length_take]; rfl)) ?_; (with_reducible refine (deci_value.calls kj7 t127 t135 _ A18.out).mono ?_); rintro e w' ⟨rfl, ⟨nd, rfl⟩⟩; refine ⟨_, rfl, ?_⟩) | ((with_reducible refine gate_callee (f := 84) rfl ?_); refine goesL_ (some 57) rfl rfl Tryz.func84 (by kernel_rfl) rfl #[.int .i64 (wrap64 (a1 - (t127.size : Int)))] rfl (by (try simp only [List.map_toArray, List.map_cons, List.map_nil]); first | done | rfl | (simp only [List.length_drop, List.length_take]; rfl)) ?_; (with_reducible refine (deci_power.calls kj7 (wrap64 (a1 - (t127.size : Int))) t136 _ A19.out).mono ?_); rintro e w' ⟨rfl, ⟨nd, rfl⟩⟩; refine ⟨_, rfl, ?_⟩))
                  go_ret2
                  exact ⟨by first | rfl | (simp [errW_none, errW_some] <;> rfl) | (simp [*, errW_none, errW_some] <;> rfl), by repeat (first | (with_reducible first | exact HB.out | apply below_alloc | apply pw_below_drewN | apply below_drew1) | exact HB.out)⟩

/-! ### strings_HasPrefix: function 115 -/
def strings_HasPrefix.f (a0 : ByteArray) (a1 : ByteArray) : Option (Bool) := (stringslite_HasPrefix.f a0 a1).bind fun t137 => (some t137)
set_option maxHeartbeats 8000000 in
set_option maxRecDepth 100000 in
theorem strings_HasPrefix.calls (a0 : ByteArray) (a1 : ByteArray) (r : Bool) (w : World) (h : strings_HasPrefix.f a0 a1 = some r) :
    Calls Tryz.prog 115 #[.string a0, .string a1] w fun e w' => e = .returned (.bool r) ∧ Drawn0 w w' := by
  have H : ((stringslite_HasPrefix.f a0 a1).bind fun t137 => (some t137)) = some r := h
  clear h
  replace H := Option.bind_eq_some_iff.mp H
  obtain ⟨t137, A30, H⟩ := H
  replace H : (some t137) = some r := H
  have A3 := Aside0.mk A30
  clear A30
  obtain rfl := Option.some.inj H
  go_enter Tryz.func115, Tryz.ntmps115
  go_wp2_with (first | ((with_reducible refine gate_callee (f := 141) rfl ?_); refine goesL_ (some 7) rfl rfl Tryz.func141 (by kernel_rfl) rfl #[.string a0, .string a1] rfl (by (try simp only [List.map_toArray, List.map_cons, List.map_nil]); first | done | rfl | (simp only [List.length_drop, List.length_take]; rfl)) ?_; (with_reducible refine (stringslite_HasPrefix.calls a0 a1 t137 _ A3.out).mono ?_); rintro e w' ⟨rfl, ⟨nd, rfl⟩⟩; refine ⟨_, rfl, ?_⟩))
  go_ret
  exact ⟨by first | rfl | (simp; done) | (simp [*]; done), by repeat (first | exact Drawn0.refl _ | apply Drawn0.step)⟩

/-! ### deci_Whole: function 92 -/
def deci_Whole.f (k : Nat) (a0 : ByteArray) : Option (Int × Int) := if (a0.size : Int) > 1 then (if 0 < (a0.size : Int) then (if (bt a0 0) = 48 then (some (0, 21)) else ((strings_HasPrefix.f a0 (⟨#[45]⟩ : ByteArray)).bind fun t138 => (if t138 = true then (some (0, 21)) else ((deci_Read.f k a0 0).bind fun bt139 => (some (bt139.1, bt139.2)))))) else (none)) else ((strings_HasPrefix.f a0 (⟨#[45]⟩ : ByteArray)).bind fun t141 => (if t141 = true then (some (0, 21)) else ((deci_Read.f k a0 0).bind fun bt142 => (some (bt142.1, bt142.2)))))
set_option maxHeartbeats 8000000 in
set_option maxRecDepth 100000 in
theorem deci_Whole.calls (k : Nat) (a0 : ByteArray) (r1 : Int) (r2 : Int) (w : World) (h : deci_Whole.f k a0 = some (r1, r2)) :
    Calls Tryz.prog 92 #[.string a0] w fun e w' => e = .returned (.tuple #[.int .i64 r1, .int .i64 r2]) ∧ Below w.heap.size w w' := by
  have HB := Aside0.mk (Below.refl w.heap.size w)
  have H : (if (a0.size : Int) > 1 then (if 0 < (a0.size : Int) then (if (bt a0 0) = 48 then (some (0, 21)) else ((strings_HasPrefix.f a0 (⟨#[45]⟩ : ByteArray)).bind fun t138 => (if t138 = true then (some (0, 21)) else ((deci_Read.f k a0 0).bind fun bt139 => (some (bt139.1, bt139.2)))))) else (none)) else ((strings_HasPrefix.f a0 (⟨#[45]⟩ : ByteArray)).bind fun t141 => (if t141 = true then (some (0, 21)) else ((deci_Read.f k a0 0).bind fun bt142 => (some (bt142.1, bt142.2)))))) = some (r1, r2) := h
  clear h
  by_cases c2 : (a0.size : Int) > 1
  · rw [if_pos c2] at H
    have c2b0 : decide (1 < (a0.size : Int)) = true := decide_eq_true c2
    have c2b1 : decide (1 < a0.size) = true := decide_eq_true (by omega)
    clear c2
    by_cases c3 : 0 < (a0.size : Int)
    · rw [if_pos c3] at H
      have c3b0 : decide (0 < (a0.size : Int)) = true := decide_eq_true c3
      have c3b1 : decide (0 < a0.size) = true := decide_eq_true (by omega)
      clear c3
      by_cases c5 : (bt a0 0) = 48
      · rw [if_pos c5] at H
        have c5b0 : ((bt a0 0) == 48) = true := beq_iff_eq.mpr c5
        have c5b1 : ((bt a0 0) != 48) = false := bne_eq_false_iff_eq.mpr c5
        clear c5
        simp only [Option.some.injEq, Prod.mk.injEq] at H
        obtain ⟨rfl, rfl⟩ := H
        have p4 : 0 ≤ (0 : Int) := (by omega)
        have q4 : 0 < a0.size := (by have : (0 : Int) < (a0.size : Int) := of_decide_eq_true (by first | (with_reducible assumption) | assumption); omega)
        have hx4 : ∀ h : 0 < a0.size, ((a0[0]'h).toNat : Int) = bt a0 0 := bt_at a0 0
        clear p4
        have qi4 : (0 < (a0.size : Int)) = True := eq_true (of_decide_eq_true (by first | (with_reducible assumption) | assumption))
        replace q4 := eq_true q4
        go_enter Tryz.func92, Tryz.ntmps92
        go_wp2
        go_ret2
        exact ⟨by first | rfl | (simp [errW_none, errW_some] <;> rfl) | (simp [*, errW_none, errW_some] <;> rfl), by repeat (first | (with_reducible first | exact HB.out | apply below_alloc | apply pw_below_drewN | apply below_drew1) | exact HB.out)⟩
      · rw [if_neg c5] at H
        have c5b0 : ((bt a0 0) == 48) = false := beq_eq_false_iff_ne.mpr c5
        have c5b1 : ((bt a0 0) != 48) = true := bne_iff_ne.mpr c5
        replace H := Option.bind_eq_some_iff.mp H
        obtain ⟨t138, A60, H⟩ := H
        replace H : (if t138 = true then (some (0, 21)) else ((deci_Read.f k a0 0).bind fun bt139 => (some (bt139.1, bt139.2)))) = some (r1, r2) := H
        have A6 := Aside0.mk A60
        clear A60
        by_cases c7 : t138 = true
        · subst c7
          have H1 : (some (0, 21)) = some (r1, r2) := by rw [if_pos rfl] at H; exact H
          clear H
          have H := H1
          clear H1
          simp only [Option.some.injEq, Prod.mk.injEq] at H
          obtain ⟨rfl, rfl⟩ := H
          have p4 : 0 ≤ (0 : Int) := (by omega)
          have q4 : 0 < a0.size := (by have : (0 : Int) < (a0.size : Int) := of_decide_eq_true (by first | (with_reducible assumption) | assumption); omega)
          have hx4 : ∀ h : 0 < a0.size, ((a0[0]'h).toNat : Int) = bt a0 0 := bt_at a0 0
          clear p4
          have qi4 : (0 < (a0.size : Int)) = True := eq_true (of_decide_eq_true (by first | (with_reducible assumption) | assumption))
          replace q4 := eq_true q4
          go_enter Tryz.func92, Tryz.ntmps92
          go_wp2_with (first | (go_at_call 115; (with_reducible refine (strings_HasPrefix.calls a0 (⟨#[45]⟩ : ByteArray) true _ A6.out).mono ?_); rintro e w' ⟨rfl, ⟨nd, rfl⟩⟩))
          go_ret2
          exact ⟨by first | rfl | (simp [errW_none, errW_some] <;> rfl) | (simp [*, errW_none, errW_some] <;> rfl), by repeat (first | (with_reducible first | exact HB.out | apply below_alloc | apply pw_below_drewN | apply below_drew1) | exact HB.out)⟩
        · replace c7 := Bool.eq_false_iff.mpr c7
          subst c7
          have H1 : ((deci_Read.f k a0 0).bind fun bt139 => (some (bt139.1, bt139.2))) = some (r1, r2) := by rw [if_neg (show ¬ (false = true) by decide)] at H; exact H
          clear H
          have H := H1
          clear H1
          replace H := Option.bind_eq_some_iff.mp H
          obtain ⟨⟨t139, t140⟩, A80, H⟩ := H
          replace H : (some (t139, t140)) = some (r1, r2) := H
          have A8 := Aside0.mk A80
          clear A80
          simp only [Option.some.injEq, Prod.mk.injEq] at H
          obtain ⟨rfl, rfl⟩ := H
          have p4 : 0 ≤ (0 : Int) := (by omega)
          have q4 : 0 < a0.size := (by have : (0 : Int) < (a0.size : Int) := of_decide_eq_true (by first | (with_reducible assumption) | assumption); omega)
          have hx4 : ∀ h : 0 < a0.size, ((a0[0]'h).toNat : Int) = bt a0 0 := bt_at a0 0
          clear p4
          have qi4 : (0 < (a0.size : Int)) = True := eq_true (of_decide_eq_true (by first | (with_reducible assumption) | assumption))
          replace q4 := eq_true q4
          go_enter Tryz.func92, Tryz.ntmps92
          go_wp2_with (first | (go_at_call 115; (with_reducible refine (strings_HasPrefix.calls a0 (⟨#[45]⟩ : ByteArray) false _ A6.out).mono ?_); rintro e w' ⟨rfl, ⟨nd, rfl⟩⟩) | ((with_reducible refine gate_callee (f := 60) rfl ?_); refine goesL_ (some 20) rfl rfl Tryz.func60 (by kernel_rfl) rfl #[.string a0, .int .i64 0] rfl (by (try simp only [List.map_toArray, List.map_cons, List.map_nil]); first | done | rfl | (simp only [List.length_drop, List.length_take]; rfl)) ?_; (with_reducible refine (deci_Read.calls k a0 0 t139 t140 _ A8.out).mono ?_); rintro e w9 ⟨rfl, hb⟩; refine ⟨_, rfl, ?_⟩; have n0_ := Aside0.mk (below_step (by repeat (first | (with_reducible first | exact HB.out | apply below_alloc | apply pw_below_drewN | apply below_drew1) | exact HB.out)) hb); clear HB; have HB := n0_; clear n0_; (try clear hb); (try clear hb2); (try clear hk); (try clear hi)))
          go_ret2
          exact ⟨by first | rfl | (simp [errW_none, errW_some] <;> rfl) | (simp [*, errW_none, errW_some] <;> rfl), by repeat (first | (with_reducible first | exact HB.out | apply below_alloc | apply pw_below_drewN | apply below_drew1) | exact HB.out)⟩
    · rw [if_neg c3] at H
      exact absurd H (by simp)
  · rw [if_neg c2] at H
    have c2b0 : decide (1 < (a0.size : Int)) = false := decide_eq_false c2
    have c2b1 : decide (1 < a0.size) = false := decide_eq_false (by omega)
    clear c2
    replace H := Option.bind_eq_some_iff.mp H
    obtain ⟨t141, A100, H⟩ := H
    replace H : (if t141 = true then (some (0, 21)) else ((deci_Read.f k a0 0).bind fun bt142 => (some (bt142.1, bt142.2)))) = some (r1, r2) := H
    have A10 := Aside0.mk A100
    clear A100
    by_cases c11 : t141 = true
    · subst c11
      have H1 : (some (0, 21)) = some (r1, r2) := by rw [if_pos rfl] at H; exact H
      clear H
      have H := H1
      clear H1
      simp only [Option.some.injEq, Prod.mk.injEq] at H
      obtain ⟨rfl, rfl⟩ := H
      go_enter Tryz.func92, Tryz.ntmps92
      go_wp2_with (first | (go_at_call 115; (with_reducible refine (strings_HasPrefix.calls a0 (⟨#[45]⟩ : ByteArray) true _ A10.out).mono ?_); rintro e w' ⟨rfl, ⟨nd, rfl⟩⟩))
      go_ret2
      exact ⟨by first | rfl | (simp [errW_none, errW_some] <;> rfl) | (simp [*, errW_none, errW_some] <;> rfl), by repeat (first | (with_reducible first | exact HB.out | apply below_alloc | apply pw_below_drewN | apply below_drew1) | exact HB.out)⟩
    · replace c11 := Bool.eq_false_iff.mpr c11
      subst c11
      have H1 : ((deci_Read.f k a0 0).bind fun bt142 => (some (bt142.1, bt142.2))) = some (r1, r2) := by rw [if_neg (show ¬ (false = true) by decide)] at H; exact H
      clear H
      have H := H1
      clear H1
      replace H := Option.bind_eq_some_iff.mp H
      obtain ⟨⟨t142, t143⟩, A120, H⟩ := H
      replace H : (some (t142, t143)) = some (r1, r2) := H
      have A12 := Aside0.mk A120
      clear A120
      simp only [Option.some.injEq, Prod.mk.injEq] at H
      obtain ⟨rfl, rfl⟩ := H
      go_enter Tryz.func92, Tryz.ntmps92
      go_wp2_with (first | (go_at_call 115; (with_reducible refine (strings_HasPrefix.calls a0 (⟨#[45]⟩ : ByteArray) false _ A10.out).mono ?_); rintro e w' ⟨rfl, ⟨nd, rfl⟩⟩) | ((with_reducible refine gate_callee (f := 60) rfl ?_); refine goesL_ (some 20) rfl rfl Tryz.func60 (by kernel_rfl) rfl #[.string a0, .int .i64 0] rfl (by (try simp only [List.map_toArray, List.map_cons, List.map_nil]); first | done | rfl | (simp only [List.length_drop, List.length_take]; rfl)) ?_; (with_reducible refine (deci_Read.calls k a0 0 t142 t143 _ A12.out).mono ?_); rintro e w13 ⟨rfl, hb⟩; refine ⟨_, rfl, ?_⟩; have n0_ := Aside0.mk (below_step (by repeat (first | (with_reducible first | exact HB.out | apply below_alloc | apply pw_below_drewN | apply below_drew1) | exact HB.out)) hb); clear HB; have HB := n0_; clear n0_; (try clear hb); (try clear hb2); (try clear hk); (try clear hi)))
      go_ret2
      exact ⟨by first | rfl | (simp [errW_none, errW_some] <;> rfl) | (simp [*, errW_none, errW_some] <;> rfl), by repeat (first | (with_reducible first | exact HB.out | apply below_alloc | apply pw_below_drewN | apply below_drew1) | exact HB.out)⟩

-- NOT PRINTED: function 56 (sheet_reader_whole)

-- NOT PRINTED: function 26 (sheet_reader_head)

-- NOT PRINTED: function 29 (sheet_reader_decimal)

-- NOT PRINTED: function 59 (sheet_reader_small)

-- NOT PRINTED: function 28 (sheet_reader_load)

-- NOT PRINTED: function 61 (spot_At)

-- NOT PRINTED: function 30 (sheet_reader_stop)

-- NOT PRINTED: function 31 (sheet_reader_row)

-- NOT PRINTED: function 11 (sheet_reader_instance)

end Go.Proofs.YtcdmndhaeiccoaaGreatDoor.P
