/- P15 -/
import Derived.Test.YtcdmndhaeiccoaaGreatDoorMkit
import Derived.Test.YtcdmndhaeiccoaaGreatDoorM00
import Derived.Test.YtcdmndhaeiccoaaGreatDoorM10
import Derived.Test.YtcdmndhaeiccoaaGreatDoorM04
import Derived.Test.YtcdmndhaeiccoaaGreatDoorM05
namespace Go.Proofs.YtcdmndhaeiccoaaGreatDoor.P
open Go.Proofs.YtcdmndhaeiccoaaGreatDoorR
open Go.RowKit Go.Proofs.YtcdmndhaeiccoaaGreatDoorW.PrintWords Go.Proofs.YtcdmndhaeiccoaaGreatDoorW.PrintLast
attribute [local go_sem] max2_int min2_int max_two min_two   -- for this text's walks alone
set_option linter.unusedVariables false
set_option linter.unusedSimpArgs false

/-! ### jitneyref06_head: function 14 -/
mutual
def jitneyref06_head.j0 : Nat → List ByteArray → Int → Int → Bool → Option (Int × Int × Int × Bool × Int)
  | 0, _, _, _, _ => none
  | k + 1, x7, x8, x9, x32 => if x32 = true then (jitneyref06_head.j1 k x7 23 x9) else (jitneyref06_head.j1 k x7 x8 x9)
def jitneyref06_head.j1 : Nat → List ByteArray → Int → Int → Option (Int × Int × Int × Bool × Int)
  | 0, _, _, _ => none
  | k + 1, x7, x8, x9 => if x8 = 0 then (if 1 < (x7.length : Int) then ((jitneyref03_Whole.f k (rdOf ByteArray.empty x7 1)).bind fun bt213 => (if bt213.2 = 0 then (if 2 < (x7.length : Int) then ((jitneyref03_Whole.f k (rdOf ByteArray.empty x7 2)).bind fun bt216 => (if bt216.2 = 0 then (if 3 < (x7.length : Int) then (if (rdOf ByteArray.empty x7 3).toList = ([115, 112, 111, 116, 115] : List UInt8) then (jitneyref06_head.j2 k x7 x9 bt213.1 bt216.1 false) else (jitneyref06_head.j2 k x7 x9 bt213.1 bt216.1 ((rdOf ByteArray.empty x7 3).toList != ([116, 105, 109, 101, 115] : List UInt8)))) else (none)) else (some (0, 0, 0, false, bt216.2)))) else (none)) else (some (0, 0, 0, false, bt213.2)))) else (none)) else (some (0, 0, 0, false, x8))
def jitneyref06_head.j2 : Nat → List ByteArray → Int → Int → Int → Bool → Option (Int × Int × Int × Bool × Int)
  | 0, _, _, _, _, _ => none
  | k + 1, x7, x9, x10, x11, x65 => if x65 = true then (some (0, 0, 0, false, 21)) else (if x10 = 0 then (some (0, 0, 0, false, 1)) else (if x10 > 64 then (some (0, 0, 0, false, 3)) else (if (wrap64 ((wrap64 (2 * x11)) + 2)) > 4096 then (some (0, 0, 0, false, 3)) else (if 3 < (x7.length : Int) then (some (x10, x11, x9, ((rdOf ByteArray.empty x7 3).toList == ([115, 112, 111, 116, 115] : List UInt8)), 0)) else (none)))))
end
def jitneyref06_head.f (k : Nat) (a0 : ByteArray) : Option (Int × Int × Int × Bool × Int) := (jitneyref06_words.f k a0 (⟨#[106, 105, 116, 110, 101, 121]⟩ : ByteArray) 5).bind fun bt205 => (if bt205.2 = 0 then (if 0 < (bt205.1.length : Int) then ((jitneyref03_Whole.f k (rdOf ByteArray.empty bt205.1 0)).bind fun bt210 => (if bt210.2 = 0 then (jitneyref06_head.j0 k bt205.1 bt210.2 bt210.1 (decide (bt210.1 > 6))) else (jitneyref06_head.j0 k bt205.1 bt210.2 bt210.1 false))) else (none)) else (some (0, 0, 0, false, bt205.2)))
set_option maxHeartbeats 8000000 in
set_option maxRecDepth 100000 in
theorem jitneyref06_head.calls (k : Nat) (a0 : ByteArray) (r1 : Int) (r2 : Int) (r3 : Int) (r4 : Bool) (r5 : Int) (w : World) (h : jitneyref06_head.f k a0 = some (r1, r2, r3, r4, r5)) :
    Calls Tryz.prog 14 #[.string a0] w fun e w' => e = .returned (.tuple #[.int .i64 r1, .int .i64 r2, .int .i64 r3, .bool r4, .int .i64 r5]) ∧ Below w.heap.size w w' := by
  have HB := Aside0.mk (Below.refl w.heap.size w)
  have H : ((jitneyref06_words.f k a0 (⟨#[106, 105, 116, 110, 101, 121]⟩ : ByteArray) 5).bind fun bt205 => (if bt205.2 = 0 then (if 0 < (bt205.1.length : Int) then ((jitneyref03_Whole.f k (rdOf ByteArray.empty bt205.1 0)).bind fun bt210 => (if bt210.2 = 0 then (jitneyref06_head.j0 k bt205.1 bt210.2 bt210.1 (decide (bt210.1 > 6))) else (jitneyref06_head.j0 k bt205.1 bt210.2 bt210.1 false))) else (none)) else (some (0, 0, 0, false, bt205.2)))) = some (r1, r2, r3, r4, r5) := h
  clear h
  replace H := Option.bind_eq_some_iff.mp H
  obtain ⟨⟨t205, t206⟩, A20, H⟩ := H
  replace H : (if t206 = 0 then (if 0 < (t205.length : Int) then ((jitneyref03_Whole.f k (rdOf ByteArray.empty t205 0)).bind fun bt210 => (if bt210.2 = 0 then (jitneyref06_head.j0 k t205 bt210.2 bt210.1 (decide (bt210.1 > 6))) else (jitneyref06_head.j0 k t205 bt210.2 bt210.1 false))) else (none)) else (some (0, 0, 0, false, t206))) = some (r1, r2, r3, r4, r5) := H
  have A2 := Aside0.mk A20
  clear A20
  by_cases c3 : t206 = 0
  · rw [if_pos c3] at H
    have c3b0 : (t206 == 0) = true := beq_iff_eq.mpr c3
    have c3b1 : (t206 != 0) = false := bne_eq_false_iff_eq.mpr c3
    clear c3
    by_cases c4 : 0 < (t205.length : Int)
    · rw [if_pos c4] at H
      have c4b0 : decide (0 < (t205.length : Int)) = true := decide_eq_true c4
      have c4b1 : decide (0 < t205.length) = true := decide_eq_true (by omega)
      clear c4
      replace H := Option.bind_eq_some_iff.mp H
      obtain ⟨⟨t210, t211⟩, A50, H⟩ := H
      replace H : (if t211 = 0 then (jitneyref06_head.j0 k t205 t211 t210 (decide (t210 > 6))) else (jitneyref06_head.j0 k t205 t211 t210 false)) = some (r1, r2, r3, r4, r5) := H
      have A5 := Aside0.mk A50
      clear A50
      have HC6 := Aside0.mk H
      clear H
      go_enter Tryz.func14, Tryz.ntmps14
      go_upto_region 5 with (first | (go_at_call 40; (with_reducible refine (jitneyref06_words.calls k a0 (⟨#[106, 105, 116, 110, 101, 121]⟩ : ByteArray) 5 t205 t206 _ A2.out).mono ?_); rintro e w7 ⟨v207, rfl, ho0, hb⟩; have n0_ := Aside0.mk (Kd.Q_lower ho0 (below_size (by repeat (first | (with_reducible first | exact HB.out | apply below_alloc | apply pw_below_drewN | apply below_drew1) | exact HB.out)))); have n1_ := Aside0.mk (below_step (by repeat (first | (with_reducible first | exact HB.out | apply below_alloc | apply pw_below_drewN | apply below_drew1) | exact HB.out)) hb); clear HB; have HO208 := n0_; have HB := n1_; clear n0_ n1_; (try clear hb); (try clear hb2); (try clear hk); (try clear hi); (try clear ho0); obtain ⟨Ao8, co8, eo8, _⟩ := Kd.Q_slice HO208.out; subst eo8; have p209 : 0 ≤ (0 : Int) := (by omega); have q209 : 0 < (t205.length : Int) := of_decide_eq_true (by first | (with_reducible assumption) | assumption); obtain ⟨ad209, e209, hx209_0⟩ := Kd.at_string (Kd.Q_reads' HO208.out).2.2 0 p209 q209; cases e209; have qi209 : (0 < t205.length) = True := eq_true (by omega); (try rw [show ((0 : Int)).toNat = 0 from rfl] at hx209_0); (try rw [Addr.add_zero'] at hx209_0); replace p209 := eq_true p209; replace q209 := eq_true q209) | (go_at_call 41; (with_reducible refine (jitneyref03_Whole.calls k (rdOf ByteArray.empty t205 0) t210 t211 _ A5.out).mono ?_); rintro e w' ⟨rfl, ⟨nd, rfl⟩⟩; (try first | exact ⟨rfl, _, World.drewN_drewN _ _ _⟩ | exact ⟨rfl, _, Eq.trans (World.drewN_drewN _ _ _) (congrArg (World.drewN _) (Nat.add_assoc _ _ _))⟩)))
      repeat (go_quiet (first | (go_at_call 40; (with_reducible refine (jitneyref06_words.calls k a0 (⟨#[106, 105, 116, 110, 101, 121]⟩ : ByteArray) 5 t205 t206 _ A2.out).mono ?_); rintro e w7 ⟨v207, rfl, ho0, hb⟩; have n0_ := Aside0.mk (Kd.Q_lower ho0 (below_size (by repeat (first | (with_reducible first | exact HB.out | apply below_alloc | apply pw_below_drewN | apply below_drew1) | exact HB.out)))); have n1_ := Aside0.mk (below_step (by repeat (first | (with_reducible first | exact HB.out | apply below_alloc | apply pw_below_drewN | apply below_drew1) | exact HB.out)) hb); clear HB; have HO208 := n0_; have HB := n1_; clear n0_ n1_; (try clear hb); (try clear hb2); (try clear hk); (try clear hi); (try clear ho0); obtain ⟨Ao8, co8, eo8, _⟩ := Kd.Q_slice HO208.out; subst eo8; have p209 : 0 ≤ (0 : Int) := (by omega); have q209 : 0 < (t205.length : Int) := of_decide_eq_true (by first | (with_reducible assumption) | assumption); obtain ⟨ad209, e209, hx209_0⟩ := Kd.at_string (Kd.Q_reads' HO208.out).2.2 0 p209 q209; cases e209; have qi209 : (0 < t205.length) = True := eq_true (by omega); (try rw [show ((0 : Int)).toNat = 0 from rfl] at hx209_0); (try rw [Addr.add_zero'] at hx209_0); replace p209 := eq_true p209; replace q209 := eq_true q209) | (go_at_call 41; (with_reducible refine (jitneyref03_Whole.calls k (rdOf ByteArray.empty t205 0) t210 t211 _ A5.out).mono ?_); rintro e w' ⟨rfl, ⟨nd, rfl⟩⟩; (try first | exact ⟨rfl, _, World.drewN_drewN _ _ _⟩ | exact ⟨rfl, _, Eq.trans (World.drewN_drewN _ _ _) (congrArg (World.drewN _) (Nat.add_assoc _ _ _))⟩))); go_upto_region 5 with (first | (go_at_call 40; (with_reducible refine (jitneyref06_words.calls k a0 (⟨#[106, 105, 116, 110, 101, 121]⟩ : ByteArray) 5 t205 t206 _ A2.out).mono ?_); rintro e w7 ⟨v207, rfl, ho0, hb⟩; have n0_ := Aside0.mk (Kd.Q_lower ho0 (below_size (by repeat (first | (with_reducible first | exact HB.out | apply below_alloc | apply pw_below_drewN | apply below_drew1) | exact HB.out)))); have n1_ := Aside0.mk (below_step (by repeat (first | (with_reducible first | exact HB.out | apply below_alloc | apply pw_below_drewN | apply below_drew1) | exact HB.out)) hb); clear HB; have HO208 := n0_; have HB := n1_; clear n0_ n1_; (try clear hb); (try clear hb2); (try clear hk); (try clear hi); (try clear ho0); obtain ⟨Ao8, co8, eo8, _⟩ := Kd.Q_slice HO208.out; subst eo8; have p209 : 0 ≤ (0 : Int) := (by omega); have q209 : 0 < (t205.length : Int) := of_decide_eq_true (by first | (with_reducible assumption) | assumption); obtain ⟨ad209, e209, hx209_0⟩ := Kd.at_string (Kd.Q_reads' HO208.out).2.2 0 p209 q209; cases e209; have qi209 : (0 < t205.length) = True := eq_true (by omega); (try rw [show ((0 : Int)).toNat = 0 from rfl] at hx209_0); (try rw [Addr.add_zero'] at hx209_0); replace p209 := eq_true p209; replace q209 := eq_true q209) | (go_at_call 41; (with_reducible refine (jitneyref03_Whole.calls k (rdOf ByteArray.empty t205 0) t210 t211 _ A5.out).mono ?_); rintro e w' ⟨rfl, ⟨nd, rfl⟩⟩; (try first | exact ⟨rfl, _, World.drewN_drewN _ _ _⟩ | exact ⟨rfl, _, Eq.trans (World.drewN_drewN _ _ _) (congrArg (World.drewN _) (Nat.add_assoc _ _ _))⟩))))
      (try simp only [Act.put, List.setIfInBounds_toArray, List.set_cons_zero, List.set_cons_succ])
      go_cut [32] (fun v32 wc => ∃ (kq : Nat) (x32_5 : Bool), v32 = .bool x32_5 ∧ Aside0 (jitneyref06_head.j0 kq t205 t211 t210 x32_5 = some (r1, r2, r3, r4, r5)) ∧ Aside0 (kq ≤ k) ∧ Aside0 (Kd.Q Kd.string 9 wc w.heap.size (fun _ => True) (.slice (some ad209) t205.length co8) t205) ∧ Aside0 (Below w.heap.size w wc))
      case first =>
        have H := HC6.out
        clear HC6
        by_cases c9 : t211 = 0
        · rw [if_pos c9] at H
          have c9b0 : (t211 == 0) = true := beq_iff_eq.mpr c9
          have c9b1 : (t211 != 0) = false := bne_eq_false_iff_eq.mpr c9
          clear c9
          (first | rw [c9b0] | (simp only [i64_w, i32_w]; rw [c9b0]) | skip)
          have H' := Aside0.mk H
          clear H
          go_wp2
          repeat (go_quiet (fail); try go_wp2)
          go_meet
          case rel => exact ⟨_, (decide (t210 > 6)), (by first | rfl | (simp; done) | (simp [*]; done)), H', ⟨by first | omega | exact Nat.le_refl _⟩, ⟨by (with_reducible repeat (first | apply Kd.Q_alloc | apply Kd.Q_drewN | apply Kd.Q_drew)); exact HO208.out⟩, ⟨by repeat (first | (with_reducible first | exact HB.out | apply below_alloc | apply pw_below_drewN | apply below_drew1) | exact HB.out)⟩⟩
        · rw [if_neg c9] at H
          have c9b0 : (t211 == 0) = false := beq_eq_false_iff_ne.mpr c9
          have c9b1 : (t211 != 0) = true := bne_iff_ne.mpr c9
          (first | rw [c9b0] | (simp only [i64_w, i32_w]; rw [c9b0]) | skip)
          have H' := Aside0.mk H
          clear H
          go_wp2
          repeat (go_quiet (fail); try go_wp2)
          go_meet
          case rel => exact ⟨_, (false), (by first | rfl | (simp; done) | (simp [*]; done)), H', ⟨by first | omega | exact Nat.le_refl _⟩, ⟨by (with_reducible repeat (first | apply Kd.Q_alloc | apply Kd.Q_drewN | apply Kd.Q_drew)); exact HO208.out⟩, ⟨by repeat (first | (with_reducible first | exact HB.out | apply below_alloc | apply pw_below_drewN | apply below_drew1) | exact HB.out)⟩⟩
      case rest =>
        clear HC6
        try clear c1
        try clear p2
        try clear q2
        try clear hx2
        try clear qi2
        try clear c3
        try clear c3b0
        try clear c3b1
        try clear c4
        try clear c4b0
        try clear c4b1
        try clear c9
        try clear c9b0
        try clear c9b1
        try clear hx209_0
        try clear p209
        try clear q209
        obtain ⟨kq, x32_5, rfl, HA, HJ5, HO_7, HB⟩ := hcut
        cases kq with
        | zero => exact absurd HA.out (by simp [jitneyref06_head.j0])
        | succ kj5 =>
          have H := HA.out
          clear HA
          simp only [jitneyref06_head.j0] at H
          have HC10 := Aside0.mk H
          clear H
          go_upto_if 32 with (fail)
          repeat (go_quiet (fail); go_upto_if 32 with (fail))
          go_cut [8] (fun v8 wc => ∃ (kq : Nat) (x8_9 : Int), v8 = .int .i64 x8_9 ∧ Aside0 (jitneyref06_head.j1 kq t205 x8_9 t210 = some (r1, r2, r3, r4, r5)) ∧ Aside0 (kq ≤ kj5) ∧ Aside0 (Kd.Q Kd.string 9 wc w.heap.size (fun _ => True) (.slice (some ad209) t205.length co8) t205) ∧ Aside0 (Below w.heap.size w wc))
          case first =>
            have H := HC10.out
            clear HC10
            by_cases c11 : x32_5 = true
            · subst c11
              have H1 : (jitneyref06_head.j1 kj5 t205 23 t210) = some (r1, r2, r3, r4, r5) := by rw [if_pos rfl] at H; exact H
              clear H
              have H := H1
              clear H1
              have H' := Aside0.mk H
              clear H
              go_wp2
              repeat (go_quiet (fail); try go_wp2)
              go_meet
              case rel => exact ⟨_, (23), (by first | rfl | (simp; done) | (simp [*]; done)), H', ⟨by have := HJ5.out; first | omega | exact Nat.le_refl _⟩, ⟨by (with_reducible repeat (first | apply Kd.Q_alloc | apply Kd.Q_drewN | apply Kd.Q_drew)); exact HO_7.out⟩, ⟨by repeat (first | (with_reducible first | exact HB.out | apply below_alloc | apply pw_below_drewN | apply below_drew1) | exact HB.out)⟩⟩
            · replace c11 := Bool.eq_false_iff.mpr c11
              subst c11
              have H1 : (jitneyref06_head.j1 kj5 t205 t211 t210) = some (r1, r2, r3, r4, r5) := by rw [if_neg (show ¬ (false = true) by decide)] at H; exact H
              clear H
              have H := H1
              clear H1
              have H' := Aside0.mk H
              clear H
              go_wp2
              repeat (go_quiet (fail); try go_wp2)
              go_meet
              case rel => exact ⟨_, (t211), (by first | rfl | (simp; done) | (simp [*]; done)), H', ⟨by have := HJ5.out; first | omega | exact Nat.le_refl _⟩, ⟨by (with_reducible repeat (first | apply Kd.Q_alloc | apply Kd.Q_drewN | apply Kd.Q_drew)); exact HO_7.out⟩, ⟨by repeat (first | (with_reducible first | exact HB.out | apply below_alloc | apply pw_below_drewN | apply below_drew1) | exact HB.out)⟩⟩
          case rest =>
            clear HC10
            try clear c1
            try clear p2
            try clear q2
            try clear hx2
            try clear qi2
            try clear c3
            try clear c3b0
            try clear c3b1
            try clear c4
            try clear c4b0
            try clear c4b1
            try clear c9
            try clear c9b0
            try clear c9b1
            try clear c11
            try clear hx209_0
            try clear p2
            try clear p209
            try clear q2
            try clear q209
            obtain ⟨kq, x8_9, rfl, HA, HJ9, HO_7, HB⟩ := hcut
            cases kq with
            | zero => exact absurd HA.out (by simp [jitneyref06_head.j1])
            | succ kj9 =>
              have H := HA.out
              clear HA
              simp only [jitneyref06_head.j1] at H
              by_cases c12 : x8_9 = 0
              · rw [if_pos c12] at H
                have c12b0 : (x8_9 == 0) = true := beq_iff_eq.mpr c12
                have c12b1 : (x8_9 != 0) = false := bne_eq_false_iff_eq.mpr c12
                clear c12
                by_cases c13 : 1 < (t205.length : Int)
                · rw [if_pos c13] at H
                  have c13b0 : decide (1 < (t205.length : Int)) = true := decide_eq_true c13
                  have c13b1 : decide (1 < t205.length) = true := decide_eq_true (by omega)
                  clear c13
                  replace H := Option.bind_eq_some_iff.mp H
                  obtain ⟨⟨t213, t214⟩, A140, H⟩ := H
                  replace H : (if t214 = 0 then (if 2 < (t205.length : Int) then ((jitneyref03_Whole.f kj9 (rdOf ByteArray.empty t205 2)).bind fun bt216 => (if bt216.2 = 0 then (if 3 < (t205.length : Int) then (if (rdOf ByteArray.empty t205 3).toList = ([115, 112, 111, 116, 115] : List UInt8) then (jitneyref06_head.j2 kj9 t205 t210 t213 bt216.1 false) else (jitneyref06_head.j2 kj9 t205 t210 t213 bt216.1 ((rdOf ByteArray.empty t205 3).toList != ([116, 105, 109, 101, 115] : List UInt8)))) else (none)) else (some (0, 0, 0, false, bt216.2)))) else (none)) else (some (0, 0, 0, false, t214))) = some (r1, r2, r3, r4, r5) := H
                  have A14 := Aside0.mk A140
                  clear A140
                  by_cases c15 : t214 = 0
                  · rw [if_pos c15] at H
                    have c15b0 : (t214 == 0) = true := beq_iff_eq.mpr c15
                    have c15b1 : (t214 != 0) = false := bne_eq_false_iff_eq.mpr c15
                    clear c15
                    by_cases c16 : 2 < (t205.length : Int)
                    · rw [if_pos c16] at H
                      have c16b0 : decide (2 < (t205.length : Int)) = true := decide_eq_true c16
                      have c16b1 : decide (2 < t205.length) = true := decide_eq_true (by omega)
                      clear c16
                      replace H := Option.bind_eq_some_iff.mp H
                      obtain ⟨⟨t216, t217⟩, A170, H⟩ := H
                      replace H : (if t217 = 0 then (if 3 < (t205.length : Int) then (if (rdOf ByteArray.empty t205 3).toList = ([115, 112, 111, 116, 115] : List UInt8) then (jitneyref06_head.j2 kj9 t205 t210 t213 t216 false) else (jitneyref06_head.j2 kj9 t205 t210 t213 t216 ((rdOf ByteArray.empty t205 3).toList != ([116, 105, 109, 101, 115] : List UInt8)))) else (none)) else (some (0, 0, 0, false, t217))) = some (r1, r2, r3, r4, r5) := H
                      have A17 := Aside0.mk A170
                      clear A170
                      by_cases c18 : t217 = 0
                      · rw [if_pos c18] at H
                        have c18b0 : (t217 == 0) = true := beq_iff_eq.mpr c18
                        have c18b1 : (t217 != 0) = false := bne_eq_false_iff_eq.mpr c18
                        clear c18
                        have HC19 := Aside0.mk H
                        clear H
                        have p212 : 0 ≤ (1 : Int) := (by omega)
                        have q212 : 1 < (t205.length : Int) := of_decide_eq_true (by first | (with_reducible assumption) | assumption)
                        obtain ⟨ad212, e212, hx212_0⟩ := Kd.at_string (Kd.Q_reads' HO_7.out).2.2 1 p212 q212
                        obtain rfl : ad209 = ad212 := (by injection e212)
                        (try simp only [show (1 : Int).toNat = 1 from rfl, Nat.reduceMul, Nat.reduceEqDiff, Go.Addr.add, ↓reduceIte] at hx212_0)
                        have qi212 : (1 < t205.length) = True := eq_true (by omega)
                        (try rw [show ((1 : Int)).toNat = 1 from rfl] at hx212_0)
                        replace p212 := eq_true p212
                        replace q212 := eq_true q212
                        go_upto_region 15 with (first | (go_at_call 41; (with_reducible refine (jitneyref03_Whole.calls kj9 (rdOf ByteArray.empty t205 1) t213 t214 _ A14.out).mono ?_); rintro e w' ⟨rfl, ⟨nd, rfl⟩⟩; (try first | exact ⟨rfl, _, World.drewN_drewN _ _ _⟩ | exact ⟨rfl, _, Eq.trans (World.drewN_drewN _ _ _) (congrArg (World.drewN _) (Nat.add_assoc _ _ _))⟩); have p215 : 0 ≤ (2 : Int) := (by omega); have q215 : 2 < (t205.length : Int) := of_decide_eq_true (by first | (with_reducible assumption) | assumption); obtain ⟨ad215, e215, hx215_0⟩ := Kd.at_string (Kd.Q_reads' HO_7.out).2.2 2 p215 q215; obtain rfl : ad209 = ad215 := (by injection e215); (try simp only [show (2 : Int).toNat = 2 from rfl, Nat.reduceMul, Nat.reduceEqDiff, Go.Addr.add, ↓reduceIte] at hx215_0); have qi215 : (2 < t205.length) = True := eq_true (by omega); (try rw [show ((2 : Int)).toNat = 2 from rfl] at hx215_0); replace p215 := eq_true p215; replace q215 := eq_true q215) | (go_at_call 41; (with_reducible refine (jitneyref03_Whole.calls kj9 (rdOf ByteArray.empty t205 2) t216 t217 _ A17.out).mono ?_); rintro e w' ⟨rfl, ⟨nd, rfl⟩⟩; (try first | exact ⟨rfl, _, World.drewN_drewN _ _ _⟩ | exact ⟨rfl, _, Eq.trans (World.drewN_drewN _ _ _) (congrArg (World.drewN _) (Nat.add_assoc _ _ _))⟩)))
                        repeat (go_quiet (first | (go_at_call 41; (with_reducible refine (jitneyref03_Whole.calls kj9 (rdOf ByteArray.empty t205 1) t213 t214 _ A14.out).mono ?_); rintro e w' ⟨rfl, ⟨nd, rfl⟩⟩; (try first | exact ⟨rfl, _, World.drewN_drewN _ _ _⟩ | exact ⟨rfl, _, Eq.trans (World.drewN_drewN _ _ _) (congrArg (World.drewN _) (Nat.add_assoc _ _ _))⟩); have p215 : 0 ≤ (2 : Int) := (by omega); have q215 : 2 < (t205.length : Int) := of_decide_eq_true (by first | (with_reducible assumption) | assumption); obtain ⟨ad215, e215, hx215_0⟩ := Kd.at_string (Kd.Q_reads' HO_7.out).2.2 2 p215 q215; obtain rfl : ad209 = ad215 := (by injection e215); (try simp only [show (2 : Int).toNat = 2 from rfl, Nat.reduceMul, Nat.reduceEqDiff, Go.Addr.add, ↓reduceIte] at hx215_0); have qi215 : (2 < t205.length) = True := eq_true (by omega); (try rw [show ((2 : Int)).toNat = 2 from rfl] at hx215_0); replace p215 := eq_true p215; replace q215 := eq_true q215) | (go_at_call 41; (with_reducible refine (jitneyref03_Whole.calls kj9 (rdOf ByteArray.empty t205 2) t216 t217 _ A17.out).mono ?_); rintro e w' ⟨rfl, ⟨nd, rfl⟩⟩; (try first | exact ⟨rfl, _, World.drewN_drewN _ _ _⟩ | exact ⟨rfl, _, Eq.trans (World.drewN_drewN _ _ _) (congrArg (World.drewN _) (Nat.add_assoc _ _ _))⟩))); go_upto_region 15 with (first | (go_at_call 41; (with_reducible refine (jitneyref03_Whole.calls kj9 (rdOf ByteArray.empty t205 1) t213 t214 _ A14.out).mono ?_); rintro e w' ⟨rfl, ⟨nd, rfl⟩⟩; (try first | exact ⟨rfl, _, World.drewN_drewN _ _ _⟩ | exact ⟨rfl, _, Eq.trans (World.drewN_drewN _ _ _) (congrArg (World.drewN _) (Nat.add_assoc _ _ _))⟩); have p215 : 0 ≤ (2 : Int) := (by omega); have q215 : 2 < (t205.length : Int) := of_decide_eq_true (by first | (with_reducible assumption) | assumption); obtain ⟨ad215, e215, hx215_0⟩ := Kd.at_string (Kd.Q_reads' HO_7.out).2.2 2 p215 q215; obtain rfl : ad209 = ad215 := (by injection e215); (try simp only [show (2 : Int).toNat = 2 from rfl, Nat.reduceMul, Nat.reduceEqDiff, Go.Addr.add, ↓reduceIte] at hx215_0); have qi215 : (2 < t205.length) = True := eq_true (by omega); (try rw [show ((2 : Int)).toNat = 2 from rfl] at hx215_0); replace p215 := eq_true p215; replace q215 := eq_true q215) | (go_at_call 41; (with_reducible refine (jitneyref03_Whole.calls kj9 (rdOf ByteArray.empty t205 2) t216 t217 _ A17.out).mono ?_); rintro e w' ⟨rfl, ⟨nd, rfl⟩⟩; (try first | exact ⟨rfl, _, World.drewN_drewN _ _ _⟩ | exact ⟨rfl, _, Eq.trans (World.drewN_drewN _ _ _) (congrArg (World.drewN _) (Nat.add_assoc _ _ _))⟩))))
                        (try simp only [Act.put, List.setIfInBounds_toArray, List.set_cons_zero, List.set_cons_succ])
                        go_cut [65] (fun v65 wc => ∃ (kq : Nat) (x65_18 : Bool), v65 = .bool x65_18 ∧ Aside0 (jitneyref06_head.j2 kq t205 t210 t213 t216 x65_18 = some (r1, r2, r3, r4, r5)) ∧ Aside0 (kq ≤ kj9) ∧ Aside0 (Kd.Q Kd.string 9 wc w.heap.size (fun _ => True) (.slice (some ad209) t205.length co8) t205) ∧ Aside0 (Below w.heap.size w wc))
                        case first =>
                          have H := HC19.out
                          clear HC19
                          by_cases c20 : 3 < (t205.length : Int)
                          · rw [if_pos c20] at H
                            have c20b0 : decide (3 < (t205.length : Int)) = true := decide_eq_true c20
                            have c20b1 : decide (3 < t205.length) = true := decide_eq_true (by omega)
                            clear c20
                            (first | rw [c20b0] | (simp only [i64_w, i32_w]; rw [c20b0]) | skip)
                            by_cases c21 : (rdOf ByteArray.empty t205 3).toList = ([115, 112, 111, 116, 115] : List UInt8)
                            · rw [if_pos c21] at H
                              have c21b0 : ((rdOf ByteArray.empty t205 3).toList == ([115, 112, 111, 116, 115] : List UInt8)) = true := beq_iff_eq.mpr c21
                              have c21b1 : ((rdOf ByteArray.empty t205 3).toList != ([115, 112, 111, 116, 115] : List UInt8)) = false := bne_eq_false_iff_eq.mpr c21
                              clear c21
                              have H' := Aside0.mk H
                              clear H
                              have p218 : 0 ≤ (3 : Int) := (by omega)
                              have q218 : 3 < (t205.length : Int) := of_decide_eq_true (by first | (with_reducible assumption) | assumption)
                              obtain ⟨ad218, e218, hx218_0⟩ := Kd.at_string (Kd.Q_reads' HO_7.out).2.2 3 p218 q218
                              obtain rfl : ad209 = ad218 := (by injection e218)
                              (try simp only [show (3 : Int).toNat = 3 from rfl, Nat.reduceMul, Nat.reduceEqDiff, Go.Addr.add, ↓reduceIte] at hx218_0)
                              have qi218 : (3 < t205.length) = True := eq_true (by omega)
                              (try rw [show ((3 : Int)).toNat = 3 from rfl] at hx218_0)
                              replace p218 := eq_true p218
                              replace q218 := eq_true q218
                              go_wp2
                              repeat (go_quiet (fail); try go_wp2)
                              go_meet
                              case rel => exact ⟨_, (false), (by first | rfl | (simp; done) | (simp [*]; done)), H', ⟨by have := HJ5.out; have := HJ9.out; first | omega | exact Nat.le_refl _⟩, ⟨by (with_reducible repeat (first | apply Kd.Q_alloc | apply Kd.Q_drewN | apply Kd.Q_drew)); exact HO_7.out⟩, ⟨by repeat (first | (with_reducible first | exact HB.out | apply below_alloc | apply pw_below_drewN | apply below_drew1) | exact HB.out)⟩⟩
                            · rw [if_neg c21] at H
                              have c21b0 : ((rdOf ByteArray.empty t205 3).toList == ([115, 112, 111, 116, 115] : List UInt8)) = false := beq_eq_false_iff_ne.mpr c21
                              have c21b1 : ((rdOf ByteArray.empty t205 3).toList != ([115, 112, 111, 116, 115] : List UInt8)) = true := bne_iff_ne.mpr c21
                              have H' := Aside0.mk H
                              clear H
                              have p218 : 0 ≤ (3 : Int) := (by omega)
                              have q218 : 3 < (t205.length : Int) := of_decide_eq_true (by first | (with_reducible assumption) | assumption)
                              obtain ⟨ad218, e218, hx218_0⟩ := Kd.at_string (Kd.Q_reads' HO_7.out).2.2 3 p218 q218
                              obtain rfl : ad209 = ad218 := (by injection e218)
                              (try simp only [show (3 : Int).toNat = 3 from rfl, Nat.reduceMul, Nat.reduceEqDiff, Go.Addr.add, ↓reduceIte] at hx218_0)
                              have qi218 : (3 < t205.length) = True := eq_true (by omega)
                              (try rw [show ((3 : Int)).toNat = 3 from rfl] at hx218_0)
                              replace p218 := eq_true p218
                              replace q218 := eq_true q218
                              have p219 : 0 ≤ (3 : Int) := (by omega)
                              have q219 : 3 < (t205.length : Int) := of_decide_eq_true (by first | (with_reducible assumption) | assumption)
                              obtain ⟨ad219, e219, hx219_0⟩ := Kd.at_string (Kd.Q_reads' HO_7.out).2.2 3 p219 q219
                              obtain rfl : ad209 = ad219 := (by injection e219)
                              (try simp only [show (3 : Int).toNat = 3 from rfl, Nat.reduceMul, Nat.reduceEqDiff, Go.Addr.add, ↓reduceIte] at hx219_0)
                              have qi219 : (3 < t205.length) = True := eq_true (by omega)
                              (try rw [show ((3 : Int)).toNat = 3 from rfl] at hx219_0)
                              replace p219 := eq_true p219
                              replace q219 := eq_true q219
                              go_wp2
                              repeat (go_quiet (fail); try go_wp2)
                              go_meet
                              case rel => exact ⟨_, (((rdOf ByteArray.empty t205 3).toList != ([116, 105, 109, 101, 115] : List UInt8))), (by first | rfl | (simp; done) | (simp [*]; done)), H', ⟨by have := HJ5.out; have := HJ9.out; first | omega | exact Nat.le_refl _⟩, ⟨by (with_reducible repeat (first | apply Kd.Q_alloc | apply Kd.Q_drewN | apply Kd.Q_drew)); exact HO_7.out⟩, ⟨by repeat (first | (with_reducible first | exact HB.out | apply below_alloc | apply pw_below_drewN | apply below_drew1) | exact HB.out)⟩⟩
                          · rw [if_neg c20] at H
                            exact absurd H (by simp)
                        case rest =>
                          clear HC19
                          try clear c1
                          try clear c2
                          try clear p2
                          try clear q2
                          try clear hx2
                          try clear qi2
                          try clear c3
                          try clear c3b0
                          try clear c3b1
                          try clear c4
                          try clear c4b0
                          try clear c4b1
                          try clear c9
                          try clear c9b0
                          try clear c9b1
                          try clear c11
                          try clear c12
                          try clear c12b0
                          try clear c12b1
                          try clear c13
                          try clear c13b0
                          try clear c13b1
                          try clear c14
                          try clear c15
                          try clear c15b0
                          try clear c15b1
                          try clear c16
                          try clear c16b0
                          try clear c16b1
                          try clear c18
                          try clear c18b0
                          try clear c18b1
                          try clear c20
                          try clear c20b0
                          try clear c20b1
                          try clear p20
                          try clear q20
                          try clear hx20
                          try clear qi20
                          try clear c21
                          try clear c21b0
                          try clear c21b1
                          try clear p21
                          try clear q21
                          try clear hx21
                          try clear qi21
                          try clear hx209_0
                          try clear hx212_0
                          try clear hx215_0
                          try clear hx218_0
                          try clear hx219_0
                          try clear p2
                          try clear p209
                          try clear p212
                          try clear p215
                          try clear p218
                          try clear p219
                          try clear q2
                          try clear q209
                          try clear q212
                          try clear q215
                          try clear q218
                          try clear q219
                          obtain ⟨kq, x65_18, rfl, HA, HJ18, HO_7, HB⟩ := hcut
                          cases kq with
                          | zero => exact absurd HA.out (by simp [jitneyref06_head.j2])
                          | succ kj18 =>
                            have H := HA.out
                            clear HA
                            simp only [jitneyref06_head.j2] at H
                            by_cases c22 : x65_18 = true
                            · subst c22
                              have H1 : (some (0, 0, 0, false, 21)) = some (r1, r2, r3, r4, r5) := by rw [if_pos rfl] at H; exact H
                              clear H
                              have H := H1
                              clear H1
                              simp only [Option.some.injEq, Prod.mk.injEq] at H
                              obtain ⟨rfl, rfl, rfl, rfl, rfl⟩ := H
                              go_wp2
                              repeat (go_quiet (fail); try go_wp2)
                              refine bodyPost_ret (results_list (rs := [.tmp 2, .tmp 3, .tmp 4, .tmp 5, .tmp 6]) rfl (by simp) (.tmp (.tmp (.tmp (.tmp (.tmp .nil)))))) rfl ?_
                              exact ⟨by first | rfl | (simp [errW_none, errW_some] <;> rfl) | (simp [*, errW_none, errW_some] <;> rfl), by repeat (first | (with_reducible first | exact HB.out | apply below_alloc | apply pw_below_drewN | apply below_drew1) | exact HB.out)⟩
                            · replace c22 := Bool.eq_false_iff.mpr c22
                              subst c22
                              have H1 : (if t213 = 0 then (some (0, 0, 0, false, 1)) else (if t213 > 64 then (some (0, 0, 0, false, 3)) else (if (wrap64 ((wrap64 (2 * t216)) + 2)) > 4096 then (some (0, 0, 0, false, 3)) else (if 3 < (t205.length : Int) then (some (t213, t216, t210, ((rdOf ByteArray.empty t205 3).toList == ([115, 112, 111, 116, 115] : List UInt8)), 0)) else (none))))) = some (r1, r2, r3, r4, r5) := by rw [if_neg (show ¬ (false = true) by decide)] at H; exact H
                              clear H
                              have H := H1
                              clear H1
                              by_cases c23 : t213 = 0
                              · rw [if_pos c23] at H
                                have c23b0 : (t213 == 0) = true := beq_iff_eq.mpr c23
                                have c23b1 : (t213 != 0) = false := bne_eq_false_iff_eq.mpr c23
                                clear c23
                                simp only [Option.some.injEq, Prod.mk.injEq] at H
                                obtain ⟨rfl, rfl, rfl, rfl, rfl⟩ := H
                                go_wp2
                                repeat (go_quiet (fail); try go_wp2)
                                refine bodyPost_ret (results_list (rs := [.tmp 2, .tmp 3, .tmp 4, .tmp 5, .tmp 6]) rfl (by simp) (.tmp (.tmp (.tmp (.tmp (.tmp .nil)))))) rfl ?_
                                exact ⟨by first | rfl | (simp [errW_none, errW_some] <;> rfl) | (simp [*, errW_none, errW_some] <;> rfl), by repeat (first | (with_reducible first | exact HB.out | apply below_alloc | apply pw_below_drewN | apply below_drew1) | exact HB.out)⟩
                              · rw [if_neg c23] at H
                                have c23b0 : (t213 == 0) = false := beq_eq_false_iff_ne.mpr c23
                                have c23b1 : (t213 != 0) = true := bne_iff_ne.mpr c23
                                by_cases c24 : t213 > 64
                                · rw [if_pos c24] at H
                                  have c24b0 : decide (64 < t213) = true := decide_eq_true c24
                                  clear c24
                                  simp only [Option.some.injEq, Prod.mk.injEq] at H
                                  obtain ⟨rfl, rfl, rfl, rfl, rfl⟩ := H
                                  go_wp2
                                  repeat (go_quiet (fail); try go_wp2)
                                  refine bodyPost_ret (results_list (rs := [.tmp 2, .tmp 3, .tmp 4, .tmp 5, .tmp 6]) rfl (by simp) (.tmp (.tmp (.tmp (.tmp (.tmp .nil)))))) rfl ?_
                                  exact ⟨by first | rfl | (simp [errW_none, errW_some] <;> rfl) | (simp [*, errW_none, errW_some] <;> rfl), by repeat (first | (with_reducible first | exact HB.out | apply below_alloc | apply pw_below_drewN | apply below_drew1) | exact HB.out)⟩
                                · rw [if_neg c24] at H
                                  have c24b0 : decide (64 < t213) = false := decide_eq_false c24
                                  clear c24
                                  by_cases c25 : (wrap64 ((wrap64 (2 * t216)) + 2)) > 4096
                                  · rw [if_pos c25] at H
                                    have c25b0 : decide (4096 < (wrap64 ((wrap64 (2 * t216)) + 2))) = true := decide_eq_true c25
                                    clear c25
                                    simp only [Option.some.injEq, Prod.mk.injEq] at H
                                    obtain ⟨rfl, rfl, rfl, rfl, rfl⟩ := H
                                    go_wp2
                                    repeat (go_quiet (fail); try go_wp2)
                                    refine bodyPost_ret (results_list (rs := [.tmp 2, .tmp 3, .tmp 4, .tmp 5, .tmp 6]) rfl (by simp) (.tmp (.tmp (.tmp (.tmp (.tmp .nil)))))) rfl ?_
                                    exact ⟨by first | rfl | (simp [errW_none, errW_some] <;> rfl) | (simp [*, errW_none, errW_some] <;> rfl), by repeat (first | (with_reducible first | exact HB.out | apply below_alloc | apply pw_below_drewN | apply below_drew1) | exact HB.out)⟩
                                  · rw [if_neg c25] at H
                                    have c25b0 : decide (4096 < (wrap64 ((wrap64 (2 * t216)) + 2))) = false := decide_eq_false c25
                                    clear c25
                                    by_cases c26 : 3 < (t205.length : Int)
                                    · rw [if_pos c26] at H
                                      have c26b0 : decide (3 < (t205.length : Int)) = true := decide_eq_true c26
                                      have c26b1 : decide (3 < t205.length) = true := decide_eq_true (by omega)
                                      clear c26
                                      simp only [Option.some.injEq, Prod.mk.injEq] at H
                                      obtain ⟨rfl, rfl, rfl, rfl, rfl⟩ := H
                                      have p220 : 0 ≤ (3 : Int) := (by omega)
                                      have q220 : 3 < (t205.length : Int) := of_decide_eq_true (by first | (with_reducible assumption) | assumption)
                                      obtain ⟨ad220, e220, hx220_0⟩ := Kd.at_string (Kd.Q_reads' HO_7.out).2.2 3 p220 q220
                                      obtain rfl : ad209 = ad220 := (by injection e220)
                                      (try simp only [show (3 : Int).toNat = 3 from rfl, Nat.reduceMul, Nat.reduceEqDiff, Go.Addr.add, ↓reduceIte] at hx220_0)
                                      have qi220 : (3 < t205.length) = True := eq_true (by omega)
                                      (try rw [show ((3 : Int)).toNat = 3 from rfl] at hx220_0)
                                      replace p220 := eq_true p220
                                      replace q220 := eq_true q220
                                      go_wp2
                                      repeat (go_quiet (fail); try go_wp2)
                                      refine bodyPost_ret (results_list (rs := [.tmp 2, .tmp 3, .tmp 4, .tmp 5, .tmp 6]) rfl (by simp) (.tmp (.tmp (.tmp (.tmp (.tmp .nil)))))) rfl ?_
                                      exact ⟨by first | rfl | (simp [errW_none, errW_some] <;> rfl) | (simp [*, errW_none, errW_some] <;> rfl), by repeat (first | (with_reducible first | exact HB.out | apply below_alloc | apply pw_below_drewN | apply below_drew1) | exact HB.out)⟩
                                    · rw [if_neg c26] at H
                                      exact absurd H (by simp)
                      · rw [if_neg c18] at H
                        have c18b0 : (t217 == 0) = false := beq_eq_false_iff_ne.mpr c18
                        have c18b1 : (t217 != 0) = true := bne_iff_ne.mpr c18
                        simp only [Option.some.injEq, Prod.mk.injEq] at H
                        obtain ⟨rfl, rfl, rfl, rfl, rfl⟩ := H
                        have p212 : 0 ≤ (1 : Int) := (by omega)
                        have q212 : 1 < (t205.length : Int) := of_decide_eq_true (by first | (with_reducible assumption) | assumption)
                        obtain ⟨ad212, e212, hx212_0⟩ := Kd.at_string (Kd.Q_reads' HO_7.out).2.2 1 p212 q212
                        obtain rfl : ad209 = ad212 := (by injection e212)
                        (try simp only [show (1 : Int).toNat = 1 from rfl, Nat.reduceMul, Nat.reduceEqDiff, Go.Addr.add, ↓reduceIte] at hx212_0)
                        have qi212 : (1 < t205.length) = True := eq_true (by omega)
                        (try rw [show ((1 : Int)).toNat = 1 from rfl] at hx212_0)
                        replace p212 := eq_true p212
                        replace q212 := eq_true q212
                        go_wp2_with (first | (go_at_call 41; (with_reducible refine (jitneyref03_Whole.calls kj9 (rdOf ByteArray.empty t205 1) t213 t214 _ A14.out).mono ?_); rintro e w' ⟨rfl, ⟨nd, rfl⟩⟩; (try first | exact ⟨rfl, _, World.drewN_drewN _ _ _⟩ | exact ⟨rfl, _, Eq.trans (World.drewN_drewN _ _ _) (congrArg (World.drewN _) (Nat.add_assoc _ _ _))⟩); have p215 : 0 ≤ (2 : Int) := (by omega); have q215 : 2 < (t205.length : Int) := of_decide_eq_true (by first | (with_reducible assumption) | assumption); obtain ⟨ad215, e215, hx215_0⟩ := Kd.at_string (Kd.Q_reads' HO_7.out).2.2 2 p215 q215; obtain rfl : ad209 = ad215 := (by injection e215); (try simp only [show (2 : Int).toNat = 2 from rfl, Nat.reduceMul, Nat.reduceEqDiff, Go.Addr.add, ↓reduceIte] at hx215_0); have qi215 : (2 < t205.length) = True := eq_true (by omega); (try rw [show ((2 : Int)).toNat = 2 from rfl] at hx215_0); replace p215 := eq_true p215; replace q215 := eq_true q215) | (go_at_call 41; (with_reducible refine (jitneyref03_Whole.calls kj9 (rdOf ByteArray.empty t205 2) t216 t217 _ A17.out).mono ?_); rintro e w' ⟨rfl, ⟨nd, rfl⟩⟩; (try first | exact ⟨rfl, _, World.drewN_drewN _ _ _⟩ | exact ⟨rfl, _, Eq.trans (World.drewN_drewN _ _ _) (congrArg (World.drewN _) (Nat.add_assoc _ _ _))⟩)))
                        repeat (go_quiet (first | (go_at_call 41; (with_reducible refine (jitneyref03_Whole.calls kj9 (rdOf ByteArray.empty t205 1) t213 t214 _ A14.out).mono ?_); rintro e w' ⟨rfl, ⟨nd, rfl⟩⟩; (try first | exact ⟨rfl, _, World.drewN_drewN _ _ _⟩ | exact ⟨rfl, _, Eq.trans (World.drewN_drewN _ _ _) (congrArg (World.drewN _) (Nat.add_assoc _ _ _))⟩); have p215 : 0 ≤ (2 : Int) := (by omega); have q215 : 2 < (t205.length : Int) := of_decide_eq_true (by first | (with_reducible assumption) | assumption); obtain ⟨ad215, e215, hx215_0⟩ := Kd.at_string (Kd.Q_reads' HO_7.out).2.2 2 p215 q215; obtain rfl : ad209 = ad215 := (by injection e215); (try simp only [show (2 : Int).toNat = 2 from rfl, Nat.reduceMul, Nat.reduceEqDiff, Go.Addr.add, ↓reduceIte] at hx215_0); have qi215 : (2 < t205.length) = True := eq_true (by omega); (try rw [show ((2 : Int)).toNat = 2 from rfl] at hx215_0); replace p215 := eq_true p215; replace q215 := eq_true q215) | (go_at_call 41; (with_reducible refine (jitneyref03_Whole.calls kj9 (rdOf ByteArray.empty t205 2) t216 t217 _ A17.out).mono ?_); rintro e w' ⟨rfl, ⟨nd, rfl⟩⟩; (try first | exact ⟨rfl, _, World.drewN_drewN _ _ _⟩ | exact ⟨rfl, _, Eq.trans (World.drewN_drewN _ _ _) (congrArg (World.drewN _) (Nat.add_assoc _ _ _))⟩))); try go_wp2_with (first | (go_at_call 41; (with_reducible refine (jitneyref03_Whole.calls kj9 (rdOf ByteArray.empty t205 1) t213 t214 _ A14.out).mono ?_); rintro e w' ⟨rfl, ⟨nd, rfl⟩⟩; (try first | exact ⟨rfl, _, World.drewN_drewN _ _ _⟩ | exact ⟨rfl, _, Eq.trans (World.drewN_drewN _ _ _) (congrArg (World.drewN _) (Nat.add_assoc _ _ _))⟩); have p215 : 0 ≤ (2 : Int) := (by omega); have q215 : 2 < (t205.length : Int) := of_decide_eq_true (by first | (with_reducible assumption) | assumption); obtain ⟨ad215, e215, hx215_0⟩ := Kd.at_string (Kd.Q_reads' HO_7.out).2.2 2 p215 q215; obtain rfl : ad209 = ad215 := (by injection e215); (try simp only [show (2 : Int).toNat = 2 from rfl, Nat.reduceMul, Nat.reduceEqDiff, Go.Addr.add, ↓reduceIte] at hx215_0); have qi215 : (2 < t205.length) = True := eq_true (by omega); (try rw [show ((2 : Int)).toNat = 2 from rfl] at hx215_0); replace p215 := eq_true p215; replace q215 := eq_true q215) | (go_at_call 41; (with_reducible refine (jitneyref03_Whole.calls kj9 (rdOf ByteArray.empty t205 2) t216 t217 _ A17.out).mono ?_); rintro e w' ⟨rfl, ⟨nd, rfl⟩⟩; (try first | exact ⟨rfl, _, World.drewN_drewN _ _ _⟩ | exact ⟨rfl, _, Eq.trans (World.drewN_drewN _ _ _) (congrArg (World.drewN _) (Nat.add_assoc _ _ _))⟩))))
                        refine bodyPost_ret (results_list (rs := [.tmp 2, .tmp 3, .tmp 4, .tmp 5, .tmp 6]) rfl (by simp) (.tmp (.tmp (.tmp (.tmp (.tmp .nil)))))) rfl ?_
                        exact ⟨by first | rfl | (simp [errW_none, errW_some] <;> rfl) | (simp [*, errW_none, errW_some] <;> rfl), by repeat (first | (with_reducible first | exact HB.out | apply below_alloc | apply pw_below_drewN | apply below_drew1) | exact HB.out)⟩
                    · rw [if_neg c16] at H
                      exact absurd H (by simp)
                  · rw [if_neg c15] at H
                    have c15b0 : (t214 == 0) = false := beq_eq_false_iff_ne.mpr c15
                    have c15b1 : (t214 != 0) = true := bne_iff_ne.mpr c15
                    simp only [Option.some.injEq, Prod.mk.injEq] at H
                    obtain ⟨rfl, rfl, rfl, rfl, rfl⟩ := H
                    have p212 : 0 ≤ (1 : Int) := (by omega)
                    have q212 : 1 < (t205.length : Int) := of_decide_eq_true (by first | (with_reducible assumption) | assumption)
                    obtain ⟨ad212, e212, hx212_0⟩ := Kd.at_string (Kd.Q_reads' HO_7.out).2.2 1 p212 q212
                    obtain rfl : ad209 = ad212 := (by injection e212)
                    (try simp only [show (1 : Int).toNat = 1 from rfl, Nat.reduceMul, Nat.reduceEqDiff, Go.Addr.add, ↓reduceIte] at hx212_0)
                    have qi212 : (1 < t205.length) = True := eq_true (by omega)
                    (try rw [show ((1 : Int)).toNat = 1 from rfl] at hx212_0)
                    replace p212 := eq_true p212
                    replace q212 := eq_true q212
                    go_wp2_with (first | (go_at_call 41; (with_reducible refine (jitneyref03_Whole.calls kj9 (rdOf ByteArray.empty t205 1) t213 t214 _ A14.out).mono ?_); rintro e w' ⟨rfl, ⟨nd, rfl⟩⟩; (try first | exact ⟨rfl, _, World.drewN_drewN _ _ _⟩ | exact ⟨rfl, _, Eq.trans (World.drewN_drewN _ _ _) (congrArg (World.drewN _) (Nat.add_assoc _ _ _))⟩)))
                    repeat (go_quiet (first | (go_at_call 41; (with_reducible refine (jitneyref03_Whole.calls kj9 (rdOf ByteArray.empty t205 1) t213 t214 _ A14.out).mono ?_); rintro e w' ⟨rfl, ⟨nd, rfl⟩⟩; (try first | exact ⟨rfl, _, World.drewN_drewN _ _ _⟩ | exact ⟨rfl, _, Eq.trans (World.drewN_drewN _ _ _) (congrArg (World.drewN _) (Nat.add_assoc _ _ _))⟩))); try go_wp2_with (first | (go_at_call 41; (with_reducible refine (jitneyref03_Whole.calls kj9 (rdOf ByteArray.empty t205 1) t213 t214 _ A14.out).mono ?_); rintro e w' ⟨rfl, ⟨nd, rfl⟩⟩; (try first | exact ⟨rfl, _, World.drewN_drewN _ _ _⟩ | exact ⟨rfl, _, Eq.trans (World.drewN_drewN _ _ _) (congrArg (World.drewN _) (Nat.add_assoc _ _ _))⟩))))
                    refine bodyPost_ret (results_list (rs := [.tmp 2, .tmp 3, .tmp 4, .tmp 5, .tmp 6]) rfl (by simp) (.tmp (.tmp (.tmp (.tmp (.tmp .nil)))))) rfl ?_
                    exact ⟨by first | rfl | (simp [errW_none, errW_some] <;> rfl) | (simp [*, errW_none, errW_some] <;> rfl), by repeat (first | (with_reducible first | exact HB.out | apply below_alloc | apply pw_below_drewN | apply below_drew1) | exact HB.out)⟩
                · rw [if_neg c13] at H
                  exact absurd H (by simp)
              · rw [if_neg c12] at H
                have c12b0 : (x8_9 == 0) = false := beq_eq_false_iff_ne.mpr c12
                have c12b1 : (x8_9 != 0) = true := bne_iff_ne.mpr c12
                simp only [Option.some.injEq, Prod.mk.injEq] at H
                obtain ⟨rfl, rfl, rfl, rfl, rfl⟩ := H
                go_wp2
                repeat (go_quiet (fail); try go_wp2)
                refine bodyPost_ret (results_list (rs := [.tmp 2, .tmp 3, .tmp 4, .tmp 5, .tmp 6]) rfl (by simp) (.tmp (.tmp (.tmp (.tmp (.tmp .nil)))))) rfl ?_
                exact ⟨by first | rfl | (simp [errW_none, errW_some] <;> rfl) | (simp [*, errW_none, errW_some] <;> rfl), by repeat (first | (with_reducible first | exact HB.out | apply below_alloc | apply pw_below_drewN | apply below_drew1) | exact HB.out)⟩
    · rw [if_neg c4] at H
      exact absurd H (by simp)
  · rw [if_neg c3] at H
    have c3b0 : (t206 == 0) = false := beq_eq_false_iff_ne.mpr c3
    have c3b1 : (t206 != 0) = true := bne_iff_ne.mpr c3
    simp only [Option.some.injEq, Prod.mk.injEq] at H
    obtain ⟨rfl, rfl, rfl, rfl, rfl⟩ := H
    go_enter Tryz.func14, Tryz.ntmps14
    go_wp2_with (first | (go_at_call 40; (with_reducible refine (jitneyref06_words.calls k a0 (⟨#[106, 105, 116, 110, 101, 121]⟩ : ByteArray) 5 t205 t206 _ A2.out).mono ?_); rintro e w27 ⟨v207, rfl, ho0, hb⟩; have n0_ := Aside0.mk (Kd.Q_lower ho0 (below_size (by repeat (first | (with_reducible first | exact HB.out | apply below_alloc | apply pw_below_drewN | apply below_drew1) | exact HB.out)))); have n1_ := Aside0.mk (below_step (by repeat (first | (with_reducible first | exact HB.out | apply below_alloc | apply pw_below_drewN | apply below_drew1) | exact HB.out)) hb); clear HB; have HO208 := n0_; have HB := n1_; clear n0_ n1_; (try clear hb); (try clear hb2); (try clear hk); (try clear hi); (try clear ho0)))
    repeat (go_quiet (first | (go_at_call 40; (with_reducible refine (jitneyref06_words.calls k a0 (⟨#[106, 105, 116, 110, 101, 121]⟩ : ByteArray) 5 t205 t206 _ A2.out).mono ?_); rintro e w27 ⟨v207, rfl, ho0, hb⟩; have n0_ := Aside0.mk (Kd.Q_lower ho0 (below_size (by repeat (first | (with_reducible first | exact HB.out | apply below_alloc | apply pw_below_drewN | apply below_drew1) | exact HB.out)))); have n1_ := Aside0.mk (below_step (by repeat (first | (with_reducible first | exact HB.out | apply below_alloc | apply pw_below_drewN | apply below_drew1) | exact HB.out)) hb); clear HB; have HO208 := n0_; have HB := n1_; clear n0_ n1_; (try clear hb); (try clear hb2); (try clear hk); (try clear hi); (try clear ho0))); try go_wp2_with (first | (go_at_call 40; (with_reducible refine (jitneyref06_words.calls k a0 (⟨#[106, 105, 116, 110, 101, 121]⟩ : ByteArray) 5 t205 t206 _ A2.out).mono ?_); rintro e w27 ⟨v207, rfl, ho0, hb⟩; have n0_ := Aside0.mk (Kd.Q_lower ho0 (below_size (by repeat (first | (with_reducible first | exact HB.out | apply below_alloc | apply pw_below_drewN | apply below_drew1) | exact HB.out)))); have n1_ := Aside0.mk (below_step (by repeat (first | (with_reducible first | exact HB.out | apply below_alloc | apply pw_below_drewN | apply below_drew1) | exact HB.out)) hb); clear HB; have HO208 := n0_; have HB := n1_; clear n0_ n1_; (try clear hb); (try clear hb2); (try clear hk); (try clear hi); (try clear ho0))))
    refine bodyPost_ret (results_list (rs := [.tmp 2, .tmp 3, .tmp 4, .tmp 5, .tmp 6]) rfl (by simp) (.tmp (.tmp (.tmp (.tmp (.tmp .nil)))))) rfl ?_
    exact ⟨by first | rfl | (simp [errW_none, errW_some] <;> rfl) | (simp [*, errW_none, errW_some] <;> rfl), by repeat (first | (with_reducible first | exact HB.out | apply below_alloc | apply pw_below_drewN | apply below_drew1) | exact HB.out)⟩

/-! ### jitneyref06_small: function 79 -/
def jitneyref06_small.f (k : Nat) (a0 : ByteArray) (a1 : Int) : Option (Int × Int) := (jitneyref03_Read.f k a0 0).bind fun bt221 => (if bt221.2 = 0 then (if bt221.1 < (wrap64 (-a1)) then (some (0, 23)) else (if bt221.1 > a1 then (some (0, 23)) else (some (bt221.1, bt221.2)))) else (some (bt221.1, bt221.2)))
set_option maxHeartbeats 8000000 in
set_option maxRecDepth 100000 in
theorem jitneyref06_small.calls (k : Nat) (a0 : ByteArray) (a1 : Int) (r1 : Int) (r2 : Int) (w : World) (h : jitneyref06_small.f k a0 a1 = some (r1, r2)) :
    Calls Tryz.prog 79 #[.string a0, .int .i64 a1] w fun e w' => e = .returned (.tuple #[.int .i64 r1, .int .i64 r2]) ∧ Drawn0 w w' := by
  have H : ((jitneyref03_Read.f k a0 0).bind fun bt221 => (if bt221.2 = 0 then (if bt221.1 < (wrap64 (-a1)) then (some (0, 23)) else (if bt221.1 > a1 then (some (0, 23)) else (some (bt221.1, bt221.2)))) else (some (bt221.1, bt221.2)))) = some (r1, r2) := h
  clear h
  replace H := Option.bind_eq_some_iff.mp H
  obtain ⟨⟨t221, t222⟩, A30, H⟩ := H
  replace H : (if t222 = 0 then (if t221 < (wrap64 (-a1)) then (some (0, 23)) else (if t221 > a1 then (some (0, 23)) else (some (t221, t222)))) else (some (t221, t222))) = some (r1, r2) := H
  have A3 := Aside0.mk A30
  clear A30
  by_cases c4 : t222 = 0
  · rw [if_pos c4] at H
    have c4b0 : (t222 == 0) = true := beq_iff_eq.mpr c4
    have c4b1 : (t222 != 0) = false := bne_eq_false_iff_eq.mpr c4
    clear c4
    by_cases c5 : t221 < (wrap64 (-a1))
    · rw [if_pos c5] at H
      have c5b0 : decide (t221 < (wrap64 (-a1))) = true := decide_eq_true c5
      clear c5
      simp only [Option.some.injEq, Prod.mk.injEq] at H
      obtain ⟨rfl, rfl⟩ := H
      go_enter Tryz.func79, Tryz.ntmps79
      go_wp2_with (first | ((with_reducible refine gate_callee (f := 78) rfl ?_); refine goesL_ (some 10) rfl rfl Tryz.func78 (by kernel_rfl) rfl #[.string a0, .int .i64 0] rfl (by (try simp only [List.map_toArray, List.map_cons, List.map_nil]); first | done | rfl | (simp only [List.length_drop, List.length_take]; rfl)) ?_; (with_reducible refine (jitneyref03_Read.calls k a0 0 t221 t222 _ A3.out).mono ?_); rintro e w' ⟨rfl, ⟨nd, rfl⟩⟩; refine ⟨_, rfl, ?_⟩))
      go_ret2
      exact ⟨by first | rfl | (simp; done) | (simp [*]; done), by repeat (first | exact Drawn0.refl _ | apply Drawn0.step)⟩
    · rw [if_neg c5] at H
      have c5b0 : decide (t221 < (wrap64 (-a1))) = false := decide_eq_false c5
      clear c5
      by_cases c6 : t221 > a1
      · rw [if_pos c6] at H
        have c6b0 : decide (a1 < t221) = true := decide_eq_true c6
        clear c6
        simp only [Option.some.injEq, Prod.mk.injEq] at H
        obtain ⟨rfl, rfl⟩ := H
        go_enter Tryz.func79, Tryz.ntmps79
        go_wp2_with (first | ((with_reducible refine gate_callee (f := 78) rfl ?_); refine goesL_ (some 10) rfl rfl Tryz.func78 (by kernel_rfl) rfl #[.string a0, .int .i64 0] rfl (by (try simp only [List.map_toArray, List.map_cons, List.map_nil]); first | done | rfl | (simp only [List.length_drop, List.length_take]; rfl)) ?_; (with_reducible refine (jitneyref03_Read.calls k a0 0 t221 t222 _ A3.out).mono ?_); rintro e w' ⟨rfl, ⟨nd, rfl⟩⟩; refine ⟨_, rfl, ?_⟩))
        go_ret2
        exact ⟨by first | rfl | (simp; done) | (simp [*]; done), by repeat (first | exact Drawn0.refl _ | apply Drawn0.step)⟩
      · rw [if_neg c6] at H
        have c6b0 : decide (a1 < t221) = false := decide_eq_false c6
        clear c6
        simp only [Option.some.injEq, Prod.mk.injEq] at H
        obtain ⟨rfl, rfl⟩ := H
        go_enter Tryz.func79, Tryz.ntmps79
        go_wp2_with (first | ((with_reducible refine gate_callee (f := 78) rfl ?_); refine goesL_ (some 10) rfl rfl Tryz.func78 (by kernel_rfl) rfl #[.string a0, .int .i64 0] rfl (by (try simp only [List.map_toArray, List.map_cons, List.map_nil]); first | done | rfl | (simp only [List.length_drop, List.length_take]; rfl)) ?_; (with_reducible refine (jitneyref03_Read.calls k a0 0 t221 t222 _ A3.out).mono ?_); rintro e w' ⟨rfl, ⟨nd, rfl⟩⟩; refine ⟨_, rfl, ?_⟩))
        go_ret2
        exact ⟨by first | rfl | (simp; done) | (simp [*]; done), by repeat (first | exact Drawn0.refl _ | apply Drawn0.step)⟩
  · rw [if_neg c4] at H
    have c4b0 : (t222 == 0) = false := beq_eq_false_iff_ne.mpr c4
    have c4b1 : (t222 != 0) = true := bne_iff_ne.mpr c4
    simp only [Option.some.injEq, Prod.mk.injEq] at H
    obtain ⟨rfl, rfl⟩ := H
    go_enter Tryz.func79, Tryz.ntmps79
    go_wp2_with (first | ((with_reducible refine gate_callee (f := 78) rfl ?_); refine goesL_ (some 10) rfl rfl Tryz.func78 (by kernel_rfl) rfl #[.string a0, .int .i64 0] rfl (by (try simp only [List.map_toArray, List.map_cons, List.map_nil]); first | done | rfl | (simp only [List.length_drop, List.length_take]; rfl)) ?_; (with_reducible refine (jitneyref03_Read.calls k a0 0 t221 t222 _ A3.out).mono ?_); rintro e w' ⟨rfl, ⟨nd, rfl⟩⟩; refine ⟨_, rfl, ?_⟩))
    go_ret2
    exact ⟨by first | rfl | (simp; done) | (simp [*]; done), by repeat (first | exact Drawn0.refl _ | apply Drawn0.step)⟩

end Go.Proofs.YtcdmndhaeiccoaaGreatDoor.P
