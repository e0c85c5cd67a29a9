/- P13 -/
import Derived.Test.YtcdmndhaeiccoaaGreatDoorMkit
import Derived.Test.YtcdmndhaeiccoaaGreatDoorM00
namespace Go.Proofs.YtcdmndhaeiccoaaGreatDoor.P
open Go.Proofs.YtcdmndhaeiccoaaGreatDoorR
open Go.RowKit Go.Proofs.YtcdmndhaeiccoaaGreatDoorW.PrintWords Go.Proofs.YtcdmndhaeiccoaaGreatDoorW.PrintLast
attribute [local go_sem] max2_int min2_int max_two min_two   -- for this text's walks alone
set_option linter.unusedVariables false
set_option linter.unusedSimpArgs false

/-! ### jitneyref03_Read: function 78 -/
mutual
def jitneyref03_Read.j0 : Nat → ByteArray → Int → Bool → Option (Int × Int)
  | 0, _, _, _ => none
  | k + 1, x0, x1, x19 => if x19 = true then (some (0, 1)) else (if (x0.size : Int) > 0 then (if 0 < (x0.size : Int) then (jitneyref03_Read.j1 k x0 x1 0 ((bt x0 0) == 45)) else (none)) else (jitneyref03_Read.j1 k x0 x1 0 false))
def jitneyref03_Read.j1 : Nat → ByteArray → Int → Int → Bool → Option (Int × Int)
  | 0, _, _, _, _ => none
  | k + 1, x0, x1, x6, x7 => if x7 = true then (jitneyref03_Read.j2 k x0 x1 1 x7) else (jitneyref03_Read.j2 k x0 x1 x6 x7)
def jitneyref03_Read.j2 : Nat → ByteArray → Int → Int → Bool → Option (Int × Int)
  | 0, _, _, _, _ => none
  | k + 1, x0, x1, x6, x7 => jitneyref03_Read.l0 k x0 x1 x6 x7 0 false 0 (-1)
def jitneyref03_Read.l0 : Nat → ByteArray → Int → Int → Bool → Int → Bool → Int → Int → Option (Int × Int)
  | 0, _, _, _, _, _, _, _, _ => none
  | k + 1, x0, x1, x6, x7, x8, x9, x10, x11 => if x6 < (x0.size : Int) then (if 0 ≤ x6 then (if (bt x0 x6) = 46 then (jitneyref03_Read.j4 k x0 x1 (wrap64 (x6 + 1)) x7 x8 x9 x10 x11 (bt x0 x6) (decide (x11 < 0))) else (jitneyref03_Read.j4 k x0 x1 (wrap64 (x6 + 1)) x7 x8 x9 x10 x11 (bt x0 x6) false)) else (none)) else (if x10 < 1 then (jitneyref03_Read.j6 k x1 x7 x8 x9 x11 true) else (if x10 > 13 then (jitneyref03_Read.j6 k x1 x7 x8 x9 x11 true) else (if x11 = 0 then (jitneyref03_Read.j6 k x1 x7 x8 x9 x11 true) else (jitneyref03_Read.j6 k x1 x7 x8 x9 x11 (decide (x11 > x1))))))
def jitneyref03_Read.j4 : Nat → ByteArray → Int → Int → Bool → Int → Bool → Int → Int → Int → Bool → Option (Int × Int)
  | 0, _, _, _, _, _, _, _, _, _, _ => none
  | k + 1, x0, x1, x6, x7, x8, x9, x10, x11, x12, x43 => if x43 = true then (jitneyref03_Read.l0 k x0 x1 x6 x7 x8 x9 x10 0) else (if x12 < 48 then (jitneyref03_Read.j5 k x0 x1 x6 x7 x8 x9 x10 x11 x12 true) else (jitneyref03_Read.j5 k x0 x1 x6 x7 x8 x9 x10 x11 x12 (decide (x12 > 57))))
def jitneyref03_Read.j5 : Nat → ByteArray → Int → Int → Bool → Int → Bool → Int → Int → Int → Bool → Option (Int × Int)
  | 0, _, _, _, _, _, _, _, _, _, _ => none
  | k + 1, x0, x1, x6, x7, x8, x9, x10, x11, x12, x49 => if x49 = true then (some (0, 21)) else (if x11 ≥ 0 then (if (wrap64 ((wrap64 (10 * x8)) + ((x12 - 48) % 256))) > 2000000000000000 then (jitneyref03_Read.l0 k x0 x1 x6 x7 2000000000000000 true x10 (wrap64 (x11 + 1))) else (jitneyref03_Read.l0 k x0 x1 x6 x7 (wrap64 ((wrap64 (10 * x8)) + ((x12 - 48) % 256))) x9 x10 (wrap64 (x11 + 1)))) else (if (wrap64 ((wrap64 (10 * x8)) + ((x12 - 48) % 256))) > 2000000000000000 then (jitneyref03_Read.l0 k x0 x1 x6 x7 2000000000000000 true (wrap64 (x10 + 1)) x11) else (jitneyref03_Read.l0 k x0 x1 x6 x7 (wrap64 ((wrap64 (10 * x8)) + ((x12 - 48) % 256))) x9 (wrap64 (x10 + 1)) x11)))
def jitneyref03_Read.j6 : Nat → Int → Bool → Int → Bool → Int → Bool → Option (Int × Int)
  | 0, _, _, _, _, _, _ => none
  | k + 1, x1, x7, x8, x9, x11, x78 => if x78 = true then (some (0, 21)) else (if x11 < 0 then (jitneyref03_Read.j7 k x1 x7 x8 x9 0) else (jitneyref03_Read.j7 k x1 x7 x8 x9 x11))
def jitneyref03_Read.j7 : Nat → Int → Bool → Int → Bool → Int → Option (Int × Int)
  | 0, _, _, _, _, _ => none
  | k + 1, x1, x7, x8, x9, x11 => jitneyref03_Read.l1 k x1 x7 x8 x9 x11
def jitneyref03_Read.l1 : Nat → Int → Bool → Int → Bool → Int → Option (Int × Int)
  | 0, _, _, _, _, _ => none
  | k + 1, x1, x7, x8, x9, x13 => if x13 < x1 then (if (wrap64 (10 * x8)) > 2000000000000000 then (jitneyref03_Read.l1 k x1 x7 2000000000000000 true (wrap64 (x13 + 1))) else (jitneyref03_Read.l1 k x1 x7 (wrap64 (10 * x8)) x9 (wrap64 (x13 + 1)))) else (if x7 = true then (if x9 = true then (some (0, 23)) else (if (wrap64 (-x8)) < (-1099511627776) then (some (0, 23)) else (if (wrap64 (-x8)) > 1099511627776 then (some (0, 23)) else (some (wrap64 (-x8), 0))))) else (if x9 = true then (some (0, 23)) else (if x8 < (-1099511627776) then (some (0, 23)) else (if x8 > 1099511627776 then (some (0, 23)) else (some (x8, 0))))))
end
def jitneyref03_Read.f (k : Nat) (a0 : ByteArray) (a1 : Int) : Option (Int × Int) := if a1 < 0 then (jitneyref03_Read.j0 k a0 a1 true) else (jitneyref03_Read.j0 k a0 a1 (decide (a1 > 6)))
set_option maxHeartbeats 8000000 in
set_option maxRecDepth 100000 in
theorem jitneyref03_Read.calls (k : Nat) (a0 : ByteArray) (a1 : Int) (r1 : Int) (r2 : Int) (w : World) (h : jitneyref03_Read.f k a0 a1 = some (r1, r2)) :
    Calls Tryz.prog 78 #[.string a0, .int .i64 a1] w fun e w' => e = .returned (.tuple #[.int .i64 r1, .int .i64 r2]) ∧ Drawn0 w w' := by
  have H : (if a1 < 0 then (jitneyref03_Read.j0 k a0 a1 true) else (jitneyref03_Read.j0 k a0 a1 (decide (a1 > 6)))) = some (r1, r2) := h
  clear h
  have HC3 := Aside0.mk H
  clear H
  go_enter Tryz.func78, Tryz.ntmps78
  go_upto_region 1 with (fail)
  go_cut [19] (fun v19 wc => ∃ (kq : Nat) (x19_2 : Bool), v19 = .bool x19_2 ∧ Aside0 (jitneyref03_Read.j0 kq a0 a1 x19_2 = some (r1, r2)) ∧ Aside0 (kq ≤ k) ∧ Drawn0 w wc)
  case first =>
    have H := HC3.out
    clear HC3
    by_cases c4 : a1 < 0
    · rw [if_pos c4] at H
      have c4b0 : decide (a1 < 0) = true := decide_eq_true c4
      clear c4
      (first | rw [c4b0] | (simp only [i64_w, i32_w]; rw [c4b0]) | skip)
      have H' := Aside0.mk H
      clear H
      go_wp2
      go_meet
      case rel => exact ⟨_, (true), (by first | rfl | (simp; done) | (simp [*]; done)), H', ⟨by first | omega | exact Nat.le_refl _⟩, by repeat (first | exact Drawn0.refl _ | apply Drawn0.step)⟩
    · rw [if_neg c4] at H
      have c4b0 : decide (a1 < 0) = false := decide_eq_false c4
      clear c4
      (first | rw [c4b0] | (simp only [i64_w, i32_w]; rw [c4b0]) | skip)
      have H' := Aside0.mk H
      clear H
      go_wp2
      go_meet
      case rel => exact ⟨_, (decide (a1 > 6)), (by first | rfl | (simp; done) | (simp [*]; done)), H', ⟨by first | omega | exact Nat.le_refl _⟩, by repeat (first | exact Drawn0.refl _ | apply Drawn0.step)⟩
  case rest =>
    clear HC3
    try clear p2
    try clear c4
    try clear c4b0
    obtain ⟨kq, x19_2, rfl, HA, HJ2, ⟨mc2, rfl⟩⟩ := hcut
    cases kq with
    | zero => exact absurd HA.out (by simp [jitneyref03_Read.j0])
    | succ kj2 =>
      have H := HA.out
      clear HA
      simp only [jitneyref03_Read.j0] at H
      by_cases c5 : x19_2 = true
      · subst c5
        have H1 : (some (0, 1)) = some (r1, r2) := by rw [if_pos rfl] at H; exact H
        clear H
        have H := H1
        clear H1
        simp only [Option.some.injEq, Prod.mk.injEq] at H
        obtain ⟨rfl, rfl⟩ := H
        go_wp2
        go_ret2
        exact ⟨by first | rfl | (simp; done) | (simp [*]; done), by repeat (first | exact Drawn0.refl _ | apply Drawn0.step)⟩
      · replace c5 := Bool.eq_false_iff.mpr c5
        subst c5
        have H1 : (if (a0.size : Int) > 0 then (if 0 < (a0.size : Int) then (jitneyref03_Read.j1 kj2 a0 a1 0 ((bt a0 0) == 45)) else (none)) else (jitneyref03_Read.j1 kj2 a0 a1 0 false)) = some (r1, r2) := by rw [if_neg (show ¬ (false = true) by decide)] at H; exact H
        clear H
        have H := H1
        clear H1
        have HC6 := Aside0.mk H
        clear H
        go_upto_region 4 with (fail)
        go_cut [7] (fun v7 wc => ∃ (kq : Nat) (x7_5 : Bool), v7 = .bool x7_5 ∧ Aside0 (jitneyref03_Read.j1 kq a0 a1 0 x7_5 = some (r1, r2)) ∧ Aside0 (kq ≤ kj2) ∧ Drawn0 w wc)
        case first =>
          have H := HC6.out
          clear HC6
          by_cases c7 : (a0.size : Int) > 0
          · rw [if_pos c7] at H
            have c7b0 : decide (0 < (a0.size : Int)) = true := decide_eq_true c7
            have c7b1 : decide (0 < a0.size) = true := decide_eq_true (by omega)
            clear c7
            (first | rw [c7b0] | (simp only [i64_w, i32_w]; rw [c7b0]) | skip)
            by_cases c8 : 0 < (a0.size : Int)
            · rw [if_pos c8] at H
              have c8b0 : decide (0 < (a0.size : Int)) = true := decide_eq_true c8
              have c8b1 : decide (0 < a0.size) = true := decide_eq_true (by omega)
              clear c8
              have H' := Aside0.mk H
              clear H
              have p9 : 0 ≤ (0 : Int) := (by omega)
              have q9 : 0 < a0.size := (by have : (0 : Int) < (a0.size : Int) := of_decide_eq_true (by first | (with_reducible assumption) | assumption); omega)
              have hx9 : ∀ h : 0 < a0.size, ((a0[0]'h).toNat : Int) = bt a0 0 := bt_at a0 0
              clear p9
              have qi9 : (0 < (a0.size : Int)) = True := eq_true (of_decide_eq_true (by first | (with_reducible assumption) | assumption))
              replace q9 := eq_true q9
              go_wp2
              go_meet
              case rel => exact ⟨_, (((bt a0 0) == 45)), (by first | rfl | (simp; done) | (simp [*]; done)), H', ⟨by have := HJ2.out; first | omega | exact Nat.le_refl _⟩, by repeat (first | exact Drawn0.refl _ | apply Drawn0.step)⟩
            · rw [if_neg c8] at H
              exact absurd H (by simp)
          · rw [if_neg c7] at H
            have c7b0 : decide (0 < (a0.size : Int)) = false := decide_eq_false c7
            have c7b1 : decide (0 < a0.size) = false := decide_eq_false (by omega)
            clear c7
            (first | rw [c7b0] | (simp only [i64_w, i32_w]; rw [c7b0]) | skip)
            have H' := Aside0.mk H
            clear H
            go_wp2
            go_meet
            case rel => exact ⟨_, (false), (by first | rfl | (simp; done) | (simp [*]; done)), H', ⟨by have := HJ2.out; first | omega | exact Nat.le_refl _⟩, by repeat (first | exact Drawn0.refl _ | apply Drawn0.step)⟩
        case rest =>
          clear HC6
          try clear c2
          try clear p2
          try clear c4
          try clear c4b0
          try clear c5
          try clear c7
          try clear c7b0
          try clear c7b1
          try clear c8
          try clear c8b0
          try clear c8b1
          try clear p9
          try clear q9
          try clear hx9
          try clear qi9
          try clear p2
          try clear p9
          try clear q9
          obtain ⟨kq, x7_5, rfl, HA, HJ5, ⟨mc5, rfl⟩⟩ := hcut
          cases kq with
          | zero => exact absurd HA.out (by simp [jitneyref03_Read.j1])
          | succ kj5 =>
            have H := HA.out
            clear HA
            simp only [jitneyref03_Read.j1] at H
            have HC10 := Aside0.mk H
            clear H
            go_upto_if 28 with (fail)
            go_cut [6] (fun v6 wc => ∃ (kq : Nat) (x6_9 : Int), v6 = .int .i64 x6_9 ∧ Aside0 (jitneyref03_Read.j2 kq a0 a1 x6_9 x7_5 = some (r1, r2)) ∧ Aside0 (kq ≤ kj5) ∧ Drawn0 w wc)
            case first =>
              have H := HC10.out
              clear HC10
              by_cases c11 : x7_5 = true
              · subst c11
                have H1 : (jitneyref03_Read.j2 kj5 a0 a1 1 true) = some (r1, r2) := by rw [if_pos rfl] at H; exact H
                clear H
                have H := H1
                clear H1
                have H' := Aside0.mk H
                clear H
                go_wp2
                go_meet
                case rel => exact ⟨_, (1), (by first | rfl | (simp; done) | (simp [*]; done)), H', ⟨by have := HJ2.out; have := HJ5.out; first | omega | exact Nat.le_refl _⟩, by repeat (first | exact Drawn0.refl _ | apply Drawn0.step)⟩
              · replace c11 := Bool.eq_false_iff.mpr c11
                subst c11
                have H1 : (jitneyref03_Read.j2 kj5 a0 a1 0 false) = some (r1, r2) := by rw [if_neg (show ¬ (false = true) by decide)] at H; exact H
                clear H
                have H := H1
                clear H1
                have H' := Aside0.mk H
                clear H
                go_wp2
                go_meet
                case rel => exact ⟨_, (0), (by first | rfl | (simp; done) | (simp [*]; done)), H', ⟨by have := HJ2.out; have := HJ5.out; first | omega | exact Nat.le_refl _⟩, by repeat (first | exact Drawn0.refl _ | apply Drawn0.step)⟩
            case rest =>
              clear HC10
              try clear c1
              try clear c2
              try clear p2
              try clear c4
              try clear c4b0
              try clear c5
              try clear c7
              try clear c7b0
              try clear c7b1
              try clear c8
              try clear c8b0
              try clear c8b1
              try clear p9
              try clear q9
              try clear hx9
              try clear qi9
              try clear c11
              try clear p2
              try clear p9
              try clear q9
              obtain ⟨kq, x6_9, rfl, HA, HJ9, ⟨mc9, rfl⟩⟩ := hcut
              cases kq with
              | zero => exact absurd HA.out (by simp [jitneyref03_Read.j2])
              | succ kj9 =>
                have H := HA.out
                clear HA
                simp only [jitneyref03_Read.j2] at H
                have H' := Aside0.mk H
                clear H
                go_wp2
                go_loopg [6, 8, 9, 10, 11] kj9 (fun kq v6 v8 v9 v10 v11 w' => ∃ (x6_4 : Int) (x8_4 : Int) (x9_4 : Bool) (x10_4 : Int) (x11_4 : Int), v6 = .int .i64 x6_4 ∧ v8 = .int .i64 x8_4 ∧ v9 = .bool x9_4 ∧ v10 = .int .i64 x10_4 ∧ v11 = .int .i64 x11_4 ∧ Aside0 (jitneyref03_Read.l0 kq a0 a1 x6_4 x7_5 x8_4 x9_4 x10_4 x11_4 = some (r1, r2)) ∧ Aside0 (kq ≤ kj9) ∧ Drawn0 w w')
                case atStart => exact ⟨(x6_9), (0), (false), (0), ((-1)), (by first | rfl | (simp; done) | (simp [*]; done)), (by first | rfl | (simp; done) | (simp [*]; done)), (by first | rfl | (simp; done) | (simp [*]; done)), (by first | rfl | (simp; done) | (simp [*]; done)), (by first | rfl | (simp; done) | (simp [*]; done)), H', ⟨Nat.le_refl _⟩, by repeat (first | exact Drawn0.refl _ | apply Drawn0.step)⟩
                case round =>
                  clear H'
                  try clear c1
                  try clear c2
                  try clear p2
                  try clear c4
                  try clear c4b0
                  try clear c5
                  try clear c7
                  try clear c7b0
                  try clear c7b1
                  try clear c8
                  try clear c8b0
                  try clear c8b1
                  try clear c9
                  try clear p9
                  try clear q9
                  try clear hx9
                  try clear qi9
                  try clear c11
                  try clear p2
                  try clear p9
                  try clear q9
                  obtain ⟨x6_4, x8_4, x9_4, x10_4, x11_4, rfl, rfl, rfl, rfl, rfl, HA, HK4, ⟨m4, rfl⟩⟩ := hrel
                  cases gk with
                  | zero => exact absurd HA.out (by simp [jitneyref03_Read.l0])
                  | succ k4 =>
                    have H := HA.out
                    clear HA
                    simp only [jitneyref03_Read.l0] at H
                    by_cases c12 : x6_4 < (a0.size : Int)
                    · rw [if_pos c12] at H
                      have c12b0 : decide (x6_4 < (a0.size : Int)) = true := decide_eq_true c12
                      clear c12
                      by_cases c13 : 0 ≤ x6_4
                      · rw [if_pos c13] at H
                        have c13b0 : decide (0 ≤ x6_4) = true := decide_eq_true c13
                        clear c13
                        have HC15 := Aside0.mk H
                        clear H
                        have p14 : 0 ≤ (x6_4 : Int) := of_decide_eq_true (by first | (with_reducible assumption) | assumption)
                        have q14 : x6_4 < (a0.size : Int) := of_decide_eq_true (by first | (with_reducible assumption) | assumption)
                        have hx14 := bt_at a0 x6_4
                        replace p14 := eq_true p14
                        replace q14 := eq_true q14
                        go_upto_region 13 with (fail)
                        go_cut [43] (fun v43 wc => ∃ (kq : Nat) (x43_14 : Bool), v43 = .bool x43_14 ∧ Aside0 (jitneyref03_Read.j4 kq a0 a1 (wrap64 (x6_4 + 1)) x7_5 x8_4 x9_4 x10_4 x11_4 (bt a0 x6_4) x43_14 = some (r1, r2)) ∧ Aside0 (kq ≤ k4) ∧ Drawn0 w wc)
                        case first =>
                          have H := HC15.out
                          clear HC15
                          by_cases c16 : (bt a0 x6_4) = 46
                          · rw [if_pos c16] at H
                            have c16b0 : ((bt a0 x6_4) == 46) = true := beq_iff_eq.mpr c16
                            have c16b1 : ((bt a0 x6_4) != 46) = false := bne_eq_false_iff_eq.mpr c16
                            clear c16
                            (first | rw [c16b0] | (simp only [i64_w, i32_w]; rw [c16b0]) | skip)
                            have H' := Aside0.mk H
                            clear H
                            go_wp2
                            go_meet
                            case rel => exact ⟨_, (decide (x11_4 < 0)), (by first | rfl | (simp; done) | (simp [*]; done)), H', ⟨by have := HJ2.out; have := HJ5.out; have := HJ9.out; have := HK4.out; first | omega | exact Nat.le_refl _⟩, by repeat (first | exact Drawn0.refl _ | apply Drawn0.step)⟩
                          · rw [if_neg c16] at H
                            have c16b0 : ((bt a0 x6_4) == 46) = false := beq_eq_false_iff_ne.mpr c16
                            have c16b1 : ((bt a0 x6_4) != 46) = true := bne_iff_ne.mpr c16
                            (first | rw [c16b0] | (simp only [i64_w, i32_w]; rw [c16b0]) | skip)
                            have H' := Aside0.mk H
                            clear H
                            go_wp2
                            go_meet
                            case rel => exact ⟨_, (false), (by first | rfl | (simp; done) | (simp [*]; done)), H', ⟨by have := HJ2.out; have := HJ5.out; have := HJ9.out; have := HK4.out; first | omega | exact Nat.le_refl _⟩, by repeat (first | exact Drawn0.refl _ | apply Drawn0.step)⟩
                        case rest =>
                          clear HC15
                          try clear c1
                          try clear p1
                          try clear q1
                          try clear hx1
                          try clear c2
                          try clear p2
                          try clear c4
                          try clear c4b0
                          try clear c5
                          try clear p6
                          try clear c7
                          try clear c7b0
                          try clear c7b1
                          try clear c8
                          try clear c8b0
                          try clear c8b1
                          try clear c9
                          try clear p9
                          try clear q9
                          try clear hx9
                          try clear qi9
                          try clear c11
                          try clear c12
                          try clear c12b0
                          try clear c13
                          try clear c13b0
                          try clear p14
                          try clear q14
                          try clear hx14
                          try clear c16
                          try clear c16b0
                          try clear c16b1
                          try clear p14
                          try clear p2
                          try clear p9
                          try clear q14
                          try clear q9
                          obtain ⟨kq, x43_14, rfl, HA, HJ14, ⟨mc14, rfl⟩⟩ := hcut
                          cases kq with
                          | zero => exact absurd HA.out (by simp [jitneyref03_Read.j4])
                          | succ kj14 =>
                            have H := HA.out
                            clear HA
                            simp only [jitneyref03_Read.j4] at H
                            by_cases c17 : x43_14 = true
                            · subst c17
                              have H1 : (jitneyref03_Read.l0 kj14 a0 a1 (wrap64 (x6_4 + 1)) x7_5 x8_4 x9_4 x10_4 0) = some (r1, r2) := by rw [if_pos rfl] at H; exact H
                              clear H
                              have H := H1
                              clear H1
                              have H' := Aside0.mk H
                              clear H
                              go_wp2
                              go_roundg kj14
                              case measure => have := HJ2.out; have := HJ5.out; have := HJ9.out; have := HK4.out; have := HJ14.out; omega
                              case rel => exact ⟨((wrap64 (x6_4 + 1))), (x8_4), (x9_4), (x10_4), (0), (by first | rfl | (simp; done) | (simp [*]; done)), (by first | rfl | (simp; done) | (simp [*]; done)), (by first | rfl | (simp; done) | (simp [*]; done)), (by first | rfl | (simp; done) | (simp [*]; done)), (by first | rfl | (simp; done) | (simp [*]; done)), H', ⟨by have := HJ2.out; have := HJ5.out; have := HJ9.out; have := HK4.out; have := HJ14.out; omega⟩, by repeat (first | exact Drawn0.refl _ | apply Drawn0.step)⟩
                            · replace c17 := Bool.eq_false_iff.mpr c17
                              subst c17
                              have H1 : (if (bt a0 x6_4) < 48 then (jitneyref03_Read.j5 kj14 a0 a1 (wrap64 (x6_4 + 1)) x7_5 x8_4 x9_4 x10_4 x11_4 (bt a0 x6_4) true) else (jitneyref03_Read.j5 kj14 a0 a1 (wrap64 (x6_4 + 1)) x7_5 x8_4 x9_4 x10_4 x11_4 (bt a0 x6_4) (decide ((bt a0 x6_4) > 57)))) = some (r1, r2) := by rw [if_neg (show ¬ (false = true) by decide)] at H; exact H
                              clear H
                              have H := H1
                              clear H1
                              have HC18 := Aside0.mk H
                              clear H
                              go_upto_region 15 with (fail)
                              go_cut [49] (fun v49 wc => ∃ (kq : Nat) (x49_17 : Bool), v49 = .bool x49_17 ∧ Aside0 (jitneyref03_Read.j5 kq a0 a1 (wrap64 (x6_4 + 1)) x7_5 x8_4 x9_4 x10_4 x11_4 (bt a0 x6_4) x49_17 = some (r1, r2)) ∧ Aside0 (kq ≤ kj14) ∧ Drawn0 w wc)
                              case first =>
                                have H := HC18.out
                                clear HC18
                                by_cases c19 : (bt a0 x6_4) < 48
                                · rw [if_pos c19] at H
                                  have c19b0 : decide ((bt a0 x6_4) < 48) = true := decide_eq_true c19
                                  clear c19
                                  (first | rw [c19b0] | (simp only [i64_w, i32_w]; rw [c19b0]) | skip)
                                  have H' := Aside0.mk H
                                  clear H
                                  go_wp2
                                  go_meet
                                  case rel => exact ⟨_, (true), (by first | rfl | (simp; done) | (simp [*]; done)), H', ⟨by have := HJ2.out; have := HJ5.out; have := HJ9.out; have := HK4.out; have := HJ14.out; first | omega | exact Nat.le_refl _⟩, by repeat (first | exact Drawn0.refl _ | apply Drawn0.step)⟩
                                · rw [if_neg c19] at H
                                  have c19b0 : decide ((bt a0 x6_4) < 48) = false := decide_eq_false c19
                                  clear c19
                                  (first | rw [c19b0] | (simp only [i64_w, i32_w]; rw [c19b0]) | skip)
                                  have H' := Aside0.mk H
                                  clear H
                                  go_wp2
                                  go_meet
                                  case rel => exact ⟨_, (decide ((bt a0 x6_4) > 57)), (by first | rfl | (simp; done) | (simp [*]; done)), H', ⟨by have := HJ2.out; have := HJ5.out; have := HJ9.out; have := HK4.out; have := HJ14.out; first | omega | exact Nat.le_refl _⟩, by repeat (first | exact Drawn0.refl _ | apply Drawn0.step)⟩
                              case rest =>
                                clear HC18
                                try clear c1
                                try clear p1
                                try clear q1
                                try clear hx1
                                try clear c2
                                try clear p2
                                try clear c4
                                try clear c4b0
                                try clear c5
                                try clear p6
                                try clear c7
                                try clear c7b0
                                try clear c7b1
                                try clear c8
                                try clear c8b0
                                try clear c8b1
                                try clear c9
                                try clear p9
                                try clear q9
                                try clear hx9
                                try clear qi9
                                try clear c11
                                try clear c12
                                try clear c12b0
                                try clear c13
                                try clear c13b0
                                try clear c14
                                try clear p14
                                try clear q14
                                try clear hx14
                                try clear c16
                                try clear c16b0
                                try clear c16b1
                                try clear c17
                                try clear c19
                                try clear c19b0
                                try clear p1
                                try clear p14
                                try clear p2
                                try clear p6
                                try clear p9
                                try clear q1
                                try clear q14
                                try clear q9
                                obtain ⟨kq, x49_17, rfl, HA, HJ17, ⟨mc17, rfl⟩⟩ := hcut
                                cases kq with
                                | zero => exact absurd HA.out (by simp [jitneyref03_Read.j5])
                                | succ kj17 =>
                                  have H := HA.out
                                  clear HA
                                  simp only [jitneyref03_Read.j5] at H
                                  by_cases c20 : x49_17 = true
                                  · subst c20
                                    have H1 : (some (0, 21)) = some (r1, r2) := by rw [if_pos rfl] at H; exact H
                                    clear H
                                    have H := H1
                                    clear H1
                                    simp only [Option.some.injEq, Prod.mk.injEq] at H
                                    obtain ⟨rfl, rfl⟩ := H
                                    go_wp2
                                    go_ret2
                                    exact ⟨by first | rfl | (simp; done) | (simp [*]; done), by repeat (first | exact Drawn0.refl _ | apply Drawn0.step)⟩
                                  · replace c20 := Bool.eq_false_iff.mpr c20
                                    subst c20
                                    have H1 : (if x11_4 ≥ 0 then (if (wrap64 ((wrap64 (10 * x8_4)) + (((bt a0 x6_4) - 48) % 256))) > 2000000000000000 then (jitneyref03_Read.l0 kj17 a0 a1 (wrap64 (x6_4 + 1)) x7_5 2000000000000000 true x10_4 (wrap64 (x11_4 + 1))) else (jitneyref03_Read.l0 kj17 a0 a1 (wrap64 (x6_4 + 1)) x7_5 (wrap64 ((wrap64 (10 * x8_4)) + (((bt a0 x6_4) - 48) % 256))) x9_4 x10_4 (wrap64 (x11_4 + 1)))) else (if (wrap64 ((wrap64 (10 * x8_4)) + (((bt a0 x6_4) - 48) % 256))) > 2000000000000000 then (jitneyref03_Read.l0 kj17 a0 a1 (wrap64 (x6_4 + 1)) x7_5 2000000000000000 true (wrap64 (x10_4 + 1)) x11_4) else (jitneyref03_Read.l0 kj17 a0 a1 (wrap64 (x6_4 + 1)) x7_5 (wrap64 ((wrap64 (10 * x8_4)) + (((bt a0 x6_4) - 48) % 256))) x9_4 (wrap64 (x10_4 + 1)) x11_4))) = some (r1, r2) := by rw [if_neg (show ¬ (false = true) by decide)] at H; exact H
                                    clear H
                                    have H := H1
                                    clear H1
                                    by_cases c21 : x11_4 ≥ 0
                                    · rw [if_pos c21] at H
                                      have c21b0 : decide (0 ≤ x11_4) = true := decide_eq_true c21
                                      clear c21
                                      by_cases c22 : (wrap64 ((wrap64 (10 * x8_4)) + (((bt a0 x6_4) - 48) % 256))) > 2000000000000000
                                      · rw [if_pos c22] at H
                                        have c22b0 : decide (2000000000000000 < (wrap64 ((wrap64 (10 * x8_4)) + (((bt a0 x6_4) - 48) % 256)))) = true := decide_eq_true c22
                                        clear c22
                                        have H' := Aside0.mk H
                                        clear H
                                        go_wp2
                                        go_roundg kj17
                                        case measure => have := HJ2.out; have := HJ5.out; have := HJ9.out; have := HK4.out; have := HJ14.out; have := HJ17.out; omega
                                        case rel => exact ⟨((wrap64 (x6_4 + 1))), (2000000000000000), (true), (x10_4), (wrap64 (x11_4 + 1)), (by first | rfl | (simp; done) | (simp [*]; done)), (by first | rfl | (simp; done) | (simp [*]; done)), (by first | rfl | (simp; done) | (simp [*]; done)), (by first | rfl | (simp; done) | (simp [*]; done)), (by first | rfl | (simp; done) | (simp [*]; done)), H', ⟨by have := HJ2.out; have := HJ5.out; have := HJ9.out; have := HK4.out; have := HJ14.out; have := HJ17.out; omega⟩, by repeat (first | exact Drawn0.refl _ | apply Drawn0.step)⟩
                                      · rw [if_neg c22] at H
                                        have c22b0 : decide (2000000000000000 < (wrap64 ((wrap64 (10 * x8_4)) + (((bt a0 x6_4) - 48) % 256)))) = false := decide_eq_false c22
                                        clear c22
                                        have H' := Aside0.mk H
                                        clear H
                                        go_wp2
                                        go_roundg kj17
                                        case measure => have := HJ2.out; have := HJ5.out; have := HJ9.out; have := HK4.out; have := HJ14.out; have := HJ17.out; omega
                                        case rel => exact ⟨((wrap64 (x6_4 + 1))), (wrap64 ((wrap64 (10 * x8_4)) + (((bt a0 x6_4) - 48) % 256))), (x9_4), (x10_4), (wrap64 (x11_4 + 1)), (by first | rfl | (simp; done) | (simp [*]; done)), (by first | rfl | (simp; done) | (simp [*]; done)), (by first | rfl | (simp; done) | (simp [*]; done)), (by first | rfl | (simp; done) | (simp [*]; done)), (by first | rfl | (simp; done) | (simp [*]; done)), H', ⟨by have := HJ2.out; have := HJ5.out; have := HJ9.out; have := HK4.out; have := HJ14.out; have := HJ17.out; omega⟩, by repeat (first | exact Drawn0.refl _ | apply Drawn0.step)⟩
                                    · rw [if_neg c21] at H
                                      have c21b0 : decide (0 ≤ x11_4) = false := decide_eq_false c21
                                      clear c21
                                      by_cases c23 : (wrap64 ((wrap64 (10 * x8_4)) + (((bt a0 x6_4) - 48) % 256))) > 2000000000000000
                                      · rw [if_pos c23] at H
                                        have c23b0 : decide (2000000000000000 < (wrap64 ((wrap64 (10 * x8_4)) + (((bt a0 x6_4) - 48) % 256)))) = true := decide_eq_true c23
                                        clear c23
                                        have H' := Aside0.mk H
                                        clear H
                                        go_wp2
                                        go_roundg kj17
                                        case measure => have := HJ2.out; have := HJ5.out; have := HJ9.out; have := HK4.out; have := HJ14.out; have := HJ17.out; omega
                                        case rel => exact ⟨((wrap64 (x6_4 + 1))), (2000000000000000), (true), (wrap64 (x10_4 + 1)), (x11_4), (by first | rfl | (simp; done) | (simp [*]; done)), (by first | rfl | (simp; done) | (simp [*]; done)), (by first | rfl | (simp; done) | (simp [*]; done)), (by first | rfl | (simp; done) | (simp [*]; done)), (by first | rfl | (simp; done) | (simp [*]; done)), H', ⟨by have := HJ2.out; have := HJ5.out; have := HJ9.out; have := HK4.out; have := HJ14.out; have := HJ17.out; omega⟩, by repeat (first | exact Drawn0.refl _ | apply Drawn0.step)⟩
                                      · rw [if_neg c23] at H
                                        have c23b0 : decide (2000000000000000 < (wrap64 ((wrap64 (10 * x8_4)) + (((bt a0 x6_4) - 48) % 256)))) = false := decide_eq_false c23
                                        clear c23
                                        have H' := Aside0.mk H
                                        clear H
                                        go_wp2
                                        go_roundg kj17
                                        case measure => have := HJ2.out; have := HJ5.out; have := HJ9.out; have := HK4.out; have := HJ14.out; have := HJ17.out; omega
                                        case rel => exact ⟨((wrap64 (x6_4 + 1))), (wrap64 ((wrap64 (10 * x8_4)) + (((bt a0 x6_4) - 48) % 256))), (x9_4), (wrap64 (x10_4 + 1)), (x11_4), (by first | rfl | (simp; done) | (simp [*]; done)), (by first | rfl | (simp; done) | (simp [*]; done)), (by first | rfl | (simp; done) | (simp [*]; done)), (by first | rfl | (simp; done) | (simp [*]; done)), (by first | rfl | (simp; done) | (simp [*]; done)), H', ⟨by have := HJ2.out; have := HJ5.out; have := HJ9.out; have := HK4.out; have := HJ14.out; have := HJ17.out; omega⟩, by repeat (first | exact Drawn0.refl _ | apply Drawn0.step)⟩
                      · rw [if_neg c13] at H
                        exact absurd H (by simp)
                    · rw [if_neg c12] at H
                      have c12b0 : decide (x6_4 < (a0.size : Int)) = false := decide_eq_false c12
                      clear c12
                      have HC24 := Aside0.mk H
                      clear H
                      go_upto_region 24 with (fail)
                      go_cut [78] (fun v78 wc => ∃ (kq : Nat) (x78_23 : Bool), v78 = .bool x78_23 ∧ Aside0 (jitneyref03_Read.j6 kq a1 x7_5 x8_4 x9_4 x11_4 x78_23 = some (r1, r2)) ∧ Aside0 (kq ≤ k4) ∧ Drawn0 w wc)
                      case first =>
                        have H := HC24.out
                        clear HC24
                        by_cases c25 : x10_4 < 1
                        · rw [if_pos c25] at H
                          have c25b0 : decide (x10_4 < 1) = true := decide_eq_true c25
                          clear c25
                          (first | rw [c25b0] | (simp only [i64_w, i32_w]; rw [c25b0]) | skip)
                          have H' := Aside0.mk H
                          clear H
                          go_wp2
                          go_meet
                          case rel => exact ⟨_, (true), (by first | rfl | (simp; done) | (simp [*]; done)), H', ⟨by have := HJ2.out; have := HJ5.out; have := HJ9.out; have := HK4.out; first | omega | exact Nat.le_refl _⟩, by repeat (first | exact Drawn0.refl _ | apply Drawn0.step)⟩
                        · rw [if_neg c25] at H
                          have c25b0 : decide (x10_4 < 1) = false := decide_eq_false c25
                          clear c25
                          (first | rw [c25b0] | (simp only [i64_w, i32_w]; rw [c25b0]) | skip)
                          by_cases c26 : x10_4 > 13
                          · rw [if_pos c26] at H
                            have c26b0 : decide (13 < x10_4) = true := decide_eq_true c26
                            clear c26
                            have H' := Aside0.mk H
                            clear H
                            go_wp2
                            go_meet
                            case rel => exact ⟨_, (true), (by first | rfl | (simp; done) | (simp [*]; done)), H', ⟨by have := HJ2.out; have := HJ5.out; have := HJ9.out; have := HK4.out; first | omega | exact Nat.le_refl _⟩, by repeat (first | exact Drawn0.refl _ | apply Drawn0.step)⟩
                          · rw [if_neg c26] at H
                            have c26b0 : decide (13 < x10_4) = false := decide_eq_false c26
                            clear c26
                            by_cases c27 : x11_4 = 0
                            · rw [if_pos c27] at H
                              have c27b0 : (x11_4 == 0) = true := beq_iff_eq.mpr c27
                              have c27b1 : (x11_4 != 0) = false := bne_eq_false_iff_eq.mpr c27
                              clear c27
                              have H' := Aside0.mk H
                              clear H
                              go_wp2
                              go_meet
                              case rel => exact ⟨_, (true), (by first | rfl | (simp; done) | (simp [*]; done)), H', ⟨by have := HJ2.out; have := HJ5.out; have := HJ9.out; have := HK4.out; first | omega | exact Nat.le_refl _⟩, by repeat (first | exact Drawn0.refl _ | apply Drawn0.step)⟩
                            · rw [if_neg c27] at H
                              have c27b0 : (x11_4 == 0) = false := beq_eq_false_iff_ne.mpr c27
                              have c27b1 : (x11_4 != 0) = true := bne_iff_ne.mpr c27
                              have H' := Aside0.mk H
                              clear H
                              go_wp2
                              go_meet
                              case rel => exact ⟨_, (decide (x11_4 > a1)), (by first | rfl | (simp; done) | (simp [*]; done)), H', ⟨by have := HJ2.out; have := HJ5.out; have := HJ9.out; have := HK4.out; first | omega | exact Nat.le_refl _⟩, by repeat (first | exact Drawn0.refl _ | apply Drawn0.step)⟩
                      case rest =>
                        clear HC24
                        try clear c1
                        try clear p1
                        try clear q1
                        try clear hx1
                        try clear c2
                        try clear p2
                        try clear c4
                        try clear c4b0
                        try clear c5
                        try clear p6
                        try clear c7
                        try clear c7b0
                        try clear c7b1
                        try clear c8
                        try clear c8b0
                        try clear c8b1
                        try clear c9
                        try clear p9
                        try clear q9
                        try clear hx9
                        try clear qi9
                        try clear c11
                        try clear c12
                        try clear c12b0
                        try clear c13
                        try clear c13b0
                        try clear c14
                        try clear p14
                        try clear q14
                        try clear hx14
                        try clear c16
                        try clear c16b0
                        try clear c16b1
                        try clear c17
                        try clear c19
                        try clear c19b0
                        try clear c20
                        try clear c21
                        try clear c21b0
                        try clear c22
                        try clear c22b0
                        try clear c23
                        try clear c23b0
                        try clear c25
                        try clear c25b0
                        try clear c26
                        try clear c26b0
                        try clear c27
                        try clear c27b0
                        try clear c27b1
                        try clear p1
                        try clear p14
                        try clear p2
                        try clear p6
                        try clear p9
                        try clear q1
                        try clear q14
                        try clear q9
                        obtain ⟨kq, x78_23, rfl, HA, HJ23, ⟨mc23, rfl⟩⟩ := hcut
                        cases kq with
                        | zero => exact absurd HA.out (by simp [jitneyref03_Read.j6])
                        | succ kj23 =>
                          have H := HA.out
                          clear HA
                          simp only [jitneyref03_Read.j6] at H
                          by_cases c28 : x78_23 = true
                          · subst c28
                            have H1 : (some (0, 21)) = some (r1, r2) := by rw [if_pos rfl] at H; exact H
                            clear H
                            have H := H1
                            clear H1
                            simp only [Option.some.injEq, Prod.mk.injEq] at H
                            obtain ⟨rfl, rfl⟩ := H
                            go_wp2
                            go_ret2
                            exact ⟨by first | rfl | (simp; done) | (simp [*]; done), by repeat (first | exact Drawn0.refl _ | apply Drawn0.step)⟩
                          · replace c28 := Bool.eq_false_iff.mpr c28
                            subst c28
                            have H1 : (if x11_4 < 0 then (jitneyref03_Read.j7 kj23 a1 x7_5 x8_4 x9_4 0) else (jitneyref03_Read.j7 kj23 a1 x7_5 x8_4 x9_4 x11_4)) = some (r1, r2) := by rw [if_neg (show ¬ (false = true) by decide)] at H; exact H
                            clear H
                            have H := H1
                            clear H1
                            have HC29 := Aside0.mk H
                            clear H
                            go_upto_if 80 with (fail)
                            go_cut [11] (fun v11 wc => ∃ (kq : Nat) (x11_28 : Int), v11 = .int .i64 x11_28 ∧ Aside0 (jitneyref03_Read.j7 kq a1 x7_5 x8_4 x9_4 x11_28 = some (r1, r2)) ∧ Aside0 (kq ≤ kj23) ∧ Drawn0 w wc)
                            case first =>
                              have H := HC29.out
                              clear HC29
                              by_cases c30 : x11_4 < 0
                              · rw [if_pos c30] at H
                                have c30b0 : decide (x11_4 < 0) = true := decide_eq_true c30
                                clear c30
                                (first | rw [c30b0] | (simp only [i64_w, i32_w]; rw [c30b0]) | skip)
                                have H' := Aside0.mk H
                                clear H
                                go_wp2
                                go_meet
                                case rel => exact ⟨_, (0), (by first | rfl | (simp; done) | (simp [*]; done)), H', ⟨by have := HJ2.out; have := HJ5.out; have := HJ9.out; have := HK4.out; have := HJ23.out; first | omega | exact Nat.le_refl _⟩, by repeat (first | exact Drawn0.refl _ | apply Drawn0.step)⟩
                              · rw [if_neg c30] at H
                                have c30b0 : decide (x11_4 < 0) = false := decide_eq_false c30
                                clear c30
                                (first | rw [c30b0] | (simp only [i64_w, i32_w]; rw [c30b0]) | skip)
                                have H' := Aside0.mk H
                                clear H
                                go_wp2
                                go_meet
                                case rel => exact ⟨_, (x11_4), (by first | rfl | (simp; done) | (simp [*]; done)), H', ⟨by have := HJ2.out; have := HJ5.out; have := HJ9.out; have := HK4.out; have := HJ23.out; first | omega | exact Nat.le_refl _⟩, by repeat (first | exact Drawn0.refl _ | apply Drawn0.step)⟩
                            case rest =>
                              clear HC29
                              try clear c1
                              try clear p1
                              try clear q1
                              try clear hx1
                              try clear c2
                              try clear p2
                              try clear c3
                              try clear c4
                              try clear c4b0
                              try clear c5
                              try clear p6
                              try clear c7
                              try clear c7b0
                              try clear c7b1
                              try clear c8
                              try clear c8b0
                              try clear c8b1
                              try clear c9
                              try clear p9
                              try clear q9
                              try clear hx9
                              try clear qi9
                              try clear c11
                              try clear c12
                              try clear c12b0
                              try clear c13
                              try clear c13b0
                              try clear c14
                              try clear p14
                              try clear q14
                              try clear hx14
                              try clear c16
                              try clear c16b0
                              try clear c16b1
                              try clear c17
                              try clear c19
                              try clear c19b0
                              try clear c20
                              try clear c21
                              try clear c21b0
                              try clear c22
                              try clear c22b0
                              try clear c23
                              try clear c23b0
                              try clear c25
                              try clear c25b0
                              try clear c26
                              try clear c26b0
                              try clear c27
                              try clear c27b0
                              try clear c27b1
                              try clear c28
                              try clear c30
                              try clear c30b0
                              try clear p1
                              try clear p14
                              try clear p2
                              try clear p6
                              try clear p9
                              try clear q1
                              try clear q14
                              try clear q9
                              obtain ⟨kq, x11_28, rfl, HA, HJ28, ⟨mc28, rfl⟩⟩ := hcut
                              cases kq with
                              | zero => exact absurd HA.out (by simp [jitneyref03_Read.j7])
                              | succ kj28 =>
                                have H := HA.out
                                clear HA
                                simp only [jitneyref03_Read.j7] at H
                                have H' := Aside0.mk H
                                clear H
                                go_wp2
                                go_loopg [8, 9, 13] kj28 (fun kq v8 v9 v13 w' => ∃ (x8_7 : Int) (x9_7 : Bool) (x13_7 : Int), v8 = .int .i64 x8_7 ∧ v9 = .bool x9_7 ∧ v13 = .int .i64 x13_7 ∧ Aside0 (jitneyref03_Read.l1 kq a1 x7_5 x8_7 x9_7 x13_7 = some (r1, r2)) ∧ Aside0 (kq ≤ kj28) ∧ Drawn0 w w')
                                case atStart => exact ⟨(x8_4), (x9_4), (x11_28), (by first | rfl | (simp; done) | (simp [*]; done)), (by first | rfl | (simp; done) | (simp [*]; done)), (by first | rfl | (simp; done) | (simp [*]; done)), H', ⟨Nat.le_refl _⟩, by repeat (first | exact Drawn0.refl _ | apply Drawn0.step)⟩
                                case round =>
                                  clear H'
                                  try clear c1
                                  try clear p1
                                  try clear q1
                                  try clear hx1
                                  try clear c2
                                  try clear p2
                                  try clear c3
                                  try clear c4
                                  try clear c4b0
                                  try clear c5
                                  try clear p6
                                  try clear c7
                                  try clear c7b0
                                  try clear c7b1
                                  try clear c8
                                  try clear c8b0
                                  try clear c8b1
                                  try clear c9
                                  try clear p9
                                  try clear q9
                                  try clear hx9
                                  try clear qi9
                                  try clear c11
                                  try clear c12
                                  try clear c12b0
                                  try clear c13
                                  try clear c13b0
                                  try clear c14
                                  try clear p14
                                  try clear q14
                                  try clear hx14
                                  try clear c16
                                  try clear c16b0
                                  try clear c16b1
                                  try clear c17
                                  try clear c19
                                  try clear c19b0
                                  try clear c20
                                  try clear c21
                                  try clear c21b0
                                  try clear c22
                                  try clear c22b0
                                  try clear c23
                                  try clear c23b0
                                  try clear c25
                                  try clear c25b0
                                  try clear c26
                                  try clear c26b0
                                  try clear c27
                                  try clear c27b0
                                  try clear c27b1
                                  try clear c28
                                  try clear c30
                                  try clear c30b0
                                  try clear p1
                                  try clear p14
                                  try clear p2
                                  try clear p6
                                  try clear p9
                                  try clear q1
                                  try clear q14
                                  try clear q9
                                  obtain ⟨x8_7, x9_7, x13_7, rfl, rfl, rfl, HA, HK7, ⟨m7, rfl⟩⟩ := hrel
                                  cases gk with
                                  | zero => exact absurd HA.out (by simp [jitneyref03_Read.l1])
                                  | succ k7 =>
                                    have H := HA.out
                                    clear HA
                                    simp only [jitneyref03_Read.l1] at H
                                    by_cases c31 : x13_7 < a1
                                    · rw [if_pos c31] at H
                                      have c31b0 : decide (x13_7 < a1) = true := decide_eq_true c31
                                      clear c31
                                      by_cases c32 : (wrap64 (10 * x8_7)) > 2000000000000000
                                      · rw [if_pos c32] at H
                                        have c32b0 : decide (2000000000000000 < (wrap64 (10 * x8_7))) = true := decide_eq_true c32
                                        clear c32
                                        have H' := Aside0.mk H
                                        clear H
                                        go_wp2
                                        go_roundg k7
                                        case measure => have := HJ2.out; have := HJ5.out; have := HJ9.out; have := HK4.out; have := HJ23.out; have := HJ28.out; have := HK7.out; omega
                                        case rel => exact ⟨(2000000000000000), (true), (wrap64 (x13_7 + 1)), (by first | rfl | (simp; done) | (simp [*]; done)), (by first | rfl | (simp; done) | (simp [*]; done)), (by first | rfl | (simp; done) | (simp [*]; done)), H', ⟨by have := HJ2.out; have := HJ5.out; have := HJ9.out; have := HK4.out; have := HJ23.out; have := HJ28.out; have := HK7.out; omega⟩, by repeat (first | exact Drawn0.refl _ | apply Drawn0.step)⟩
                                      · rw [if_neg c32] at H
                                        have c32b0 : decide (2000000000000000 < (wrap64 (10 * x8_7))) = false := decide_eq_false c32
                                        clear c32
                                        have H' := Aside0.mk H
                                        clear H
                                        go_wp2
                                        go_roundg k7
                                        case measure => have := HJ2.out; have := HJ5.out; have := HJ9.out; have := HK4.out; have := HJ23.out; have := HJ28.out; have := HK7.out; omega
                                        case rel => exact ⟨(wrap64 (10 * x8_7)), (x9_7), (wrap64 (x13_7 + 1)), (by first | rfl | (simp; done) | (simp [*]; done)), (by first | rfl | (simp; done) | (simp [*]; done)), (by first | rfl | (simp; done) | (simp [*]; done)), H', ⟨by have := HJ2.out; have := HJ5.out; have := HJ9.out; have := HK4.out; have := HJ23.out; have := HJ28.out; have := HK7.out; omega⟩, by repeat (first | exact Drawn0.refl _ | apply Drawn0.step)⟩
                                    · rw [if_neg c31] at H
                                      have c31b0 : decide (x13_7 < a1) = false := decide_eq_false c31
                                      clear c31
                                      by_cases c33 : x7_5 = true
                                      · subst c33
                                        have H1 : (if x9_7 = true then (some (0, 23)) else (if (wrap64 (-x8_7)) < (-1099511627776) then (some (0, 23)) else (if (wrap64 (-x8_7)) > 1099511627776 then (some (0, 23)) else (some (wrap64 (-x8_7), 0))))) = some (r1, r2) := by rw [if_pos rfl] at H; exact H
                                        clear H
                                        have H := H1
                                        clear H1
                                        by_cases c34 : x9_7 = true
                                        · subst c34
                                          have H1 : (some (0, 23)) = some (r1, r2) := by rw [if_pos rfl] at H; exact H
                                          clear H
                                          have H := H1
                                          clear H1
                                          simp only [Option.some.injEq, Prod.mk.injEq] at H
                                          obtain ⟨rfl, rfl⟩ := H
                                          go_wp2
                                          go_ret2
                                          exact ⟨by first | rfl | (simp; done) | (simp [*]; done), by repeat (first | exact Drawn0.refl _ | apply Drawn0.step)⟩
                                        · replace c34 := Bool.eq_false_iff.mpr c34
                                          subst c34
                                          have H1 : (if (wrap64 (-x8_7)) < (-1099511627776) then (some (0, 23)) else (if (wrap64 (-x8_7)) > 1099511627776 then (some (0, 23)) else (some (wrap64 (-x8_7), 0)))) = some (r1, r2) := by rw [if_neg (show ¬ (false = true) by decide)] at H; exact H
                                          clear H
                                          have H := H1
                                          clear H1
                                          by_cases c35 : (wrap64 (-x8_7)) < (-1099511627776)
                                          · rw [if_pos c35] at H
                                            have c35b0 : decide ((wrap64 (-x8_7)) < (-1099511627776)) = true := decide_eq_true c35
                                            clear c35
                                            simp only [Option.some.injEq, Prod.mk.injEq] at H
                                            obtain ⟨rfl, rfl⟩ := H
                                            go_wp2
                                            go_ret2
                                            exact ⟨by first | rfl | (simp; done) | (simp [*]; done), by repeat (first | exact Drawn0.refl _ | apply Drawn0.step)⟩
                                          · rw [if_neg c35] at H
                                            have c35b0 : decide ((wrap64 (-x8_7)) < (-1099511627776)) = false := decide_eq_false c35
                                            clear c35
                                            by_cases c36 : (wrap64 (-x8_7)) > 1099511627776
                                            · rw [if_pos c36] at H
                                              have c36b0 : decide (1099511627776 < (wrap64 (-x8_7))) = true := decide_eq_true c36
                                              clear c36
                                              simp only [Option.some.injEq, Prod.mk.injEq] at H
                                              obtain ⟨rfl, rfl⟩ := H
                                              go_wp2
                                              go_ret2
                                              exact ⟨by first | rfl | (simp; done) | (simp [*]; done), by repeat (first | exact Drawn0.refl _ | apply Drawn0.step)⟩
                                            · rw [if_neg c36] at H
                                              have c36b0 : decide (1099511627776 < (wrap64 (-x8_7))) = false := decide_eq_false c36
                                              clear c36
                                              simp only [Option.some.injEq, Prod.mk.injEq] at H
                                              obtain ⟨rfl, rfl⟩ := H
                                              go_wp2
                                              go_ret2
                                              exact ⟨by first | rfl | (simp; done) | (simp [*]; done), by repeat (first | exact Drawn0.refl _ | apply Drawn0.step)⟩
                                      · replace c33 := Bool.eq_false_iff.mpr c33
                                        subst c33
                                        have H1 : (if x9_7 = true then (some (0, 23)) else (if x8_7 < (-1099511627776) then (some (0, 23)) else (if x8_7 > 1099511627776 then (some (0, 23)) else (some (x8_7, 0))))) = some (r1, r2) := by rw [if_neg (show ¬ (false = true) by decide)] at H; exact H
                                        clear H
                                        have H := H1
                                        clear H1
                                        by_cases c37 : x9_7 = true
                                        · subst c37
                                          have H1 : (some (0, 23)) = some (r1, r2) := by rw [if_pos rfl] at H; exact H
                                          clear H
                                          have H := H1
                                          clear H1
                                          simp only [Option.some.injEq, Prod.mk.injEq] at H
                                          obtain ⟨rfl, rfl⟩ := H
                                          go_wp2
                                          go_ret2
                                          exact ⟨by first | rfl | (simp; done) | (simp [*]; done), by repeat (first | exact Drawn0.refl _ | apply Drawn0.step)⟩
                                        · replace c37 := Bool.eq_false_iff.mpr c37
                                          subst c37
                                          have H1 : (if x8_7 < (-1099511627776) then (some (0, 23)) else (if x8_7 > 1099511627776 then (some (0, 23)) else (some (x8_7, 0)))) = some (r1, r2) := by rw [if_neg (show ¬ (false = true) by decide)] at H; exact H
                                          clear H
                                          have H := H1
                                          clear H1
                                          by_cases c38 : x8_7 < (-1099511627776)
                                          · rw [if_pos c38] at H
                                            have c38b0 : decide (x8_7 < (-1099511627776)) = true := decide_eq_true c38
                                            clear c38
                                            simp only [Option.some.injEq, Prod.mk.injEq] at H
                                            obtain ⟨rfl, rfl⟩ := H
                                            go_wp2
                                            go_ret2
                                            exact ⟨by first | rfl | (simp; done) | (simp [*]; done), by repeat (first | exact Drawn0.refl _ | apply Drawn0.step)⟩
                                          · rw [if_neg c38] at H
                                            have c38b0 : decide (x8_7 < (-1099511627776)) = false := decide_eq_false c38
                                            clear c38
                                            by_cases c39 : x8_7 > 1099511627776
                                            · rw [if_pos c39] at H
                                              have c39b0 : decide (1099511627776 < x8_7) = true := decide_eq_true c39
                                              clear c39
                                              simp only [Option.some.injEq, Prod.mk.injEq] at H
                                              obtain ⟨rfl, rfl⟩ := H
                                              go_wp2
                                              go_ret2
                                              exact ⟨by first | rfl | (simp; done) | (simp [*]; done), by repeat (first | exact Drawn0.refl _ | apply Drawn0.step)⟩
                                            · rw [if_neg c39] at H
                                              have c39b0 : decide (1099511627776 < x8_7) = false := decide_eq_false c39
                                              clear c39
                                              simp only [Option.some.injEq, Prod.mk.injEq] at H
                                              obtain ⟨rfl, rfl⟩ := H
                                              go_wp2
                                              go_ret2
                                              exact ⟨by first | rfl | (simp; done) | (simp [*]; done), by repeat (first | exact Drawn0.refl _ | apply Drawn0.step)⟩

end Go.Proofs.YtcdmndhaeiccoaaGreatDoor.P
