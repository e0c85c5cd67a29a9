/- P14 Bytes of a text one by one; digits, values, powers, products: what the printed functions tell. A decimal is read: what the program tells, and what the document's loop tells, are one plain function. The document's loop over a decimal tells what the program tells. -/
import Derived.Test.YtcdmndhaeiccoaaGreatDoorMkit
import Derived.Test.YtcdmndhaeiccoaaGreatDoorM00
import Derived.Test.YtcdmndhaeiccoaaGreatDoorM04
import Derived.Lib.TrimByte
import Derived.Lib.ItoaNum
import Derived.Test.YtcdmndhaeiccoaaGreatDoorM01
import Derived.Test.YtcdmndhaeiccoaaGreatDoorM02
import Derived.Test.YtcdmndhaeiccoaaGreatDoorM03
namespace Go.Proofs.YtcdmndhaeiccoaaGreatDoor.P
open Go.Proofs.YtcdmndhaeiccoaaGreatDoorR
open Go.RowKit Go.Proofs.YtcdmndhaeiccoaaGreatDoorW.PrintWords Go.Proofs.YtcdmndhaeiccoaaGreatDoorW.PrintLast
attribute [local go_sem] max2_int min2_int max_two min_two   -- for this text's walks alone
set_option linter.unusedVariables false
set_option linter.unusedSimpArgs false

/-! ### jitneyref03_Whole: function 41 -/
def jitneyref03_Whole.f (k : Nat) (a0 : ByteArray) : Option (Int × Int) := if a0.toList = ([] : List UInt8) then (some (0, 21)) else (if 0 < (a0.size : Int) then (if (bt a0 0) = 45 then (some (0, 21)) else (if (a0.size : Int) > 1 then (if (bt a0 0) = 48 then (some (0, 21)) else ((jitneyref03_Read.f k a0 0).bind fun bt201 => (some (bt201.1, bt201.2)))) else ((jitneyref03_Read.f k a0 0).bind fun bt203 => (some (bt203.1, bt203.2))))) else (none))
set_option maxHeartbeats 8000000 in
set_option maxRecDepth 100000 in
theorem jitneyref03_Whole.calls (k : Nat) (a0 : ByteArray) (r1 : Int) (r2 : Int) (w : World) (h : jitneyref03_Whole.f k a0 = some (r1, r2)) :
    Calls Tryz.prog 41 #[.string a0] w fun e w' => e = .returned (.tuple #[.int .i64 r1, .int .i64 r2]) ∧ Drawn0 w w' := by
  have H : (if a0.toList = ([] : List UInt8) then (some (0, 21)) else (if 0 < (a0.size : Int) then (if (bt a0 0) = 45 then (some (0, 21)) else (if (a0.size : Int) > 1 then (if (bt a0 0) = 48 then (some (0, 21)) else ((jitneyref03_Read.f k a0 0).bind fun bt201 => (some (bt201.1, bt201.2)))) else ((jitneyref03_Read.f k a0 0).bind fun bt203 => (some (bt203.1, bt203.2))))) else (none))) = some (r1, r2) := h
  clear h
  by_cases c2 : a0.toList = ([] : List UInt8)
  · rw [if_pos c2] at H
    have c2b0 : (a0.toList == ([] : List UInt8)) = true := beq_iff_eq.mpr c2
    have c2b1 : (a0.toList != ([] : List UInt8)) = false := bne_eq_false_iff_eq.mpr c2
    clear c2
    simp only [Option.some.injEq, Prod.mk.injEq] at H
    obtain ⟨rfl, rfl⟩ := H
    go_enter Tryz.func41, Tryz.ntmps41
    go_wp2
    go_ret2
    exact ⟨by first | rfl | (simp; done) | (simp [*]; done), by repeat (first | exact Drawn0.refl _ | apply Drawn0.step)⟩
  · rw [if_neg c2] at H
    have c2b0 : (a0.toList == ([] : List UInt8)) = false := beq_eq_false_iff_ne.mpr c2
    have c2b1 : (a0.toList != ([] : List UInt8)) = true := bne_iff_ne.mpr c2
    by_cases c3 : 0 < (a0.size : Int)
    · rw [if_pos c3] at H
      have c3b0 : decide (0 < (a0.size : Int)) = true := decide_eq_true c3
      have c3b1 : decide (0 < a0.size) = true := decide_eq_true (by omega)
      clear c3
      by_cases c5 : (bt a0 0) = 45
      · rw [if_pos c5] at H
        have c5b0 : ((bt a0 0) == 45) = true := beq_iff_eq.mpr c5
        have c5b1 : ((bt a0 0) != 45) = false := bne_eq_false_iff_eq.mpr c5
        clear c5
        simp only [Option.some.injEq, Prod.mk.injEq] at H
        obtain ⟨rfl, rfl⟩ := H
        have p4 : 0 ≤ (0 : Int) := (by omega)
        have q4 : 0 < a0.size := (by have : (0 : Int) < (a0.size : Int) := of_decide_eq_true (by first | (with_reducible assumption) | assumption); omega)
        have hx4 : ∀ h : 0 < a0.size, ((a0[0]'h).toNat : Int) = bt a0 0 := bt_at a0 0
        clear p4
        have qi4 : (0 < (a0.size : Int)) = True := eq_true (of_decide_eq_true (by first | (with_reducible assumption) | assumption))
        replace q4 := eq_true q4
        go_enter Tryz.func41, Tryz.ntmps41
        go_wp2
        go_ret2
        exact ⟨by first | rfl | (simp; done) | (simp [*]; done), by repeat (first | exact Drawn0.refl _ | apply Drawn0.step)⟩
      · rw [if_neg c5] at H
        have c5b0 : ((bt a0 0) == 45) = false := beq_eq_false_iff_ne.mpr c5
        have c5b1 : ((bt a0 0) != 45) = true := bne_iff_ne.mpr c5
        by_cases c6 : (a0.size : Int) > 1
        · rw [if_pos c6] at H
          have c6b0 : decide (1 < (a0.size : Int)) = true := decide_eq_true c6
          have c6b1 : decide (1 < a0.size) = true := decide_eq_true (by omega)
          clear c6
          by_cases c8 : (bt a0 0) = 48
          · rw [if_pos c8] at H
            have c8b0 : ((bt a0 0) == 48) = true := beq_iff_eq.mpr c8
            have c8b1 : ((bt a0 0) != 48) = false := bne_eq_false_iff_eq.mpr c8
            clear c8
            simp only [Option.some.injEq, Prod.mk.injEq] at H
            obtain ⟨rfl, rfl⟩ := H
            have p4 : 0 ≤ (0 : Int) := (by omega)
            have q4 : 0 < a0.size := (by have : (0 : Int) < (a0.size : Int) := of_decide_eq_true (by first | (with_reducible assumption) | assumption); omega)
            have hx4 : ∀ h : 0 < a0.size, ((a0[0]'h).toNat : Int) = bt a0 0 := bt_at a0 0
            clear p4
            have qi4 : (0 < (a0.size : Int)) = True := eq_true (of_decide_eq_true (by first | (with_reducible assumption) | assumption))
            replace q4 := eq_true q4
            have p7 : 0 ≤ (0 : Int) := (by omega)
            have q7 : 0 < a0.size := (by have : (0 : Int) < (a0.size : Int) := of_decide_eq_true (by first | (with_reducible assumption) | assumption); omega)
            have hx7 : ∀ h : 0 < a0.size, ((a0[0]'h).toNat : Int) = bt a0 0 := bt_at a0 0
            clear p7
            have qi7 : (0 < (a0.size : Int)) = True := eq_true (of_decide_eq_true (by first | (with_reducible assumption) | assumption))
            replace q7 := eq_true q7
            go_enter Tryz.func41, Tryz.ntmps41
            go_wp2
            go_ret2
            exact ⟨by first | rfl | (simp; done) | (simp [*]; done), by repeat (first | exact Drawn0.refl _ | apply Drawn0.step)⟩
          · rw [if_neg c8] at H
            have c8b0 : ((bt a0 0) == 48) = false := beq_eq_false_iff_ne.mpr c8
            have c8b1 : ((bt a0 0) != 48) = true := bne_iff_ne.mpr c8
            replace H := Option.bind_eq_some_iff.mp H
            obtain ⟨⟨t201, t202⟩, A90, H⟩ := H
            replace H : (some (t201, t202)) = some (r1, r2) := H
            have A9 := Aside0.mk A90
            clear A90
            simp only [Option.some.injEq, Prod.mk.injEq] at H
            obtain ⟨rfl, rfl⟩ := H
            have p4 : 0 ≤ (0 : Int) := (by omega)
            have q4 : 0 < a0.size := (by have : (0 : Int) < (a0.size : Int) := of_decide_eq_true (by first | (with_reducible assumption) | assumption); omega)
            have hx4 : ∀ h : 0 < a0.size, ((a0[0]'h).toNat : Int) = bt a0 0 := bt_at a0 0
            clear p4
            have qi4 : (0 < (a0.size : Int)) = True := eq_true (of_decide_eq_true (by first | (with_reducible assumption) | assumption))
            replace q4 := eq_true q4
            have p7 : 0 ≤ (0 : Int) := (by omega)
            have q7 : 0 < a0.size := (by have : (0 : Int) < (a0.size : Int) := of_decide_eq_true (by first | (with_reducible assumption) | assumption); omega)
            have hx7 : ∀ h : 0 < a0.size, ((a0[0]'h).toNat : Int) = bt a0 0 := bt_at a0 0
            clear p7
            have qi7 : (0 < (a0.size : Int)) = True := eq_true (of_decide_eq_true (by first | (with_reducible assumption) | assumption))
            replace q7 := eq_true q7
            go_enter Tryz.func41, Tryz.ntmps41
            go_wp2_with (first | ((with_reducible refine gate_callee (f := 78) rfl ?_); refine goesL_ (some 25) rfl rfl Tryz.func78 (by kernel_rfl) rfl #[.string a0, .int .i64 0] rfl (by (try simp only [List.map_toArray, List.map_cons, List.map_nil]); first | done | rfl | (simp only [List.length_drop, List.length_take]; rfl)) ?_; (with_reducible refine (jitneyref03_Read.calls k a0 0 t201 t202 _ A9.out).mono ?_); rintro e w' ⟨rfl, ⟨nd, rfl⟩⟩; refine ⟨_, rfl, ?_⟩))
            go_ret2
            exact ⟨by first | rfl | (simp; done) | (simp [*]; done), by repeat (first | exact Drawn0.refl _ | apply Drawn0.step)⟩
        · rw [if_neg c6] at H
          have c6b0 : decide (1 < (a0.size : Int)) = false := decide_eq_false c6
          have c6b1 : decide (1 < a0.size) = false := decide_eq_false (by omega)
          clear c6
          replace H := Option.bind_eq_some_iff.mp H
          obtain ⟨⟨t203, t204⟩, A100, H⟩ := H
          replace H : (some (t203, t204)) = some (r1, r2) := H
          have A10 := Aside0.mk A100
          clear A100
          simp only [Option.some.injEq, Prod.mk.injEq] at H
          obtain ⟨rfl, rfl⟩ := H
          have p4 : 0 ≤ (0 : Int) := (by omega)
          have q4 : 0 < a0.size := (by have : (0 : Int) < (a0.size : Int) := of_decide_eq_true (by first | (with_reducible assumption) | assumption); omega)
          have hx4 : ∀ h : 0 < a0.size, ((a0[0]'h).toNat : Int) = bt a0 0 := bt_at a0 0
          clear p4
          have qi4 : (0 < (a0.size : Int)) = True := eq_true (of_decide_eq_true (by first | (with_reducible assumption) | assumption))
          replace q4 := eq_true q4
          go_enter Tryz.func41, Tryz.ntmps41
          go_wp2_with (first | ((with_reducible refine gate_callee (f := 78) rfl ?_); refine goesL_ (some 25) rfl rfl Tryz.func78 (by kernel_rfl) rfl #[.string a0, .int .i64 0] rfl (by (try simp only [List.map_toArray, List.map_cons, List.map_nil]); first | done | rfl | (simp only [List.length_drop, List.length_take]; rfl)) ?_; (with_reducible refine (jitneyref03_Read.calls k a0 0 t203 t204 _ A10.out).mono ?_); rintro e w' ⟨rfl, ⟨nd, rfl⟩⟩; refine ⟨_, rfl, ?_⟩))
          go_ret2
          exact ⟨by first | rfl | (simp; done) | (simp [*]; done), by repeat (first | exact Drawn0.refl _ | apply Drawn0.step)⟩
    · rw [if_neg c3] at H
      exact absurd H (by simp)

end Go.Proofs.YtcdmndhaeiccoaaGreatDoor.P
namespace Go.Proofs.YtcdmndhaeiccoaaGreatDoor.P
open Go.Proofs.YtcdmndhaeiccoaaGreatDoorR
open Go.RowKit Go.Proofs.YtcdmndhaeiccoaaGreatDoorW.PrintWords Go.Proofs.YtcdmndhaeiccoaaGreatDoorW.PrintLast
def ok64 (a : Int) : Bool := decide (-1152921504606846976 ≤ a ∧ a ≤ 1152921504606846976)
theorem ok64_iff (a : Int) : ok64 a = true ↔ (-1152921504606846976 ≤ a ∧ a ≤ 1152921504606846976) := by unfold ok64; rw [decide_eq_true_eq]
theorem may_is (a : Int) : num_may.f a = some (ok64 a) := by
  unfold num_may.f ok64
  split
  · simp only [Option.some.injEq, decide_eq_decide]; omega
  · symm; simp only [Option.some.injEq, decide_eq_false_iff_not]; omega
theorem wrap_id {x : Int} (h0 : -9223372036854775808 ≤ x) (h1 : x ≤ 9223372036854775807) : wrap64 x = x := by
  unfold wrap64
  omega
theorem and32 (n : Int) (h0 : 0 ≤ n) (h1 : n < 18446744073709551616) : Go.bits .and .u64 n 4294967295 = n % 4294967296 := by
  have hm : (BitVec.ofInt 64 4294967295).toNat = 2 ^ 32 - 1 := by decide
  have key : (BitVec.ofInt 64 n &&& BitVec.ofInt 64 4294967295).toNat = (n % ((2 ^ 64 : Nat) : Int)).toNat % 2 ^ 32 := by
    rw [BitVec.toNat_and, BitVec.toNat_ofInt, hm, Nat.and_two_pow_sub_one_eq_mod]
  show IntKind.u64.wrap ((BitVec.ofInt 64 n &&& BitVec.ofInt 64 4294967295).toNat : Nat) = n % 4294967296
  rw [key]
  show ((((n % ((2 ^ 64 : Nat) : Int)).toNat % 2 ^ 32 : Nat) : Int) % 18446744073709551616) = _
  omega
theorem u64_wrap (n : Int) : IntKind.u64.wrap n = n % 18446744073709551616 := rfl
theorem mul64_is (x y : Int) (x0 : 0 ≤ x) (x1 : x ≤ 1152921504606846976) (y0 : 0 ≤ y) (y1 : y ≤ 1152921504606846976) : bits_Mul64.f x y = some (x * y / 18446744073709551616, x * y % 18446744073709551616) := by
  obtain ⟨p, hp⟩ : ∃ p, p = x / 4294967296 := ⟨_, rfl⟩
  obtain ⟨q, hq⟩ : ∃ q, q = x % 4294967296 := ⟨_, rfl⟩
  obtain ⟨r, hr⟩ : ∃ r, r = y / 4294967296 := ⟨_, rfl⟩
  obtain ⟨s, hs⟩ : ∃ s, s = y % 4294967296 := ⟨_, rfl⟩
  have hA : 0 ≤ p * r ∧ p * r ≤ 268435456 * 268435456 := ⟨Int.mul_nonneg (by omega) (by omega), Int.mul_le_mul (by omega) (by omega) (by omega) (by omega)⟩
  have hB : 0 ≤ p * s ∧ p * s ≤ 268435456 * 4294967295 := ⟨Int.mul_nonneg (by omega) (by omega), Int.mul_le_mul (by omega) (by omega) (by omega) (by omega)⟩
  have hC : 0 ≤ q * r ∧ q * r ≤ 4294967295 * 268435456 := ⟨Int.mul_nonneg (by omega) (by omega), Int.mul_le_mul (by omega) (by omega) (by omega) (by omega)⟩
  have hD : 0 ≤ q * s ∧ q * s ≤ 4294967295 * 4294967295 := ⟨Int.mul_nonneg (by omega) (by omega), Int.mul_le_mul (by omega) (by omega) (by omega) (by omega)⟩
  have hxy : x * y = p * r * 18446744073709551616 + (p * s + q * r) * 4294967296 + q * s := by
    rw [show x = p * 4294967296 + q by omega, show y = r * 4294967296 + s by omega]
    simp only [Int.add_mul, Int.mul_add]
    have e1 : p * 4294967296 * (r * 4294967296) = p * r * 18446744073709551616 := by
      rw [Int.mul_assoc, Int.mul_left_comm 4294967296, ← Int.mul_assoc]
      rfl
    have e2 : p * 4294967296 * s = p * s * 4294967296 := by rw [Int.mul_right_comm]
    have e3 : q * (r * 4294967296) = q * r * 4294967296 := by rw [Int.mul_assoc]
    omega
  obtain ⟨t, ht⟩ : ∃ t, t = p * s + q * s / 4294967296 := ⟨_, rfl⟩
  unfold bits_Mul64.f
  rw [and32 x x0 (by omega), and32 y y0 (by omega), ← hp, ← hq, ← hr, ← hs]
  simp only [u64_wrap]
  rw [Int.emod_eq_of_lt (a := p * r) hA.1 (by omega), Int.emod_eq_of_lt (a := p * s) hB.1 (by omega), Int.emod_eq_of_lt (a := q * s) hD.1 (by omega), Int.emod_eq_of_lt (a := q * r) hC.1 (by omega), Int.emod_eq_of_lt (a := p * s + q * s / 4294967296) (by omega) (by omega), ← ht, and32 t (by omega) (by omega), hxy]
  congr 1
  congr 1
  omega
theorem size_is (a : Int) (h : ok64 a = true) : num_size.f a = some (if a < 0 then -a else a) := by
  rw [ok64_iff] at h
  unfold num_size.f
  split
  · rw [wrap_id (by omega) (by omega), u64_wrap, Int.emod_eq_of_lt (by omega) (by omega)]
  · rw [u64_wrap, Int.emod_eq_of_lt (by omega) (by omega)]
theorem ok_mul {x y z : Int} (h : z = x * y ∨ z = -(x * y)) (hz : 0 ≤ x * y) : ok64 z = decide (x * y ≤ 1152921504606846976) := by
  unfold ok64
  rw [decide_eq_decide]
  omega
theorem abs_mul (a b : Int) : (decide (a < 0) != decide (b < 0)) = true ∧ a * b = -((if a < 0 then -a else a) * (if b < 0 then -b else b)) ∨ (decide (a < 0) != decide (b < 0)) = false ∧ a * b = (if a < 0 then -a else a) * (if b < 0 then -b else b) := by
  by_cases ha : a < 0 <;> by_cases hb : b < 0
  · right; simp only [ha, hb, if_true, decide_true, bne_self_eq_false, Int.neg_mul_neg]; exact ⟨trivial, trivial⟩
  · left; simp only [ha, hb, if_true, if_false, decide_true, decide_false]; exact ⟨by decide, by rw [Int.neg_mul, Int.neg_neg]⟩
  · left; simp only [ha, hb, if_true, if_false, decide_true, decide_false]; exact ⟨by decide, by rw [Int.mul_neg, Int.neg_neg]⟩
  · right; simp only [ha, hb, if_false, decide_false, bne_self_eq_false]; exact ⟨trivial, trivial⟩
theorem mul_is (k : Nat) (a b : Int) : num_Mul.f (k + 2) a b = some (if (ok64 a && ok64 b && ok64 (a * b)) = true then (a * b, true) else (0, false)) := by
  unfold num_Mul.f
  simp only [may_is, Option.bind_some]
  cases ha : ok64 a
  · simp [num_Mul.j0]
  cases hb : ok64 b
  · simp [num_Mul.j0]
  simp only [Bool.and_self, Bool.true_and, if_true, Bool.not_true, num_Mul.j0, Bool.false_eq_true, if_false]
  rw [size_is a ha, size_is b hb]
  rw [ok64_iff] at ha hb
  have key := abs_mul a b
  obtain ⟨x, hx⟩ : ∃ x, x = if a < 0 then -a else a := ⟨_, rfl⟩
  obtain ⟨y, hy⟩ : ∃ y, y = if b < 0 then -b else b := ⟨_, rfl⟩
  have x0 : 0 ≤ x ∧ x ≤ 1152921504606846976 := by rw [hx]; split <;> omega
  have y0 : 0 ≤ y ∧ y ≤ 1152921504606846976 := by rw [hy]; split <;> omega
  rw [← hx, ← hy] at key ⊢
  simp only [Option.bind_some]
  rw [mul64_is x y x0.1 x0.2 y0.1 y0.2]
  have hz : 0 ≤ x * y := Int.mul_nonneg x0.1 y0.1
  have hok : ok64 (a * b) = decide (x * y ≤ 1152921504606846976) := ok_mul (key.elim (fun h => .inr h.2) (fun h => .inl h.2)) hz
  rw [hok]
  simp only [Option.bind_some]
  by_cases c : x * y ≤ 1152921504606846976
  · have e0 : x * y / 18446744073709551616 = 0 := by omega
    have e1 : x * y % 18446744073709551616 = x * y := by omega
    rw [if_pos e0, e1, num_Mul.j1]
    have c1 : decide (x * y > 1152921504606846976) = false := by simp; omega
    have c2 : decide (x * y ≤ 1152921504606846976) = true := by simp [c]
    rw [c1, c2, if_neg (by decide), if_pos rfl]
    rcases key with ⟨h1, h2⟩ | ⟨h1, h2⟩
    · rw [h1, if_pos rfl, h2, wrap_id (x := x * y) (by omega) (by omega), wrap_id (by omega) (by omega)]
    · rw [h1, if_neg (by decide), h2, wrap_id (by omega) (by omega)]
  · have c2 : decide (x * y ≤ 1152921504606846976) = false := by simp [c]
    rw [c2, if_neg Bool.false_ne_true]
    by_cases e0 : x * y / 18446744073709551616 = 0
    · have c1 : decide (x * y % 18446744073709551616 > 1152921504606846976) = true := by simp; omega
      rw [if_pos e0, num_Mul.j1, c1, if_pos rfl]
    · rw [if_neg e0, num_Mul.j1, if_pos rfl]
theorem wrap_nat {i : Nat} (hn : i < 1000000000000) : wrap64 ((i : Int) + 1) = ((i + 1 : Nat) : Int) := by
  unfold wrap64
  omega
def mkB (l : List UInt8) : ByteArray := ⟨l.toArray⟩
theorem mkB_data (l : List UInt8) : (mkB l).data.toList = l := by simp [mkB]
theorem mkB_of (a : ByteArray) : mkB a.data.toList = a := Lib.mk_data a
theorem mkB_size (l : List UInt8) : (mkB l).size = l.length := by rw [Lib.size_eq, mkB_data]
theorem bt_drop (a : ByteArray) (i : Nat) (h : i < a.size) : ∃ x, a.data.toList.drop i = x :: a.data.toList.drop (i + 1) ∧ bt a (i : Int) = (x.toNat : Int) := by
  have hl : i < a.data.toList.length := by rw [← Lib.size_eq]; exact h
  refine ⟨a.data.toList[i], List.drop_eq_getElem_cons hl, ?_⟩
  unfold bt
  rw [dif_pos (by omega)]
  rfl
theorem drop_end (a : ByteArray) (i : Nat) (h : i = a.size) : a.data.toList.drop i = [] := List.drop_eq_nil_of_le (by rw [← Lib.size_eq]; omega)

def isDig (b : UInt8) : Bool := decide (48 ≤ b.toNat ∧ b.toNat ≤ 57)
def isChr (b : UInt8) : Bool := decide (33 ≤ b.toNat ∧ b.toNat ≤ 126)
def val (l : List UInt8) : Nat := l.foldl (fun n b => 10 * n + (b.toNat - 48)) 0

theorem digits_loop (a : ByteArray) (most : Int) (hn : a.size ≤ 1000000) : ∀ (d k i : Nat), i + d = a.size → d < k → deci_digits.l0 k a most (a.size : Int) (i : Int) = some ((a.data.toList.drop i).all isDig && (decide (1 ≤ a.size) && decide ((a.size : Int) ≤ most))) := by
  intro d
  induction d with
  | zero =>
    intro k i h hk
    obtain ⟨k, rfl⟩ : ∃ m, k = m + 1 := ⟨k - 1, by omega⟩
    rw [deci_digits.l0, if_neg (by omega), drop_end a i (by omega)]
    by_cases c : 1 ≤ a.size
    · rw [if_pos (by omega)]; simp [c]
    · rw [if_neg (by omega)]; simp [c]
  | succ d ih =>
    intro k i h hk
    obtain ⟨k, rfl⟩ : ∃ m, k = m + 1 := ⟨k - 1, by omega⟩
    obtain ⟨x, hx, hb⟩ := bt_drop a i (by omega)
    rw [deci_digits.l0, if_pos (by omega), if_pos (by omega), if_pos (by omega), hb, hx, wrap_nat (by omega), ih k (i + 1) (by omega) (by omega), List.all_cons]
    by_cases c1 : (x.toNat : Int) < 48
    · have e : isDig x = false := decide_eq_false (by omega)
      rw [if_pos c1, e]; rfl
    · rw [if_neg c1]
      by_cases c2 : (x.toNat : Int) > 57
      · have e : isDig x = false := decide_eq_false (by omega)
        rw [if_pos c2, e]; rfl
      · have e : isDig x = true := decide_eq_true (by omega)
        rw [if_neg c2, e, Bool.true_and]
theorem digits_is (k : Nat) (a : ByteArray) (most : Int) (hn : a.size ≤ 1000000) (hk : a.size < k) : deci_digits.f k a most = some (a.data.toList.all isDig && (decide (1 ≤ a.size) && decide ((a.size : Int) ≤ most))) :=
  digits_loop a most hn a.size k 0 (by omega) hk
theorem word_loop (a : ByteArray) (hn : a.size ≤ 1000000) : ∀ (d k i : Nat), i + d = a.size → d < k → deci_word.l0 k a (a.size : Int) (i : Int) = some ((a.data.toList.drop i).all isChr && decide (a.data.toList ≠ [])) := by
  intro d
  induction d with
  | zero =>
    intro k i h hk
    obtain ⟨k, rfl⟩ : ∃ m, k = m + 1 := ⟨k - 1, by omega⟩
    rw [deci_word.l0, if_neg (by omega), drop_end a i (by omega), Lib.toList_data]
    simp only [List.all_nil, Bool.true_and, Option.some.injEq]
    cases a.data.toList <;> simp
  | succ d ih =>
    intro k i h hk
    obtain ⟨k, rfl⟩ : ∃ m, k = m + 1 := ⟨k - 1, by omega⟩
    obtain ⟨x, hx, hb⟩ := bt_drop a i (by omega)
    rw [deci_word.l0, if_pos (by omega), if_pos (by omega), if_pos (by omega), hb, hx, wrap_nat (by omega), ih k (i + 1) (by omega) (by omega), List.all_cons]
    by_cases c1 : (x.toNat : Int) < 33
    · have e : isChr x = false := decide_eq_false (by omega)
      rw [if_pos c1, e]; rfl
    · rw [if_neg c1]
      by_cases c2 : (x.toNat : Int) > 126
      · have e : isChr x = false := decide_eq_false (by omega)
        rw [if_pos c2, e]; rfl
      · have e : isChr x = true := decide_eq_true (by omega)
        rw [if_neg c2, e, Bool.true_and]
def wordB (l : List UInt8) : Bool := l.all isChr && decide (l ≠ [])
theorem word_is (k : Nat) (a : ByteArray) (hn : a.size ≤ 1000000) (hk : a.size < k) : deci_word.f k a = some (wordB a.data.toList) :=
  word_loop a hn a.size k 0 (by omega) hk
theorem val_cons_from (l : List UInt8) : ∀ n : Nat, l.foldl (fun n b => 10 * n + (b.toNat - 48)) n = n * 10 ^ l.length + val l := by
  induction l with
  | nil => intro n; simp [val]
  | cons x t ih =>
    intro n
    unfold val
    rw [List.foldl_cons, List.foldl_cons, ih, ih (10 * 0 + (x.toNat - 48)), List.length_cons, Nat.pow_succ]
    rw [Nat.add_mul, Nat.add_mul, Nat.mul_comm 10 n, Nat.mul_assoc, Nat.mul_comm 10 (10 ^ t.length)]
    omega
theorem val_append (l m : List UInt8) : val (l ++ m) = val l * 10 ^ m.length + val m := by
  show (l ++ m).foldl _ 0 = _
  rw [List.foldl_append, val_cons_from]
  rfl
theorem val_lt (l : List UInt8) (h : l.all isDig = true) : val l < 10 ^ l.length := by
  induction l with
  | nil => simp [val]
  | cons x t ih =>
    rw [List.all_cons, Bool.and_eq_true] at h
    have hx : x.toNat ≤ 57 := by have := h.1; unfold isDig at this; exact (of_decide_eq_true this).2
    have := ih h.2
    have e : val (x :: t) = (x.toNat - 48) * 10 ^ t.length + val t := by
      show (x :: t).foldl _ 0 = _
      rw [List.foldl_cons, val_cons_from]; simp
    rw [e, List.length_cons, Nat.pow_succ]
    have h9 : (x.toNat - 48) * 10 ^ t.length ≤ 9 * 10 ^ t.length := Nat.mul_le_mul_right _ (by omega)
    omega
theorem value_loop (a : ByteArray) (hd : a.data.toList.all isDig = true) (hn : a.size ≤ 13) : ∀ (d k i : Nat), i + d = a.size → d < k → deci_value.l0 k a (val (a.data.toList.take i) : Int) (a.size : Int) (i : Int) = some (val a.data.toList : Int) := by
  intro d
  induction d with
  | zero =>
    intro k i h hk
    obtain ⟨k, rfl⟩ : ∃ m, k = m + 1 := ⟨k - 1, by omega⟩
    rw [deci_value.l0, if_neg (by omega), List.take_of_length_le (by rw [← Lib.size_eq]; omega)]
  | succ d ih =>
    intro k i h hk
    obtain ⟨k, rfl⟩ : ∃ m, k = m + 1 := ⟨k - 1, by omega⟩
    obtain ⟨x, hx, hb⟩ := bt_drop a i (by omega)
    have hl : i < a.data.toList.length := by rw [← Lib.size_eq]; omega
    have hxe : a.data.toList[i] = x := by rw [List.drop_eq_getElem_cons hl] at hx; exact (List.cons.inj hx).1
    have ht : a.data.toList.take (i + 1) = a.data.toList.take i ++ [x] := by rw [List.take_succ_eq_append_getElem hl, hxe]
    have hdx : isDig x = true := by rw [← hxe]; exact List.all_eq_true.1 hd _ (List.getElem_mem hl)
    have hx2 : 48 ≤ x.toNat ∧ x.toNat ≤ 57 := by unfold isDig at hdx; exact of_decide_eq_true hdx
    have hlt := val_lt (a.data.toList.take i) (List.all_eq_true.2 fun y hy => List.all_eq_true.1 hd y (List.mem_of_mem_take hy))
    have hpow : 10 ^ (a.data.toList.take i).length ≤ 10 ^ 13 := Nat.pow_le_pow_right (by decide) (by rw [List.length_take, ← Lib.size_eq]; omega)
    have hv : val (a.data.toList.take (i + 1)) = 10 * val (a.data.toList.take i) + (x.toNat - 48) := by rw [ht, val_append]; simp [val]; omega
    rw [deci_value.l0, if_pos (by omega), if_pos (by omega), if_pos (by omega), hb, wrap_nat (by omega)]
    have e : wrap64 (wrap64 ((val (a.data.toList.take i) : Int) * 10) + ((x.toNat : Int) - 48) % 256) = (val (a.data.toList.take (i + 1)) : Int) := by
      rw [wrap_id (x := (val (a.data.toList.take i) : Int) * 10) (by omega) (by omega), wrap_id (by omega) (by omega), hv]
      omega
    rw [e]
    exact ih k (i + 1) (by omega) (by omega)
theorem value_is (k : Nat) (a : ByteArray) (hd : a.data.toList.all isDig = true) (hn : a.size ≤ 13) (hk : a.size < k) : deci_value.f k a = some (val a.data.toList : Int) :=
  value_loop a hd hn a.size k 0 (by omega) hk
theorem power_loop (n : Nat) (hn : n ≤ 18) : ∀ (d k i : Nat), i + d = n → d < k → deci_power.l0 k ((10 ^ i : Nat) : Int) (n : Int) (i : Int) = some ((10 ^ n : Nat) : Int) := by
  intro d
  induction d with
  | zero =>
    intro k i h hk
    obtain ⟨k, rfl⟩ : ∃ m, k = m + 1 := ⟨k - 1, by omega⟩
    obtain rfl : i = n := by omega
    rw [deci_power.l0, if_neg (by omega)]
  | succ d ih =>
    intro k i h hk
    obtain ⟨k, rfl⟩ : ∃ m, k = m + 1 := ⟨k - 1, by omega⟩
    have hp : 10 ^ i ≤ 10 ^ 17 := Nat.pow_le_pow_right (by decide) (by omega)
    rw [deci_power.l0, if_pos (by omega), wrap_nat (by omega)]
    have e : wrap64 (((10 ^ i : Nat) : Int) * 10) = ((10 ^ (i + 1) : Nat) : Int) := by
      rw [Nat.pow_succ]
      generalize 10 ^ i = P at hp
      rw [wrap_id (by omega) (by omega)]; omega
    rw [e]
    exact ih k (i + 1) (by omega) (by omega)
theorem power_is (k n : Nat) (hn : n ≤ 18) (hk : n < k) : deci_power.f k (n : Int) = some ((10 ^ n : Nat) : Int) :=
  power_loop n hn n k 0 (by omega) hk
/-! ### decimal digits -/
open Go
abbrev dec (u : Nat) : List UInt8 := Lib.decDigits u
end Go.Proofs.YtcdmndhaeiccoaaGreatDoor.P
namespace Go.Proofs.YtcdmndhaeiccoaaGreatDoor.P
open Go Go.Proofs.YtcdmndhaeiccoaaGreatDoorR
open Go.RowKit Go.Proofs.YtcdmndhaeiccoaaGreatDoorW.PrintWords Go.Proofs.YtcdmndhaeiccoaaGreatDoorW.PrintLast
def spt : List UInt8 → List UInt8 × Option (List UInt8)
  | [] => ([], none)
  | x :: t => if x = 46 then ([], some t) else (x :: (spt t).1, (spt t).2)
theorem spt_index : ∀ l : List UInt8, (Lib.indexByte l 46 = -1 ∧ spt l = (l, none)) ∨ ∃ i : Nat, Lib.indexByte l 46 = i ∧ spt l = (l.take i, some (l.drop (i + 1))) := by
  intro l
  induction l with
  | nil => left; exact ⟨rfl, rfl⟩
  | cons x t ih =>
    by_cases hx : x = 46
    · right
      refine ⟨0, ?_, ?_⟩
      · simp [Lib.indexByte, hx]
      · simp [spt, hx]
    · have hb : (x == 46) = false := beq_eq_false_iff_ne.2 hx
      rcases ih with ⟨h1, h2⟩ | ⟨i, h1, h2⟩
      · left; simp [Lib.indexByte, hb, h1, spt, hx, h2]
      · right
        refine ⟨i + 1, ?_, ?_⟩
        · rw [Lib.indexByte, hb, if_neg (by decide), h1, if_neg (by simp)]; simp
        · simp [spt, hx, h2]
theorem cut_is (a : ByteArray) (ha : a.size < 4294967281) : strings_Cut.f a (⟨#[46]⟩ : ByteArray) = some (mkB (spt a.data.toList).1, mkB ((spt a.data.toList).2.getD []), (spt a.data.toList).2.isSome) := by
  unfold strings_Cut.f
  rw [if_pos ⟨rfl, ha⟩]
  have e : (⟨#[46]⟩ : ByteArray).data.toList = [46] := rfl
  rw [e]
  unfold Lib.cut
  rw [Lib.index_one]
  rcases spt_index a.data.toList with ⟨h1, h2⟩ | ⟨i, h1, h2⟩
  · rw [h1, if_neg (by decide), h2]; rfl
  · rw [h1, if_pos (by omega), h2]
    simp [mkB]
def neg (l : List UInt8) : Bool := l.head? == some 45
def body (l : List UInt8) : List UInt8 := if neg l = true then l.tail else l
theorem hasPrefix_is (a : ByteArray) (c : UInt8) : strings_HasPrefix.f a (⟨#[c]⟩ : ByteArray) = some (a.data.toList.head? == some c) := by
  unfold strings_HasPrefix.f stringslite_HasPrefix.f
  have e1 : ((⟨#[c]⟩ : ByteArray).size : Int) = 1 := rfl
  rw [e1]
  have hs := Lib.size_eq a
  cases hl : a.data.toList with
  | nil =>
    rw [hl] at hs
    have h0 : a.size = 0 := hs
    rw [if_neg (by omega)]; rfl
  | cons x t =>
    rw [hl] at hs
    have h0 : a.size = t.length + 1 := hs
    rw [if_pos (by omega), if_pos (by decide), if_pos (by omega)]
    have e : (a.extract 0 (1 : Int).toNat).toList = [x] := by rw [Lib.toList_data, Lib.extract_data, hl]; rfl
    have e2 : (⟨#[c]⟩ : ByteArray).toList = [c] := by rw [Lib.toList_data]
    rw [e, e2]
    simp
theorem cutPrefix_is (a : ByteArray) : strings_CutPrefix.f a (⟨#[45]⟩ : ByteArray) = some (mkB (body a.data.toList), neg a.data.toList) := by
  have hp : stringslite_HasPrefix.f a (⟨#[45]⟩ : ByteArray) = some (neg a.data.toList) := by
    have h := hasPrefix_is a 45
    unfold strings_HasPrefix.f at h
    cases hh : stringslite_HasPrefix.f a (⟨#[45]⟩ : ByteArray) with
    | none => rw [hh] at h; cases h
    | some v => rw [hh] at h; exact h
  unfold strings_CutPrefix.f stringslite_CutPrefix.f
  rw [hp]
  simp only [Option.bind_some]
  have e1 : ((⟨#[45]⟩ : ByteArray).size : Int) = 1 := rfl
  have hs := Lib.size_eq a
  unfold body
  by_cases hn : neg a.data.toList = true
  · rw [if_pos hn, if_pos hn, e1, hn]
    have hl : 1 ≤ a.data.toList.length := by
      cases hl : a.data.toList with
      | nil => rw [hl] at hn; cases hn
      | cons x t => simp
    rw [if_pos (by decide), if_pos (by omega)]
    simp only [Option.bind_some]
    congr 2
    rw [Lib.extract_eq, mkB]
    congr 2
    show ((a.data.toList.drop 1).take _) = _
    rw [List.take_of_length_le (by rw [List.length_drop]; omega), List.drop_one]
  · have hf : neg a.data.toList = false := by simpa using hn
    rw [if_neg hn, if_neg hn, hf, mkB_of]
    rfl
def okd (l : List UInt8) (m : Nat) : Bool := l.all isDig && (decide (1 ≤ l.length) && decide (l.length ≤ m))
def okp (p : Option (List UInt8)) (s : Nat) : Bool := match p with | none => true | some a => okd a s
def num (l : List UInt8) (s : Nat) : Nat := val (spt (body l)).1 * 10 ^ s + val ((spt (body l)).2.getD []) * 10 ^ (s - ((spt (body l)).2.getD []).length)
def told (b : Bool) (N : Nat) : Int × Int := if N > 1099511627776 then (0, 23) else (if b = true then -(N : Int) else (N : Int), 0)
def readL (l : List UInt8) (scale : Int) : Int × Int :=
  if scale < 0 ∨ scale > 6 then (0, 1) else
  if (okd (spt (body l)).1 13 && okp (spt (body l)).2 scale.toNat) = true then told (neg l) (num l scale.toNat) else (0, 21)
theorem okd_digits (k : Nat) (l : List UInt8) (m : Nat) (hl : l.length ≤ 1000000) (hk : l.length < k) : deci_digits.f k (mkB l) (m : Int) = some (okd l m) := by
  rw [digits_is k (mkB l) m (by rw [mkB_size]; exact hl) (by rw [mkB_size]; exact hk), mkB_data, mkB_size]
  unfold okd
  simp
theorem spt_len (l : List UInt8) : (spt l).1.length ≤ l.length ∧ ((spt l).2.getD []).length ≤ l.length := by
  induction l with
  | nil => simp [spt]
  | cons x t ih =>
    unfold spt
    split
    · simp
    · simp only [List.length_cons]; omega
theorem body_len (l : List UInt8) : (body l).length ≤ l.length := by
  unfold body; split
  · rw [List.length_tail]; omega
  · exact Nat.le_refl _
theorem read_fin (b : Bool) (W F : Nat) (hW : W < 100000000000000000000) (hF : F < 1000000) : (if b = true then (if decide (W ≤ 1152921504606846976) = true then (if (wrap64 (-(wrap64 ((W : Int) + F)))) < (-1099511627776) then (some ((0 : Int), (23 : Int))) else (if (wrap64 (-(wrap64 ((W : Int) + F)))) > 1099511627776 then (some (0, 23)) else (some (wrap64 (-(wrap64 ((W : Int) + F))), 0)))) else (some (0, 23))) else (if decide (W ≤ 1152921504606846976) = true then (if (wrap64 ((W : Int) + F)) < (-1099511627776) then (some (0, 23)) else (if (wrap64 ((W : Int) + F)) > 1099511627776 then (some (0, 23)) else (some (wrap64 ((W : Int) + F), 0)))) else (some (0, 23)))) = some (told b (W + F)) := by
  by_cases c : W ≤ 1152921504606846976
  · rw [decide_eq_true c, if_pos rfl, if_pos rfl, wrap_id (x := (W : Int) + (F : Int)) (by omega) (by omega), wrap_id (x := -((W : Int) + (F : Int))) (by omega) (by omega)]
    unfold told
    cases b
    · rw [if_neg (by decide), if_neg (by omega)]
      by_cases c2 : W + F > 1099511627776
      · rw [if_pos (by omega), if_pos c2]
      · rw [if_neg (by omega), if_neg c2]; simp
    · rw [if_pos rfl, if_neg (show ¬ -((W : Int) + (F : Int)) > 1099511627776 by omega)]
      by_cases c2 : W + F > 1099511627776
      · rw [if_pos (by omega), if_pos c2]
      · rw [if_neg (by omega), if_neg c2]; simp
  · unfold told
    rw [decide_eq_false c, if_pos (show W + F > 1099511627776 by omega)]
    cases b <;> rfl
theorem mul_nat (k V P : Nat) (hV : V ≤ 10000000000000) (hP1 : 1 ≤ P) (hP : P ≤ 1000000) : num_Mul.f (k + 2) (V : Int) (P : Int) = some (if V * P ≤ 1152921504606846976 then (((V * P : Nat) : Int), true) else (0, false)) := by
  rw [mul_is]
  have o1 : ok64 (V : Int) = true := by rw [ok64_iff]; omega
  have o2 : ok64 (P : Int) = true := by rw [ok64_iff]; omega
  have hc : (V : Int) * (P : Int) = ((V * P : Nat) : Int) := (Int.natCast_mul V P).symm
  rw [o1, o2, hc]
  generalize V * P = W
  by_cases c : W ≤ 1152921504606846976
  · have o3 : ok64 (W : Int) = true := by rw [ok64_iff]; omega
    rw [o3, if_pos c]; rfl
  · have o3 : ok64 (W : Int) = false := by
      cases h : ok64 (W : Int) with
      | false => rfl
      | true => rw [ok64_iff] at h; omega
    rw [o3, if_neg c]; rfl
theorem read_j1 (k s : Nat) (hs : s ≤ 6) (hk : 20 ≤ k) (b : Bool) (w f : List UInt8) (hw : okd w 13 = true) (hf : f.all isDig = true ∧ f.length ≤ s) :
    deci_Read.j1 k (s : Int) b (mkB w) (mkB f) false = some (told b (val w * 10 ^ s + val f * 10 ^ (s - f.length))) := by
  obtain ⟨k, rfl⟩ : ∃ m, k = m + 1 := ⟨k - 1, by omega⟩
  unfold okd at hw
  simp only [Bool.and_eq_true, decide_eq_true_eq] at hw
  obtain ⟨w1, w2, w3⟩ := hw
  have hvw : val w < 10000000000000 := Nat.lt_of_lt_of_le (val_lt w w1) (Nat.le_trans (Nat.pow_le_pow_right (by decide) w3) (by decide))
  have hps : 10 ^ s ≤ 1000000 := Nat.le_trans (Nat.pow_le_pow_right (by decide) hs) (by decide)
  have hps1 : 1 ≤ 10 ^ s := Nat.pow_pos (by decide)
  have hsum : 10 ^ f.length * 10 ^ (s - f.length) = 10 ^ s := by rw [← Nat.pow_add]; congr 1; omega
  have hF : val f * 10 ^ (s - f.length) < 10 ^ s := by
    rw [← hsum]
    exact Nat.mul_lt_mul_of_pos_right (val_lt f hf.1) (Nat.pow_pos (by decide))
  have hws : wrap64 ((s : Int) - ((mkB f).size : Int)) = ((s - f.length : Nat) : Int) := by
    rw [mkB_size, wrap_id (by omega) (by omega)]; omega
  have hWb : val w * 10 ^ s < 100000000000000000000 := Nat.lt_of_le_of_lt (Nat.mul_le_mul (Nat.le_of_lt hvw) hps) (by decide)
  rw [deci_Read.j1, if_neg (by decide), value_is k (mkB w) (by rw [mkB_data]; exact w1) (by rw [mkB_size]; exact w3) (by rw [mkB_size]; omega), mkB_data]
  simp only [Option.bind_some]
  rw [power_is k s (by omega) (by omega)]
  simp only [Option.bind_some]
  obtain ⟨k', rfl⟩ : ∃ m, k = m + 2 := ⟨k - 2, by omega⟩
  rw [mul_nat k' _ _ (by omega) hps1 hps]
  simp only [Option.bind_some]
  rw [value_is (k' + 2) (mkB f) (by rw [mkB_data]; exact hf.1) (by rw [mkB_size]; omega) (by rw [mkB_size]; omega), mkB_data, hws]
  simp only [Option.bind_some]
  rw [power_is (k' + 2) (s - f.length) (by omega) (by omega)]
  simp only [Option.bind_some]
  have hcast2 : ((val f : Nat) : Int) * ((10 ^ (s - f.length) : Nat) : Int) = ((val f * 10 ^ (s - f.length) : Nat) : Int) := (Int.natCast_mul _ _).symm
  rw [hcast2]
  have key := read_fin b (val w * 10 ^ s) (val f * 10 ^ (s - f.length)) hWb (by omega)
  revert key
  generalize val w * 10 ^ s = W
  have hFb : val f * 10 ^ (s - f.length) < 1000000 := by omega
  revert hFb
  generalize val f * 10 ^ (s - f.length) = F
  intro hFb key
  rw [wrap_id (x := (F : Int)) (by omega) (by omega)]
  rw [← key]
  by_cases c : W ≤ 1152921504606846976
  · rw [if_pos c, decide_eq_true c]
  · rw [if_neg c, decide_eq_false c]
    simp only [Bool.false_eq_true, if_false]
theorem okd_all {l : List UInt8} {m : Nat} (h : okd l m = true) : l.all isDig = true ∧ 1 ≤ l.length ∧ l.length ≤ m := by
  unfold okd at h
  simpa only [Bool.and_eq_true, decide_eq_true_eq] using h
theorem read_is (k : Nat) (a : ByteArray) (scale : Int) (ha : a.size ≤ 1000000) (hk : a.size + 30 < k) : deci_Read.f k a scale = some (readL a.data.toList scale) := by
  unfold deci_Read.f
  obtain ⟨k, rfl⟩ : ∃ m, k = m + 1 := ⟨k - 1, by omega⟩
  unfold readL
  by_cases c0 : scale < 0
  · rw [if_pos c0, if_pos (.inl c0), deci_Read.j0, if_pos rfl]
  · rw [if_neg c0]
    by_cases c1 : scale > 6
    · rw [decide_eq_true c1, if_pos (.inr c1), deci_Read.j0, if_pos rfl]
    · rw [decide_eq_false c1, if_neg (by omega), deci_Read.j0, if_neg (by decide), cutPrefix_is]
      simp only [Option.bind_some]
      obtain ⟨s, rfl⟩ : ∃ s : Nat, scale = s := ⟨scale.toNat, by omega⟩
      have hsz : a.size = a.data.toList.length := Lib.size_eq a
      have hb := body_len a.data.toList
      obtain ⟨h1, h2⟩ := spt_len (body a.data.toList)
      rw [cut_is _ (by rw [mkB_size]; omega), mkB_data]
      simp only [Option.bind_some]
      unfold num
      generalize neg a.data.toList = b
      generalize body a.data.toList = r at hb h1 h2 ⊢
      have e13 : (13 : Int) = ((13 : Nat) : Int) := rfl
      rw [e13, okd_digits k _ 13 (by omega) (by omega)]
      simp only [Option.bind_some, Int.toNat_natCast]
      cases ho : okd (spt r).1 13
      · rw [if_neg (by decide)]
        obtain ⟨k, rfl⟩ : ∃ m, k = m + 1 := ⟨k - 1, by omega⟩
        rw [deci_Read.j1, if_pos rfl, Bool.false_and, if_neg (by decide)]
      · rw [if_pos rfl]
        cases hp : (spt r).2 with
        | none =>
          simp only [Option.isSome_none, Bool.false_eq_true, if_false, Option.getD_none, okp, Bool.and_self, if_true]
          exact read_j1 k s (by omega) (by omega) b _ _ ho ⟨rfl, Nat.zero_le _⟩
        | some f =>
          rw [hp] at h2
          simp only [Option.isSome_some, if_true, Option.getD_some, okp, Bool.true_and] at h2 ⊢
          rw [okd_digits k f s (by omega) (by omega)]
          simp only [Option.bind_some]
          cases hf : okd f s
          · obtain ⟨k, rfl⟩ : ∃ m, k = m + 1 := ⟨k - 1, by omega⟩
            rw [Bool.not_false, deci_Read.j1, if_pos rfl, if_neg (by decide)]
          · rw [Bool.not_true, if_pos rfl]
            obtain ⟨f1, _, f3⟩ := okd_all hf
            exact read_j1 k s (by omega) (by omega) b _ _ ho ⟨f1, f3⟩
end Go.Proofs.YtcdmndhaeiccoaaGreatDoor.P
namespace Go.Proofs.YtcdmndhaeiccoaaGreatDoor.P
open Go Go.Proofs.YtcdmndhaeiccoaaGreatDoorR
open Go.RowKit Go.Proofs.YtcdmndhaeiccoaaGreatDoorW.PrintWords Go.Proofs.YtcdmndhaeiccoaaGreatDoorW.PrintLast
def refEnd (s : Nat) (b : Bool) (v w : Nat) (p : Option Nat) : Int × Int :=
  if w < 1 ∨ w > 13 ∨ p = some 0 ∨ p.getD 0 > s then (0, 21) else told b (v * 10 ^ (s - p.getD 0))
def refL (s : Nat) (b : Bool) : List UInt8 → Nat → Nat → Option Nat → Int × Int
  | [], v, w, p => refEnd s b v w p
  | x :: t, v, w, none => if x = 46 then refL s b t v w (some 0) else if isDig x = true then refL s b t (10 * v + (x.toNat - 48)) (w + 1) none else (0, 21)
  | x :: t, v, w, some p => if isDig x = true then refL s b t (10 * v + (x.toNat - 48)) w (some (p + 1)) else (0, 21)
def pI : Option Nat → Int
  | none => -1
  | some p => (p : Int)
def sat (v : Nat) : Int := if v > 2000000000000000 then 2000000000000000 else (v : Int)
theorem sat_step (v d : Nat) (hd : d ≤ 9) : wrap64 (wrap64 (10 * sat v) + (d : Int)) = 10 * sat v + d := by
  unfold sat
  split
  · rw [wrap_id (x := 10 * 2000000000000000) (by omega) (by omega), wrap_id (by omega) (by omega)]
  · rw [wrap_id (x := 10 * (v : Int)) (by omega) (by omega), wrap_id (by omega) (by omega)]
theorem sat_ten (v : Nat) : wrap64 (10 * sat v) = 10 * sat v := by
  unfold sat
  split <;> rw [wrap_id (by omega) (by omega)]
theorem sat_over (v d : Nat) (hd : d ≤ 9) : (10 * sat v + (d : Int) > 2000000000000000 → sat (10 * v + d) = 2000000000000000 ∧ decide (10 * v + d > 2000000000000000) = true) ∧ (¬ 10 * sat v + (d : Int) > 2000000000000000 → sat (10 * v + d) = 10 * sat v + d ∧ decide (10 * v + d > 2000000000000000) = decide (v > 2000000000000000)) := by
  unfold sat
  by_cases c : v > 2000000000000000
  · rw [if_pos c, if_pos (by omega)]
    refine ⟨fun _ => ⟨rfl, decide_eq_true (by omega)⟩, fun h => absurd h (by omega)⟩
  · rw [if_neg c]
    by_cases c2 : 10 * v + d > 2000000000000000
    · rw [if_pos c2]
      exact ⟨fun _ => ⟨rfl, decide_eq_true c2⟩, fun h => absurd h (by omega)⟩
    · rw [if_neg c2]
      exact ⟨fun h => absurd h (by omega), fun _ => ⟨by push_cast; rfl, by rw [decide_eq_false c2, decide_eq_false c]⟩⟩
theorem ref_l1 (s : Nat) (hs : s ≤ 6) (b : Bool) : ∀ (d k i v : Nat), i + d = s → d < k → jitneyref03_Read.l1 k (s : Int) b (sat v) (decide (v > 2000000000000000)) (i : Int) = some (told b (v * 10 ^ d)) := by
  intro d
  induction d with
  | zero =>
    intro k i v h hk
    obtain ⟨k, rfl⟩ : ∃ m, k = m + 1 := ⟨k - 1, by omega⟩
    rw [jitneyref03_Read.l1, if_neg (by omega), Nat.pow_zero, Nat.mul_one]
    unfold told sat
    by_cases c : v > 2000000000000000
    · rw [if_pos c, decide_eq_true c, if_pos (show v > 1099511627776 by omega)]
      cases b <;> rfl
    · rw [if_neg c, decide_eq_false c, wrap_id (x := -(v : Int)) (by omega) (by omega)]
      cases b
      · rw [if_neg (by decide), if_neg (by decide), if_neg (by omega)]
        by_cases c2 : v > 1099511627776
        · rw [if_pos (by omega), if_pos c2]
        · rw [if_neg (by omega), if_neg c2]; rfl
      · rw [if_pos rfl, if_neg (by decide)]
        by_cases c2 : v > 1099511627776
        · rw [if_pos (by omega), if_pos c2]
        · rw [if_neg (by omega), if_neg (show ¬ -(v : Int) > 1099511627776 by omega), if_neg c2]; rfl
  | succ d ih =>
    intro k i v h hk
    obtain ⟨k, rfl⟩ : ∃ m, k = m + 1 := ⟨k - 1, by omega⟩
    obtain ⟨o1, o2⟩ := sat_over v 0 (by omega)
    simp only [Nat.add_zero, Int.natCast_zero, Int.add_zero] at o1 o2
    rw [jitneyref03_Read.l1, if_pos (by omega), sat_ten, wrap_nat (by omega)]
    have e : v * 10 ^ (d + 1) = (10 * v) * 10 ^ d := by rw [Nat.pow_succ]; rw [Nat.mul_comm 10 v, Nat.mul_assoc, Nat.mul_comm (10 ^ d) 10]
    rw [e, ← ih k (i + 1) (10 * v) (by omega) (by omega)]
    by_cases c : 10 * sat v > 2000000000000000
    · rw [if_pos c, (o1 c).1, (o1 c).2]
    · rw [if_neg c, (o2 c).1, (o2 c).2]
theorem ref_j6 (s : Nat) (hs : s ≤ 6) (b : Bool) (k v : Nat) (p : Option Nat) (hk : 10 ≤ k) (h0 : p ≠ some 0) (hp : p.getD 0 ≤ s) :
    jitneyref03_Read.j6 k (s : Int) b (sat v) (decide (v > 2000000000000000)) (pI p) false = some (told b (v * 10 ^ (s - p.getD 0))) := by
  obtain ⟨k, rfl⟩ : ∃ m, k = m + 2 := ⟨k - 2, by omega⟩
  rw [jitneyref03_Read.j6, if_neg (by decide)]
  cases p with
  | none =>
    rw [if_pos (by decide), jitneyref03_Read.j7]
    exact ref_l1 s hs b s k 0 v (by omega) (by omega)
  | some q =>
    have hq : ¬ (pI (some q) < 0) := by show ¬ ((q : Int) < 0); omega
    have hq2 : q ≤ s := hp
    rw [if_neg hq, jitneyref03_Read.j7]
    exact ref_l1 s hs b (s - q) k q v (by omega) (by omega)
theorem ref_end (s : Nat) (hs : s ≤ 6) (b : Bool) (k v w : Nat) (p : Option Nat) (hk : 10 ≤ k) :
    (if (w : Int) < 1 then (jitneyref03_Read.j6 k (s : Int) b (sat v) (decide (v > 2000000000000000)) (pI p) true) else (if (w : Int) > 13 then (jitneyref03_Read.j6 k (s : Int) b (sat v) (decide (v > 2000000000000000)) (pI p) true) else (if pI p = 0 then (jitneyref03_Read.j6 k (s : Int) b (sat v) (decide (v > 2000000000000000)) (pI p) true) else (jitneyref03_Read.j6 k (s : Int) b (sat v) (decide (v > 2000000000000000)) (pI p) (decide (pI p > (s : Int))))))) = some (refEnd s b v w p) := by
  have ht : jitneyref03_Read.j6 k (s : Int) b (sat v) (decide (v > 2000000000000000)) (pI p) true = some (0, 21) := by
    obtain ⟨k, rfl⟩ : ∃ m, k = m + 1 := ⟨k - 1, by omega⟩
    rw [jitneyref03_Read.j6, if_pos rfl]
  rw [ht]
  unfold refEnd
  have hp0 : pI p = 0 ↔ p = some 0 := by
    cases p with
    | none => simp [pI]
    | some q => simp [pI]
  have hps : pI p > (s : Int) ↔ p.getD 0 > s := by
    cases p with
    | none => simp [pI]
    | some q => simp [pI]
  by_cases c1 : w < 1
  · rw [if_pos (by omega), if_pos (.inl c1)]
  · rw [if_neg (by omega)]
    by_cases c2 : w > 13
    · rw [if_pos (by omega), if_pos (.inr (.inl c2))]
    · rw [if_neg (by omega)]
      by_cases c3 : p = some 0
      · rw [if_pos (hp0.2 c3), if_pos (.inr (.inr (.inl c3)))]
      · rw [if_neg (fun h => c3 (hp0.1 h))]
        by_cases c4 : p.getD 0 > s
        · rw [decide_eq_true (hps.2 c4), ht, if_pos (.inr (.inr (.inr c4)))]
        · rw [decide_eq_false (fun h => c4 (hps.1 h)), if_neg (by rintro (h | h | h | h) <;> first | exact c1 h | exact c2 h | exact c3 h | exact c4 h)]
          exact ref_j6 s hs b k v p hk c3 (by omega)
theorem ref_l0 (a : ByteArray) (ha : a.size ≤ 1000000) (s : Nat) (hs : s ≤ 6) (b : Bool) : ∀ (d k i v w : Nat) (p : Option Nat), i + d = a.size → 3 * d + 20 ≤ k → w ≤ i → p.getD 0 ≤ i → jitneyref03_Read.l0 k a (s : Int) (i : Int) b (sat v) (decide (v > 2000000000000000)) (w : Int) (pI p) = some (refL s b (a.data.toList.drop i) v w p) := by
  intro d
  induction d with
  | zero =>
    intro k i v w p h hk hw hp
    obtain ⟨k, rfl⟩ : ∃ m, k = m + 1 := ⟨k - 1, by omega⟩
    rw [jitneyref03_Read.l0, if_neg (by omega), drop_end a i (by omega), refL, ref_end s hs b k v w p (by omega)]
  | succ d ih =>
    intro k i v w p h hk hw hp
    obtain ⟨k, rfl⟩ : ∃ m, k = m + 3 := ⟨k - 3, by omega⟩
    obtain ⟨x, hx, hb⟩ := bt_drop a i (by omega)
    rw [jitneyref03_Read.l0, if_pos (by omega), if_pos (by omega), hb, hx, wrap_nat (by omega)]
    -- the digits' arm, the same for both
    have hdig : ∀ p : Option Nat, p.getD 0 ≤ i → jitneyref03_Read.j4 (k + 2) a (s : Int) ((i + 1 : Nat) : Int) b (sat v) (decide (v > 2000000000000000)) (w : Int) (pI p) (x.toNat : Int) false = some (if isDig x = true then refL s b (a.data.toList.drop (i + 1)) (10 * v + (x.toNat - 48)) (if p = none then w + 1 else w) (p.map (· + 1)) else (0, 21)) := by
      intro p hp
      rw [jitneyref03_Read.j4, if_neg (by decide)]
      by_cases c1 : (x.toNat : Int) < 48
      · have e : isDig x = false := decide_eq_false (by omega)
        rw [if_pos c1, jitneyref03_Read.j5, if_pos rfl, e, if_neg (by decide)]
      · rw [if_neg c1]
        by_cases c2 : (x.toNat : Int) > 57
        · have e : isDig x = false := decide_eq_false (by omega)
          rw [decide_eq_true c2, jitneyref03_Read.j5, if_pos rfl, e, if_neg (by decide)]
        · have e : isDig x = true := decide_eq_true (by omega)
          rw [decide_eq_false c2, jitneyref03_Read.j5, if_neg (by decide), e, if_pos rfl]
          have hd : ((x.toNat : Int) - 48) % 256 = ((x.toNat - 48 : Nat) : Int) := by omega
          rw [hd, sat_step v (x.toNat - 48) (by omega)]
          obtain ⟨o1, o2⟩ := sat_over v (x.toNat - 48) (by omega)
          cases p with
          | none =>
            rw [if_neg (show ¬ pI none ≥ 0 by decide), if_pos rfl]
            have := ih k (i + 1) (10 * v + (x.toNat - 48)) (w + 1) none (by omega) (by omega) (by omega) (by omega)
            rw [Option.map_none, ← this, wrap_nat (by omega)]
            by_cases c : 10 * sat v + ((x.toNat - 48 : Nat) : Int) > 2000000000000000
            · rw [if_pos c, (o1 c).1, (o1 c).2]
            · rw [if_neg c, (o2 c).1, (o2 c).2]
          | some q =>
            have hq : q ≤ i := hp
            have hqi : pI (some q) = (q : Int) := rfl
            have hne : (if (some q : Option Nat) = none then w + 1 else w) = w := if_neg (by simp)
            rw [hqi, if_pos (show (q : Int) ≥ 0 by omega), hne]
            have := ih k (i + 1) (10 * v + (x.toNat - 48)) w (some (q + 1)) (by omega) (by omega) (by omega) (by show q + 1 ≤ i + 1; omega)
            rw [Option.map_some, ← this, wrap_nat (by omega)]
            have hqi2 : pI (some (q + 1)) = ((q + 1 : Nat) : Int) := rfl
            rw [hqi2]
            by_cases c : 10 * sat v + ((x.toNat - 48 : Nat) : Int) > 2000000000000000
            · rw [if_pos c, (o1 c).1, (o1 c).2]
            · rw [if_neg c, (o2 c).1, (o2 c).2]
    cases p with
    | none =>
      rw [refL]
      by_cases c : x = 46
      · have hc : (x.toNat : Int) = 46 := by rw [c]; rfl
        rw [if_pos hc, if_pos c, decide_eq_true (show pI none < 0 by decide), jitneyref03_Read.j4, if_pos rfl]
        exact ih (k + 1) (i + 1) v w (some 0) (by omega) (by omega) (by omega) (by show 0 ≤ i + 1; omega)
      · have hc : ¬ (x.toNat : Int) = 46 := by
          intro h
          apply c
          apply UInt8.toNat_inj.1
          have : x.toNat = 46 := by omega
          rw [this]; rfl
        rw [if_neg hc, if_neg c, hdig none hp]
        rfl
    | some q =>
      rw [refL]
      by_cases c : x = 46
      · have hc : (x.toNat : Int) = 46 := by rw [c]; rfl
        have hqn : ¬ (pI (some q) < 0) := by show ¬ ((q : Int) < 0); omega
        rw [if_pos hc, decide_eq_false hqn, hdig (some q) hp]
        rfl
      · have hc : ¬ (x.toNat : Int) = 46 := by
          intro h
          apply c
          apply UInt8.toNat_inj.1
          have : x.toNat = 46 := by omega
          rw [this]; rfl
        rw [if_neg hc, hdig (some q) hp]
        rfl
theorem refL_some (s : Nat) (b : Bool) : ∀ (r : List UInt8) (v w p : Nat), refL s b r v w (some p) = if r.all isDig = true then refEnd s b (v * 10 ^ r.length + val r) w (some (p + r.length)) else (0, 21) := by
  intro r
  induction r with
  | nil => intro v w p; rw [refL, List.all_nil, if_pos rfl]; simp [val]
  | cons x t ih =>
    intro v w p
    rw [refL, List.all_cons]
    cases hx : isDig x
    · rfl
    · rw [if_pos rfl, ih, Bool.true_and]
      have e : val (x :: t) = (x.toNat - 48) * 10 ^ t.length + val t := by
        show (x :: t).foldl _ 0 = _
        rw [List.foldl_cons, val_cons_from]; simp
      have e2 : (10 * v + (x.toNat - 48)) * 10 ^ t.length + val t = v * 10 ^ (x :: t).length + val (x :: t) := by
        rw [e, List.length_cons, Nat.pow_succ, Nat.add_mul, Nat.mul_comm 10 v, Nat.mul_assoc, Nat.mul_comm 10 (10 ^ t.length)]
        omega
      rw [e2, List.length_cons, show p + 1 + t.length = p + (t.length + 1) by omega]
theorem refL_none (s : Nat) (b : Bool) : ∀ (r : List UInt8) (v w : Nat), refL s b r v w none = if (spt r).1.all isDig = true then (match (spt r).2 with | none => refEnd s b (v * 10 ^ (spt r).1.length + val (spt r).1) (w + (spt r).1.length) none | some f => refL s b f (v * 10 ^ (spt r).1.length + val (spt r).1) (w + (spt r).1.length) (some 0)) else (0, 21) := by
  intro r
  induction r with
  | nil => intro v w; simp [refL, spt, val]
  | cons x t ih =>
    intro v w
    rw [refL]
    by_cases c : x = 46
    · rw [if_pos c]
      simp [spt, c, val]
    · rw [if_neg c]
      have hs : spt (x :: t) = (x :: (spt t).1, (spt t).2) := by rw [spt, if_neg c]
      rw [hs]
      show _ = if (x :: (spt t).1).all isDig = true then _ else _
      rw [List.all_cons]
      cases hx : isDig x
      · rfl
      · rw [if_pos rfl, ih, Bool.true_and]
        generalize (spt t).1 = u
        have e : val (x :: u) = (x.toNat - 48) * 10 ^ u.length + val u := by
          show (x :: u).foldl _ 0 = _
          rw [List.foldl_cons, val_cons_from]; simp
        have e2 : (10 * v + (x.toNat - 48)) * 10 ^ u.length + val u = v * 10 ^ (x :: u).length + val (x :: u) := by
          rw [e, List.length_cons, Nat.pow_succ, Nat.add_mul, Nat.mul_comm 10 v, Nat.mul_assoc, Nat.mul_comm 10 (10 ^ u.length)]
          omega
        simp only
        rw [e2, List.length_cons, show w + 1 + u.length = w + (u.length + 1) by omega]
theorem okd_true {l : List UInt8} {m : Nat} (h : l.all isDig = true) (c : 1 ≤ l.length ∧ l.length ≤ m) : okd l m = true := by
  unfold okd; rw [h, decide_eq_true c.1, decide_eq_true c.2]; rfl
theorem okd_false {l : List UInt8} {m : Nat} (c : ¬ (l.all isDig = true ∧ 1 ≤ l.length ∧ l.length ≤ m)) : okd l m = false := by
  cases h : okd l m with
  | false => rfl
  | true => exact absurd (okd_all h) c
theorem refL_read (s : Nat) (l : List UInt8) : refL s (neg l) (body l) 0 0 none = if (okd (spt (body l)).1 13 && okp (spt (body l)).2 s) = true then told (neg l) (num l s) else (0, 21) := by
  rw [refL_none]
  unfold num
  generalize neg l = b
  generalize spt (body l) = p
  obtain ⟨w, f⟩ := p
  simp only [Nat.zero_mul, Nat.zero_add]
  cases hw : w.all isDig
  · rw [okd_false (l := w) (m := 13) (by rw [hw]; simp)]; rfl
  · rw [if_pos rfl]
    cases f with
    | none =>
      show refEnd s b (val w) w.length none = if (okd w 13 && okp none s) = true then told b (val w * 10 ^ s + val [] * 10 ^ (s - 0)) else (0, 21)
      rw [show okp none s = true from rfl, Bool.and_true]
      unfold refEnd
      by_cases c : 1 ≤ w.length ∧ w.length ≤ 13
      · rw [okd_true hw c, if_pos rfl, if_neg (by rintro (h | h | h | h); · omega
                                                  · omega
                                                  · cases h
                                                  · exact absurd h (Nat.not_lt_zero _))]
        simp [val]
      · have hc : w.length < 1 ∨ w.length > 13 ∨ (none : Option Nat) = some 0 ∨ (none : Option Nat).getD 0 > s := by
          by_cases h : w.length < 1
          · exact .inl h
          · exact .inr (.inl (by omega))
        rw [okd_false (fun h => c h.2), if_pos hc]; rfl
    | some f =>
      show refL s b f (val w) w.length (some 0) = if (okd w 13 && okp (some f) s) = true then told b (val w * 10 ^ s + val f * 10 ^ (s - f.length)) else (0, 21)
      rw [show okp (some f) s = okd f s from rfl, refL_some]
      cases hf : f.all isDig
      · rw [okd_false (l := f) (m := s) (by rw [hf]; simp), Bool.and_false]; rfl
      · rw [if_pos rfl]
        unfold refEnd
        have e1 : (some (0 + f.length) : Option Nat).getD 0 = f.length := by simp
        have e2 : (some (0 + f.length) : Option Nat) = some 0 ↔ f.length = 0 := by simp
        rw [e1]
        by_cases c : (1 ≤ w.length ∧ w.length ≤ 13) ∧ (1 ≤ f.length ∧ f.length ≤ s)
        · rw [if_neg (by rw [e2]; omega), okd_true hw c.1, okd_true hf c.2, if_pos (by rfl), Nat.add_mul, Nat.mul_assoc, ← Nat.pow_add, show f.length + (s - f.length) = s by omega]
        · rw [if_pos (by rw [e2]; omega)]
          by_cases c1 : 1 ≤ w.length ∧ w.length ≤ 13
          · rw [okd_false (l := f) (m := s) (fun h => c ⟨c1, h.2⟩), Bool.and_false, if_neg (by decide)]
          · rw [okd_false (l := w) (m := 13) (fun h => c1 h.2), Bool.false_and, if_neg (by decide)]
theorem refRead_is (k : Nat) (a : ByteArray) (scale : Int) (ha : a.size ≤ 1000000) (hk : 3 * a.size + 30 < k) : jitneyref03_Read.f k a scale = some (readL a.data.toList scale) := by
  unfold jitneyref03_Read.f
  obtain ⟨k, rfl⟩ : ∃ m, k = m + 3 := ⟨k - 3, by omega⟩
  unfold readL
  by_cases c0 : scale < 0
  · rw [if_pos c0, if_pos (.inl c0), jitneyref03_Read.j0, if_pos rfl]
  · rw [if_neg c0]
    by_cases c1 : scale > 6
    · rw [decide_eq_true c1, if_pos (.inr c1), jitneyref03_Read.j0, if_pos rfl]
    · rw [decide_eq_false c1, if_neg (by omega), jitneyref03_Read.j0, if_neg (by decide)]
      obtain ⟨s, rfl⟩ : ∃ s : Nat, scale = s := ⟨scale.toNat, by omega⟩
      rw [Int.toNat_natCast, ← refL_read s a.data.toList]
      have hs0 : sat 0 = 0 := rfl
      have hd0 : decide (0 > 2000000000000000) = false := rfl
      have hsz := Lib.size_eq a
      by_cases cz : (a.size : Int) > 0
      · rw [if_pos cz, if_pos cz]
        obtain ⟨x, hx, hb⟩ := bt_drop a 0 (by omega)
        have hb0 : bt a 0 = (x.toNat : Int) := hb
        rw [List.drop_zero] at hx
        have hn : (bt a 0 == 45) = neg a.data.toList := by
          rw [hb0, hx]
          unfold neg
          rw [List.head?_cons]
          by_cases c : x = 45
          · subst c; rfl
          · have h1 : ¬ (x.toNat : Int) = 45 := by
              intro h
              apply c
              apply UInt8.toNat_inj.1
              have : x.toNat = 45 := by omega
              rw [this]; rfl
            rw [beq_eq_false_iff_ne.2 h1]
            symm
            exact beq_eq_false_iff_ne.2 (fun h => c (Option.some.inj h))
        rw [hn, jitneyref03_Read.j1]
        unfold body
        cases hg : neg a.data.toList
        · rw [if_neg (by decide), if_neg (by decide), jitneyref03_Read.j2]
          have := ref_l0 a ha s (by omega) false a.size k 0 0 0 none (by omega) (by omega) (Nat.le_refl _) (Nat.le_refl _)
          rw [List.drop_zero] at this
          exact this
        · rw [if_pos rfl, if_pos rfl, jitneyref03_Read.j2]
          have := ref_l0 a ha s (by omega) true (a.size - 1) k 1 0 0 none (by omega) (by omega) (by omega) (Nat.zero_le _)
          rw [List.drop_one] at this
          exact this
      · have hl : a.data.toList = [] := List.length_eq_zero_iff.1 (by omega)
        rw [if_neg cz, jitneyref03_Read.j1, if_neg (by decide), jitneyref03_Read.j2]
        have := ref_l0 a ha s (by omega) false 0 k 0 0 0 none (by omega) (by omega) (Nat.le_refl _) (Nat.le_refl _)
        rw [List.drop_zero] at this
        rw [hl] at this ⊢
        exact this
end Go.Proofs.YtcdmndhaeiccoaaGreatDoor.P
