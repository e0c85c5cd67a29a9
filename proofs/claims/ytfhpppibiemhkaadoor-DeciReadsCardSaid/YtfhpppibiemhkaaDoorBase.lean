/- Bytes of a text one by one; digits, values, powers, products: what the printed functions tell. -/
import Derived.Test.YtfhpppibiemhkaaDoorP5
import Derived.Test.YtfhpppibiemhkaaDoorP11
import Derived.Test.YtfhpppibiemhkaaDoorP3
namespace Go.Proofs.YtfhpppibiemhkaaDoor.P
open Go.Proofs.YtfhpppibiemhkaaDoorR
open Go.RowKit Go.Proofs.YtfhpppibiemhkaaDoorW.PrintWords Go.Proofs.YtfhpppibiemhkaaDoorW.PrintLast Go.Proofs.YtfhpppibiemhkaaDoorW.PrintMore
def ok64 (a : Int) : Bool := decide (-1152921504606846976 ≤ a ∧ a ≤ 1152921504606846976)
theorem ok64_iff (a : Int) : ok64 a = true ↔ (-1152921504606846976 ≤ a ∧ a ≤ 1152921504606846976) := by unfold ok64; rw [decide_eq_true_eq]
theorem may_is (a : Int) : num_may.f a = some (ok64 a) := by
  unfold num_may.f ok64
  split
  · simp only [Option.some.injEq, decide_eq_decide]; omega
  · symm; simp only [Option.some.injEq, decide_eq_false_iff_not]; omega
theorem wrap_id {x : Int} (h0 : -9223372036854775808 ≤ x) (h1 : x ≤ 9223372036854775807) : wrap64 x = x := by
  unfold wrap64
  omega
theorem and32 (n : Int) (h0 : 0 ≤ n) (h1 : n < 18446744073709551616) : Go.bits .and .u64 n 4294967295 = n % 4294967296 := by
  have hm : (BitVec.ofInt 64 4294967295).toNat = 2 ^ 32 - 1 := by decide
  have key : (BitVec.ofInt 64 n &&& BitVec.ofInt 64 4294967295).toNat = (n % ((2 ^ 64 : Nat) : Int)).toNat % 2 ^ 32 := by
    rw [BitVec.toNat_and, BitVec.toNat_ofInt, hm, Nat.and_two_pow_sub_one_eq_mod]
  show IntKind.u64.wrap ((BitVec.ofInt 64 n &&& BitVec.ofInt 64 4294967295).toNat : Nat) = n % 4294967296
  rw [key]
  show ((((n % ((2 ^ 64 : Nat) : Int)).toNat % 2 ^ 32 : Nat) : Int) % 18446744073709551616) = _
  omega
theorem u64_wrap (n : Int) : IntKind.u64.wrap n = n % 18446744073709551616 := rfl
theorem mul64_is (x y : Int) (x0 : 0 ≤ x) (x1 : x ≤ 1152921504606846976) (y0 : 0 ≤ y) (y1 : y ≤ 1152921504606846976) : bits_Mul64.f x y = some (x * y / 18446744073709551616, x * y % 18446744073709551616) := by
  obtain ⟨p, hp⟩ : ∃ p, p = x / 4294967296 := ⟨_, rfl⟩
  obtain ⟨q, hq⟩ : ∃ q, q = x % 4294967296 := ⟨_, rfl⟩
  obtain ⟨r, hr⟩ : ∃ r, r = y / 4294967296 := ⟨_, rfl⟩
  obtain ⟨s, hs⟩ : ∃ s, s = y % 4294967296 := ⟨_, rfl⟩
  have hA : 0 ≤ p * r ∧ p * r ≤ 268435456 * 268435456 := ⟨Int.mul_nonneg (by omega) (by omega), Int.mul_le_mul (by omega) (by omega) (by omega) (by omega)⟩
  have hB : 0 ≤ p * s ∧ p * s ≤ 268435456 * 4294967295 := ⟨Int.mul_nonneg (by omega) (by omega), Int.mul_le_mul (by omega) (by omega) (by omega) (by omega)⟩
  have hC : 0 ≤ q * r ∧ q * r ≤ 4294967295 * 268435456 := ⟨Int.mul_nonneg (by omega) (by omega), Int.mul_le_mul (by omega) (by omega) (by omega) (by omega)⟩
  have hD : 0 ≤ q * s ∧ q * s ≤ 4294967295 * 4294967295 := ⟨Int.mul_nonneg (by omega) (by omega), Int.mul_le_mul (by omega) (by omega) (by omega) (by omega)⟩
  have hxy : x * y = p * r * 18446744073709551616 + (p * s + q * r) * 4294967296 + q * s := by
    rw [show x = p * 4294967296 + q by omega, show y = r * 4294967296 + s by omega]
    simp only [Int.add_mul, Int.mul_add]
    have e1 : p * 4294967296 * (r * 4294967296) = p * r * 18446744073709551616 := by
      rw [Int.mul_assoc, Int.mul_left_comm 4294967296, ← Int.mul_assoc]
      rfl
    have e2 : p * 4294967296 * s = p * s * 4294967296 := by rw [Int.mul_right_comm]
    have e3 : q * (r * 4294967296) = q * r * 4294967296 := by rw [Int.mul_assoc]
    omega
  obtain ⟨t, ht⟩ : ∃ t, t = p * s + q * s / 4294967296 := ⟨_, rfl⟩
  unfold bits_Mul64.f
  rw [and32 x x0 (by omega), and32 y y0 (by omega), ← hp, ← hq, ← hr, ← hs]
  simp only [u64_wrap]
  rw [Int.emod_eq_of_lt (a := p * r) hA.1 (by omega), Int.emod_eq_of_lt (a := p * s) hB.1 (by omega), Int.emod_eq_of_lt (a := q * s) hD.1 (by omega), Int.emod_eq_of_lt (a := q * r) hC.1 (by omega), Int.emod_eq_of_lt (a := p * s + q * s / 4294967296) (by omega) (by omega), ← ht, and32 t (by omega) (by omega), hxy]
  congr 1
  congr 1
  omega
theorem size_is (a : Int) (h : ok64 a = true) : num_size.f a = some (if a < 0 then -a else a) := by
  rw [ok64_iff] at h
  unfold num_size.f
  split
  · rw [wrap_id (by omega) (by omega), u64_wrap, Int.emod_eq_of_lt (by omega) (by omega)]
  · rw [u64_wrap, Int.emod_eq_of_lt (by omega) (by omega)]
theorem ok_mul {x y z : Int} (h : z = x * y ∨ z = -(x * y)) (hz : 0 ≤ x * y) : ok64 z = decide (x * y ≤ 1152921504606846976) := by
  unfold ok64
  rw [decide_eq_decide]
  omega
theorem abs_mul (a b : Int) : (decide (a < 0) != decide (b < 0)) = true ∧ a * b = -((if a < 0 then -a else a) * (if b < 0 then -b else b)) ∨ (decide (a < 0) != decide (b < 0)) = false ∧ a * b = (if a < 0 then -a else a) * (if b < 0 then -b else b) := by
  by_cases ha : a < 0 <;> by_cases hb : b < 0
  · right; simp only [ha, hb, if_true, decide_true, bne_self_eq_false, Int.neg_mul_neg]; exact ⟨trivial, trivial⟩
  · left; simp only [ha, hb, if_true, if_false, decide_true, decide_false]; exact ⟨by decide, by rw [Int.neg_mul, Int.neg_neg]⟩
  · left; simp only [ha, hb, if_true, if_false, decide_true, decide_false]; exact ⟨by decide, by rw [Int.mul_neg, Int.neg_neg]⟩
  · right; simp only [ha, hb, if_false, decide_false, bne_self_eq_false]; exact ⟨trivial, trivial⟩
theorem mul_is (k : Nat) (a b : Int) : num_Mul.f (k + 2) a b = some (if (ok64 a && ok64 b && ok64 (a * b)) = true then (a * b, true) else (0, false)) := by
  unfold num_Mul.f
  simp only [may_is, Option.bind_some]
  cases ha : ok64 a
  · simp [num_Mul.j0]
  cases hb : ok64 b
  · simp [num_Mul.j0]
  simp only [Bool.and_self, Bool.true_and, if_true, Bool.not_true, num_Mul.j0, Bool.false_eq_true, if_false]
  rw [size_is a ha, size_is b hb]
  rw [ok64_iff] at ha hb
  have key := abs_mul a b
  obtain ⟨x, hx⟩ : ∃ x, x = if a < 0 then -a else a := ⟨_, rfl⟩
  obtain ⟨y, hy⟩ : ∃ y, y = if b < 0 then -b else b := ⟨_, rfl⟩
  have x0 : 0 ≤ x ∧ x ≤ 1152921504606846976 := by rw [hx]; split <;> omega
  have y0 : 0 ≤ y ∧ y ≤ 1152921504606846976 := by rw [hy]; split <;> omega
  rw [← hx, ← hy] at key ⊢
  simp only [Option.bind_some]
  rw [mul64_is x y x0.1 x0.2 y0.1 y0.2]
  have hz : 0 ≤ x * y := Int.mul_nonneg x0.1 y0.1
  have hok : ok64 (a * b) = decide (x * y ≤ 1152921504606846976) := ok_mul (key.elim (fun h => .inr h.2) (fun h => .inl h.2)) hz
  rw [hok]
  simp only [Option.bind_some]
  by_cases c : x * y ≤ 1152921504606846976
  · have e0 : x * y / 18446744073709551616 = 0 := by omega
    have e1 : x * y % 18446744073709551616 = x * y := by omega
    rw [if_pos e0, e1, num_Mul.j1]
    have c1 : decide (x * y > 1152921504606846976) = false := by simp; omega
    have c2 : decide (x * y ≤ 1152921504606846976) = true := by simp [c]
    rw [c1, c2, if_neg (by decide), if_pos rfl]
    rcases key with ⟨h1, h2⟩ | ⟨h1, h2⟩
    · rw [h1, if_pos rfl, h2, wrap_id (x := x * y) (by omega) (by omega), wrap_id (by omega) (by omega)]
    · rw [h1, if_neg (by decide), h2, wrap_id (by omega) (by omega)]
  · have c2 : decide (x * y ≤ 1152921504606846976) = false := by simp [c]
    rw [c2, if_neg Bool.false_ne_true]
    by_cases e0 : x * y / 18446744073709551616 = 0
    · have c1 : decide (x * y % 18446744073709551616 > 1152921504606846976) = true := by simp; omega
      rw [if_pos e0, num_Mul.j1, c1, if_pos rfl]
    · rw [if_neg e0, num_Mul.j1, if_pos rfl]
theorem wrap_nat {i : Nat} (hn : i < 1000000000000) : wrap64 ((i : Int) + 1) = ((i + 1 : Nat) : Int) := by
  unfold wrap64
  omega
def mkB (l : List UInt8) : ByteArray := ⟨l.toArray⟩
theorem mkB_data (l : List UInt8) : (mkB l).data.toList = l := by simp [mkB]
theorem mkB_of (a : ByteArray) : mkB a.data.toList = a := Lib.mk_data a
theorem mkB_size (l : List UInt8) : (mkB l).size = l.length := by rw [Lib.size_eq, mkB_data]
theorem mkB_append (l m : List UInt8) : mkB l ++ mkB m = mkB (l ++ m) := by
  rw [← mkB_of (mkB l ++ mkB m)]
  congr 1
theorem mkB_toList (l : List UInt8) : (mkB l).toList = l := by rw [Lib.toList_data, mkB_data]
theorem mkB_inj {l m : List UInt8} (h : mkB l = mkB m) : l = m := by rw [← mkB_data l, h, mkB_data]
theorem bt_drop (a : ByteArray) (i : Nat) (h : i < a.size) : ∃ x, a.data.toList.drop i = x :: a.data.toList.drop (i + 1) ∧ bt a (i : Int) = (x.toNat : Int) := by
  have hl : i < a.data.toList.length := by rw [← Lib.size_eq]; exact h
  refine ⟨a.data.toList[i], List.drop_eq_getElem_cons hl, ?_⟩
  unfold bt
  rw [dif_pos (by omega)]
  rfl
theorem drop_end (a : ByteArray) (i : Nat) (h : i = a.size) : a.data.toList.drop i = [] := List.drop_eq_nil_of_le (by rw [← Lib.size_eq]; omega)

def isDig (b : UInt8) : Bool := decide (48 ≤ b.toNat ∧ b.toNat ≤ 57)
def isChr (b : UInt8) : Bool := decide (33 ≤ b.toNat ∧ b.toNat ≤ 126)
def val (l : List UInt8) : Nat := l.foldl (fun n b => 10 * n + (b.toNat - 48)) 0

theorem digits_loop (a : ByteArray) (most : Int) (hn : a.size ≤ 1000000) : ∀ (d k i : Nat), i + d = a.size → d < k → deci_digits.l0 k a most (a.size : Int) (i : Int) = some ((a.data.toList.drop i).all isDig && (decide (1 ≤ a.size) && decide ((a.size : Int) ≤ most))) := by
  intro d
  induction d with
  | zero =>
    intro k i h hk
    obtain ⟨k, rfl⟩ : ∃ m, k = m + 1 := ⟨k - 1, by omega⟩
    rw [deci_digits.l0, if_neg (by omega), drop_end a i (by omega)]
    by_cases c : 1 ≤ a.size
    · rw [if_pos (by omega)]; simp [c]
    · rw [if_neg (by omega)]; simp [c]
  | succ d ih =>
    intro k i h hk
    obtain ⟨k, rfl⟩ : ∃ m, k = m + 1 := ⟨k - 1, by omega⟩
    obtain ⟨x, hx, hb⟩ := bt_drop a i (by omega)
    rw [deci_digits.l0, if_pos (by omega), if_pos (by omega), if_pos (by omega), hb, hx, wrap_nat (by omega), ih k (i + 1) (by omega) (by omega), List.all_cons]
    by_cases c1 : (x.toNat : Int) < 48
    · have e : isDig x = false := decide_eq_false (by omega)
      rw [if_pos c1, e]; rfl
    · rw [if_neg c1]
      by_cases c2 : (x.toNat : Int) > 57
      · have e : isDig x = false := decide_eq_false (by omega)
        rw [if_pos c2, e]; rfl
      · have e : isDig x = true := decide_eq_true (by omega)
        rw [if_neg c2, e, Bool.true_and]
theorem digits_is (k : Nat) (a : ByteArray) (most : Int) (hn : a.size ≤ 1000000) (hk : a.size < k) : deci_digits.f k a most = some (a.data.toList.all isDig && (decide (1 ≤ a.size) && decide ((a.size : Int) ≤ most))) :=
  digits_loop a most hn a.size k 0 (by omega) hk
theorem word_loop (a : ByteArray) (hn : a.size ≤ 1000000) : ∀ (d k i : Nat), i + d = a.size → d < k → deci_word.l0 k a (a.size : Int) (i : Int) = some ((a.data.toList.drop i).all isChr && decide (a.data.toList ≠ [])) := by
  intro d
  induction d with
  | zero =>
    intro k i h hk
    obtain ⟨k, rfl⟩ : ∃ m, k = m + 1 := ⟨k - 1, by omega⟩
    rw [deci_word.l0, if_neg (by omega), drop_end a i (by omega), Lib.toList_data]
    simp only [List.all_nil, Bool.true_and, Option.some.injEq]
    cases a.data.toList <;> simp
  | succ d ih =>
    intro k i h hk
    obtain ⟨k, rfl⟩ : ∃ m, k = m + 1 := ⟨k - 1, by omega⟩
    obtain ⟨x, hx, hb⟩ := bt_drop a i (by omega)
    rw [deci_word.l0, if_pos (by omega), if_pos (by omega), if_pos (by omega), hb, hx, wrap_nat (by omega), ih k (i + 1) (by omega) (by omega), List.all_cons]
    by_cases c1 : (x.toNat : Int) < 33
    · have e : isChr x = false := decide_eq_false (by omega)
      rw [if_pos c1, e]; rfl
    · rw [if_neg c1]
      by_cases c2 : (x.toNat : Int) > 126
      · have e : isChr x = false := decide_eq_false (by omega)
        rw [if_pos c2, e]; rfl
      · have e : isChr x = true := decide_eq_true (by omega)
        rw [if_neg c2, e, Bool.true_and]
def wordB (l : List UInt8) : Bool := l.all isChr && decide (l ≠ [])
theorem word_is (k : Nat) (a : ByteArray) (hn : a.size ≤ 1000000) (hk : a.size < k) : deci_word.f k a = some (wordB a.data.toList) :=
  word_loop a hn a.size k 0 (by omega) hk
theorem val_cons_from (l : List UInt8) : ∀ n : Nat, l.foldl (fun n b => 10 * n + (b.toNat - 48)) n = n * 10 ^ l.length + val l := by
  induction l with
  | nil => intro n; simp [val]
  | cons x t ih =>
    intro n
    unfold val
    rw [List.foldl_cons, List.foldl_cons, ih, ih (10 * 0 + (x.toNat - 48)), List.length_cons, Nat.pow_succ]
    rw [Nat.add_mul, Nat.add_mul, Nat.mul_comm 10 n, Nat.mul_assoc, Nat.mul_comm 10 (10 ^ t.length)]
    omega
theorem val_append (l m : List UInt8) : val (l ++ m) = val l * 10 ^ m.length + val m := by
  show (l ++ m).foldl _ 0 = _
  rw [List.foldl_append, val_cons_from]
  rfl
theorem val_lt (l : List UInt8) (h : l.all isDig = true) : val l < 10 ^ l.length := by
  induction l with
  | nil => simp [val]
  | cons x t ih =>
    rw [List.all_cons, Bool.and_eq_true] at h
    have hx : x.toNat ≤ 57 := by have := h.1; unfold isDig at this; exact (of_decide_eq_true this).2
    have := ih h.2
    have e : val (x :: t) = (x.toNat - 48) * 10 ^ t.length + val t := by
      show (x :: t).foldl _ 0 = _
      rw [List.foldl_cons, val_cons_from]; simp
    rw [e, List.length_cons, Nat.pow_succ]
    have h9 : (x.toNat - 48) * 10 ^ t.length ≤ 9 * 10 ^ t.length := Nat.mul_le_mul_right _ (by omega)
    omega
theorem value_loop (a : ByteArray) (hd : a.data.toList.all isDig = true) (hn : a.size ≤ 13) : ∀ (d k i : Nat), i + d = a.size → d < k → deci_value.l0 k a (val (a.data.toList.take i) : Int) (a.size : Int) (i : Int) = some (val a.data.toList : Int) := by
  intro d
  induction d with
  | zero =>
    intro k i h hk
    obtain ⟨k, rfl⟩ : ∃ m, k = m + 1 := ⟨k - 1, by omega⟩
    rw [deci_value.l0, if_neg (by omega), List.take_of_length_le (by rw [← Lib.size_eq]; omega)]
  | succ d ih =>
    intro k i h hk
    obtain ⟨k, rfl⟩ : ∃ m, k = m + 1 := ⟨k - 1, by omega⟩
    obtain ⟨x, hx, hb⟩ := bt_drop a i (by omega)
    have hl : i < a.data.toList.length := by rw [← Lib.size_eq]; omega
    have hxe : a.data.toList[i] = x := by rw [List.drop_eq_getElem_cons hl] at hx; exact (List.cons.inj hx).1
    have ht : a.data.toList.take (i + 1) = a.data.toList.take i ++ [x] := by rw [List.take_succ_eq_append_getElem hl, hxe]
    have hdx : isDig x = true := by rw [← hxe]; exact List.all_eq_true.1 hd _ (List.getElem_mem hl)
    have hx2 : 48 ≤ x.toNat ∧ x.toNat ≤ 57 := by unfold isDig at hdx; exact of_decide_eq_true hdx
    have hlt := val_lt (a.data.toList.take i) (List.all_eq_true.2 fun y hy => List.all_eq_true.1 hd y (List.mem_of_mem_take hy))
    have hpow : 10 ^ (a.data.toList.take i).length ≤ 10 ^ 13 := Nat.pow_le_pow_right (by decide) (by rw [List.length_take, ← Lib.size_eq]; omega)
    have hv : val (a.data.toList.take (i + 1)) = 10 * val (a.data.toList.take i) + (x.toNat - 48) := by rw [ht, val_append]; simp [val]; omega
    rw [deci_value.l0, if_pos (by omega), if_pos (by omega), if_pos (by omega), hb, wrap_nat (by omega)]
    have e : wrap64 (wrap64 ((val (a.data.toList.take i) : Int) * 10) + ((x.toNat : Int) - 48) % 256) = (val (a.data.toList.take (i + 1)) : Int) := by
      rw [wrap_id (x := (val (a.data.toList.take i) : Int) * 10) (by omega) (by omega), wrap_id (by omega) (by omega), hv]
      omega
    rw [e]
    exact ih k (i + 1) (by omega) (by omega)
theorem value_is (k : Nat) (a : ByteArray) (hd : a.data.toList.all isDig = true) (hn : a.size ≤ 13) (hk : a.size < k) : deci_value.f k a = some (val a.data.toList : Int) :=
  value_loop a hd hn a.size k 0 (by omega) hk
theorem power_loop (n : Nat) (hn : n ≤ 18) : ∀ (d k i : Nat), i + d = n → d < k → deci_power.l0 k ((10 ^ i : Nat) : Int) (n : Int) (i : Int) = some ((10 ^ n : Nat) : Int) := by
  intro d
  induction d with
  | zero =>
    intro k i h hk
    obtain ⟨k, rfl⟩ : ∃ m, k = m + 1 := ⟨k - 1, by omega⟩
    obtain rfl : i = n := by omega
    rw [deci_power.l0, if_neg (by omega)]
  | succ d ih =>
    intro k i h hk
    obtain ⟨k, rfl⟩ : ∃ m, k = m + 1 := ⟨k - 1, by omega⟩
    have hp : 10 ^ i ≤ 10 ^ 17 := Nat.pow_le_pow_right (by decide) (by omega)
    rw [deci_power.l0, if_pos (by omega), wrap_nat (by omega)]
    have e : wrap64 (((10 ^ i : Nat) : Int) * 10) = ((10 ^ (i + 1) : Nat) : Int) := by
      rw [Nat.pow_succ]
      generalize 10 ^ i = P at hp
      rw [wrap_id (by omega) (by omega)]; omega
    rw [e]
    exact ih k (i + 1) (by omega) (by omega)
theorem power_is (k n : Nat) (hn : n ≤ 18) (hk : n < k) : deci_power.f k (n : Int) = some ((10 ^ n : Nat) : Int) :=
  power_loop n hn n k 0 (by omega) hk
end Go.Proofs.YtfhpppibiemhkaaDoor.P
