/- Bytes of a text one by one; digits, values, powers, products: what the printed functions tell. -/
import Derived.Test.YtfhpppibiemhkaaDoorP5
import Derived.Test.YtfhpppibiemhkaaDoorP11
import Derived.Test.YtfhpppibiemhkaaDoorP3
import Derived.Lib.TrimByte
import Derived.Lib.ItoaNum
namespace Go.Proofs.YtfhpppibiemhkaaDoor.P
open Go.Proofs.YtfhpppibiemhkaaDoorR
open Go.RowKit Go.Proofs.YtfhpppibiemhkaaDoorW.PrintWords Go.Proofs.YtfhpppibiemhkaaDoorW.PrintLast Go.Proofs.YtfhpppibiemhkaaDoorW.PrintMore
def ok64 (a : Int) : Bool := decide (-1152921504606846976 ≤ a ∧ a ≤ 1152921504606846976)
theorem ok64_iff (a : Int) : ok64 a = true ↔ (-1152921504606846976 ≤ a ∧ a ≤ 1152921504606846976) := by unfold ok64; rw [decide_eq_true_eq]
theorem may_is (a : Int) : num_may.f a = some (ok64 a) := by
  unfold num_may.f ok64
  split
  · simp only [Option.some.injEq, decide_eq_decide]; omega
  · symm; simp only [Option.some.injEq, decide_eq_false_iff_not]; omega
theorem wrap_id {x : Int} (h0 : -9223372036854775808 ≤ x) (h1 : x ≤ 9223372036854775807) : wrap64 x = x := by
  unfold wrap64
  omega
theorem and32 (n : Int) (h0 : 0 ≤ n) (h1 : n < 18446744073709551616) : Go.bits .and .u64 n 4294967295 = n % 4294967296 := by
  have hm : (BitVec.ofInt 64 4294967295).toNat = 2 ^ 32 - 1 := by decide
  have key : (BitVec.ofInt 64 n &&& BitVec.ofInt 64 4294967295).toNat = (n % ((2 ^ 64 : Nat) : Int)).toNat % 2 ^ 32 := by
    rw [BitVec.toNat_and, BitVec.toNat_ofInt, hm, Nat.and_two_pow_sub_one_eq_mod]
  show IntKind.u64.wrap ((BitVec.ofInt 64 n &&& BitVec.ofInt 64 4294967295).toNat : Nat) = n % 4294967296
  rw [key]
  show ((((n % ((2 ^ 64 : Nat) : Int)).toNat % 2 ^ 32 : Nat) : Int) % 18446744073709551616) = _
  omega
theorem u64_wrap (n : Int) : IntKind.u64.wrap n = n % 18446744073709551616 := rfl
theorem mul64_is (x y : Int) (x0 : 0 ≤ x) (x1 : x ≤ 1152921504606846976) (y0 : 0 ≤ y) (y1 : y ≤ 1152921504606846976) : bits_Mul64.f x y = some (x * y / 18446744073709551616, x * y % 18446744073709551616) := by
  obtain ⟨p, hp⟩ : ∃ p, p = x / 4294967296 := ⟨_, rfl⟩
  obtain ⟨q, hq⟩ : ∃ q, q = x % 4294967296 := ⟨_, rfl⟩
  obtain ⟨r, hr⟩ : ∃ r, r = y / 4294967296 := ⟨_, rfl⟩
  obtain ⟨s, hs⟩ : ∃ s, s = y % 4294967296 := ⟨_, rfl⟩
  have hA : 0 ≤ p * r ∧ p * r ≤ 268435456 * 268435456 := ⟨Int.mul_nonneg (by omega) (by omega), Int.mul_le_mul (by omega) (by omega) (by omega) (by omega)⟩
  have hB : 0 ≤ p * s ∧ p * s ≤ 268435456 * 4294967295 := ⟨Int.mul_nonneg (by omega) (by omega), Int.mul_le_mul (by omega) (by omega) (by omega) (by omega)⟩
  have hC : 0 ≤ q * r ∧ q * r ≤ 4294967295 * 268435456 := ⟨Int.mul_nonneg (by omega) (by omega), Int.mul_le_mul (by omega) (by omega) (by omega) (by omega)⟩
  have hD : 0 ≤ q * s ∧ q * s ≤ 4294967295 * 4294967295 := ⟨Int.mul_nonneg (by omega) (by omega), Int.mul_le_mul (by omega) (by omega) (by omega) (by omega)⟩
  have hxy : x * y = p * r * 18446744073709551616 + (p * s + q * r) * 4294967296 + q * s := by
    rw [show x = p * 4294967296 + q by omega, show y = r * 4294967296 + s by omega]
    simp only [Int.add_mul, Int.mul_add]
    have e1 : p * 4294967296 * (r * 4294967296) = p * r * 18446744073709551616 := by
      rw [Int.mul_assoc, Int.mul_left_comm 4294967296, ← Int.mul_assoc]
      rfl
    have e2 : p * 4294967296 * s = p * s * 4294967296 := by rw [Int.mul_right_comm]
    have e3 : q * (r * 4294967296) = q * r * 4294967296 := by rw [Int.mul_assoc]
    omega
  obtain ⟨t, ht⟩ : ∃ t, t = p * s + q * s / 4294967296 := ⟨_, rfl⟩
  unfold bits_Mul64.f
  rw [and32 x x0 (by omega), and32 y y0 (by omega), ← hp, ← hq, ← hr, ← hs]
  simp only [u64_wrap]
  rw [Int.emod_eq_of_lt (a := p * r) hA.1 (by omega), Int.emod_eq_of_lt (a := p * s) hB.1 (by omega), Int.emod_eq_of_lt (a := q * s) hD.1 (by omega), Int.emod_eq_of_lt (a := q * r) hC.1 (by omega), Int.emod_eq_of_lt (a := p * s + q * s / 4294967296) (by omega) (by omega), ← ht, and32 t (by omega) (by omega), hxy]
  congr 1
  congr 1
  omega
theorem size_is (a : Int) (h : ok64 a = true) : num_size.f a = some (if a < 0 then -a else a) := by
  rw [ok64_iff] at h
  unfold num_size.f
  split
  · rw [wrap_id (by omega) (by omega), u64_wrap, Int.emod_eq_of_lt (by omega) (by omega)]
  · rw [u64_wrap, Int.emod_eq_of_lt (by omega) (by omega)]
theorem ok_mul {x y z : Int} (h : z = x * y ∨ z = -(x * y)) (hz : 0 ≤ x * y) : ok64 z = decide (x * y ≤ 1152921504606846976) := by
  unfold ok64
  rw [decide_eq_decide]
  omega
theorem abs_mul (a b : Int) : (decide (a < 0) != decide (b < 0)) = true ∧ a * b = -((if a < 0 then -a else a) * (if b < 0 then -b else b)) ∨ (decide (a < 0) != decide (b < 0)) = false ∧ a * b = (if a < 0 then -a else a) * (if b < 0 then -b else b) := by
  by_cases ha : a < 0 <;> by_cases hb : b < 0
  · right; simp only [ha, hb, if_true, decide_true, bne_self_eq_false, Int.neg_mul_neg]; exact ⟨trivial, trivial⟩
  · left; simp only [ha, hb, if_true, if_false, decide_true, decide_false]; exact ⟨by decide, by rw [Int.neg_mul, Int.neg_neg]⟩
  · left; simp only [ha, hb, if_true, if_false, decide_true, decide_false]; exact ⟨by decide, by rw [Int.mul_neg, Int.neg_neg]⟩
  · right; simp only [ha, hb, if_false, decide_false, bne_self_eq_false]; exact ⟨trivial, trivial⟩
theorem mul_is (k : Nat) (a b : Int) : num_Mul.f (k + 2) a b = some (if (ok64 a && ok64 b && ok64 (a * b)) = true then (a * b, true) else (0, false)) := by
  unfold num_Mul.f
  simp only [may_is, Option.bind_some]
  cases ha : ok64 a
  · simp [num_Mul.j0]
  cases hb : ok64 b
  · simp [num_Mul.j0]
  simp only [Bool.and_self, Bool.true_and, if_true, Bool.not_true, num_Mul.j0, Bool.false_eq_true, if_false]
  rw [size_is a ha, size_is b hb]
  rw [ok64_iff] at ha hb
  have key := abs_mul a b
  obtain ⟨x, hx⟩ : ∃ x, x = if a < 0 then -a else a := ⟨_, rfl⟩
  obtain ⟨y, hy⟩ : ∃ y, y = if b < 0 then -b else b := ⟨_, rfl⟩
  have x0 : 0 ≤ x ∧ x ≤ 1152921504606846976 := by rw [hx]; split <;> omega
  have y0 : 0 ≤ y ∧ y ≤ 1152921504606846976 := by rw [hy]; split <;> omega
  rw [← hx, ← hy] at key ⊢
  simp only [Option.bind_some]
  rw [mul64_is x y x0.1 x0.2 y0.1 y0.2]
  have hz : 0 ≤ x * y := Int.mul_nonneg x0.1 y0.1
  have hok : ok64 (a * b) = decide (x * y ≤ 1152921504606846976) := ok_mul (key.elim (fun h => .inr h.2) (fun h => .inl h.2)) hz
  rw [hok]
  simp only [Option.bind_some]
  by_cases c : x * y ≤ 1152921504606846976
  · have e0 : x * y / 18446744073709551616 = 0 := by omega
    have e1 : x * y % 18446744073709551616 = x * y := by omega
    rw [if_pos e0, e1, num_Mul.j1]
    have c1 : decide (x * y > 1152921504606846976) = false := by simp; omega
    have c2 : decide (x * y ≤ 1152921504606846976) = true := by simp [c]
    rw [c1, c2, if_neg (by decide), if_pos rfl]
    rcases key with ⟨h1, h2⟩ | ⟨h1, h2⟩
    · rw [h1, if_pos rfl, h2, wrap_id (x := x * y) (by omega) (by omega), wrap_id (by omega) (by omega)]
    · rw [h1, if_neg (by decide), h2, wrap_id (by omega) (by omega)]
  · have c2 : decide (x * y ≤ 1152921504606846976) = false := by simp [c]
    rw [c2, if_neg Bool.false_ne_true]
    by_cases e0 : x * y / 18446744073709551616 = 0
    · have c1 : decide (x * y % 18446744073709551616 > 1152921504606846976) = true := by simp; omega
      rw [if_pos e0, num_Mul.j1, c1, if_pos rfl]
    · rw [if_neg e0, num_Mul.j1, if_pos rfl]
theorem wrap_nat {i : Nat} (hn : i < 1000000000000) : wrap64 ((i : Int) + 1) = ((i + 1 : Nat) : Int) := by
  unfold wrap64
  omega
def mkB (l : List UInt8) : ByteArray := ⟨l.toArray⟩
theorem mkB_data (l : List UInt8) : (mkB l).data.toList = l := by simp [mkB]
theorem mkB_of (a : ByteArray) : mkB a.data.toList = a := Lib.mk_data a
theorem mkB_size (l : List UInt8) : (mkB l).size = l.length := by rw [Lib.size_eq, mkB_data]
theorem mkB_append (l m : List UInt8) : mkB l ++ mkB m = mkB (l ++ m) := by
  rw [← mkB_of (mkB l ++ mkB m)]
  congr 1
theorem mkB_toList (l : List UInt8) : (mkB l).toList = l := by rw [Lib.toList_data, mkB_data]
theorem mkB_inj {l m : List UInt8} (h : mkB l = mkB m) : l = m := by rw [← mkB_data l, h, mkB_data]
theorem bt_drop (a : ByteArray) (i : Nat) (h : i < a.size) : ∃ x, a.data.toList.drop i = x :: a.data.toList.drop (i + 1) ∧ bt a (i : Int) = (x.toNat : Int) := by
  have hl : i < a.data.toList.length := by rw [← Lib.size_eq]; exact h
  refine ⟨a.data.toList[i], List.drop_eq_getElem_cons hl, ?_⟩
  unfold bt
  rw [dif_pos (by omega)]
  rfl
theorem drop_end (a : ByteArray) (i : Nat) (h : i = a.size) : a.data.toList.drop i = [] := List.drop_eq_nil_of_le (by rw [← Lib.size_eq]; omega)

def isDig (b : UInt8) : Bool := decide (48 ≤ b.toNat ∧ b.toNat ≤ 57)
def isChr (b : UInt8) : Bool := decide (33 ≤ b.toNat ∧ b.toNat ≤ 126)
def val (l : List UInt8) : Nat := l.foldl (fun n b => 10 * n + (b.toNat - 48)) 0

theorem digits_loop (a : ByteArray) (most : Int) (hn : a.size ≤ 1000000) : ∀ (d k i : Nat), i + d = a.size → d < k → deci_digits.l0 k a most (a.size : Int) (i : Int) = some ((a.data.toList.drop i).all isDig && (decide (1 ≤ a.size) && decide ((a.size : Int) ≤ most))) := by
  intro d
  induction d with
  | zero =>
    intro k i h hk
    obtain ⟨k, rfl⟩ : ∃ m, k = m + 1 := ⟨k - 1, by omega⟩
    rw [deci_digits.l0, if_neg (by omega), drop_end a i (by omega)]
    by_cases c : 1 ≤ a.size
    · rw [if_pos (by omega)]; simp [c]
    · rw [if_neg (by omega)]; simp [c]
  | succ d ih =>
    intro k i h hk
    obtain ⟨k, rfl⟩ : ∃ m, k = m + 1 := ⟨k - 1, by omega⟩
    obtain ⟨x, hx, hb⟩ := bt_drop a i (by omega)
    rw [deci_digits.l0, if_pos (by omega), if_pos (by omega), if_pos (by omega), hb, hx, wrap_nat (by omega), ih k (i + 1) (by omega) (by omega), List.all_cons]
    by_cases c1 : (x.toNat : Int) < 48
    · have e : isDig x = false := decide_eq_false (by omega)
      rw [if_pos c1, e]; rfl
    · rw [if_neg c1]
      by_cases c2 : (x.toNat : Int) > 57
      · have e : isDig x = false := decide_eq_false (by omega)
        rw [if_pos c2, e]; rfl
      · have e : isDig x = true := decide_eq_true (by omega)
        rw [if_neg c2, e, Bool.true_and]
theorem digits_is (k : Nat) (a : ByteArray) (most : Int) (hn : a.size ≤ 1000000) (hk : a.size < k) : deci_digits.f k a most = some (a.data.toList.all isDig && (decide (1 ≤ a.size) && decide ((a.size : Int) ≤ most))) :=
  digits_loop a most hn a.size k 0 (by omega) hk
theorem word_loop (a : ByteArray) (hn : a.size ≤ 1000000) : ∀ (d k i : Nat), i + d = a.size → d < k → deci_word.l0 k a (a.size : Int) (i : Int) = some ((a.data.toList.drop i).all isChr && decide (a.data.toList ≠ [])) := by
  intro d
  induction d with
  | zero =>
    intro k i h hk
    obtain ⟨k, rfl⟩ : ∃ m, k = m + 1 := ⟨k - 1, by omega⟩
    rw [deci_word.l0, if_neg (by omega), drop_end a i (by omega), Lib.toList_data]
    simp only [List.all_nil, Bool.true_and, Option.some.injEq]
    cases a.data.toList <;> simp
  | succ d ih =>
    intro k i h hk
    obtain ⟨k, rfl⟩ : ∃ m, k = m + 1 := ⟨k - 1, by omega⟩
    obtain ⟨x, hx, hb⟩ := bt_drop a i (by omega)
    rw [deci_word.l0, if_pos (by omega), if_pos (by omega), if_pos (by omega), hb, hx, wrap_nat (by omega), ih k (i + 1) (by omega) (by omega), List.all_cons]
    by_cases c1 : (x.toNat : Int) < 33
    · have e : isChr x = false := decide_eq_false (by omega)
      rw [if_pos c1, e]; rfl
    · rw [if_neg c1]
      by_cases c2 : (x.toNat : Int) > 126
      · have e : isChr x = false := decide_eq_false (by omega)
        rw [if_pos c2, e]; rfl
      · have e : isChr x = true := decide_eq_true (by omega)
        rw [if_neg c2, e, Bool.true_and]
def wordB (l : List UInt8) : Bool := l.all isChr && decide (l ≠ [])
theorem word_is (k : Nat) (a : ByteArray) (hn : a.size ≤ 1000000) (hk : a.size < k) : deci_word.f k a = some (wordB a.data.toList) :=
  word_loop a hn a.size k 0 (by omega) hk
theorem val_cons_from (l : List UInt8) : ∀ n : Nat, l.foldl (fun n b => 10 * n + (b.toNat - 48)) n = n * 10 ^ l.length + val l := by
  induction l with
  | nil => intro n; simp [val]
  | cons x t ih =>
    intro n
    unfold val
    rw [List.foldl_cons, List.foldl_cons, ih, ih (10 * 0 + (x.toNat - 48)), List.length_cons, Nat.pow_succ]
    rw [Nat.add_mul, Nat.add_mul, Nat.mul_comm 10 n, Nat.mul_assoc, Nat.mul_comm 10 (10 ^ t.length)]
    omega
theorem val_append (l m : List UInt8) : val (l ++ m) = val l * 10 ^ m.length + val m := by
  show (l ++ m).foldl _ 0 = _
  rw [List.foldl_append, val_cons_from]
  rfl
theorem val_lt (l : List UInt8) (h : l.all isDig = true) : val l < 10 ^ l.length := by
  induction l with
  | nil => simp [val]
  | cons x t ih =>
    rw [List.all_cons, Bool.and_eq_true] at h
    have hx : x.toNat ≤ 57 := by have := h.1; unfold isDig at this; exact (of_decide_eq_true this).2
    have := ih h.2
    have e : val (x :: t) = (x.toNat - 48) * 10 ^ t.length + val t := by
      show (x :: t).foldl _ 0 = _
      rw [List.foldl_cons, val_cons_from]; simp
    rw [e, List.length_cons, Nat.pow_succ]
    have h9 : (x.toNat - 48) * 10 ^ t.length ≤ 9 * 10 ^ t.length := Nat.mul_le_mul_right _ (by omega)
    omega
theorem value_loop (a : ByteArray) (hd : a.data.toList.all isDig = true) (hn : a.size ≤ 13) : ∀ (d k i : Nat), i + d = a.size → d < k → deci_value.l0 k a (val (a.data.toList.take i) : Int) (a.size : Int) (i : Int) = some (val a.data.toList : Int) := by
  intro d
  induction d with
  | zero =>
    intro k i h hk
    obtain ⟨k, rfl⟩ : ∃ m, k = m + 1 := ⟨k - 1, by omega⟩
    rw [deci_value.l0, if_neg (by omega), List.take_of_length_le (by rw [← Lib.size_eq]; omega)]
  | succ d ih =>
    intro k i h hk
    obtain ⟨k, rfl⟩ : ∃ m, k = m + 1 := ⟨k - 1, by omega⟩
    obtain ⟨x, hx, hb⟩ := bt_drop a i (by omega)
    have hl : i < a.data.toList.length := by rw [← Lib.size_eq]; omega
    have hxe : a.data.toList[i] = x := by rw [List.drop_eq_getElem_cons hl] at hx; exact (List.cons.inj hx).1
    have ht : a.data.toList.take (i + 1) = a.data.toList.take i ++ [x] := by rw [List.take_succ_eq_append_getElem hl, hxe]
    have hdx : isDig x = true := by rw [← hxe]; exact List.all_eq_true.1 hd _ (List.getElem_mem hl)
    have hx2 : 48 ≤ x.toNat ∧ x.toNat ≤ 57 := by unfold isDig at hdx; exact of_decide_eq_true hdx
    have hlt := val_lt (a.data.toList.take i) (List.all_eq_true.2 fun y hy => List.all_eq_true.1 hd y (List.mem_of_mem_take hy))
    have hpow : 10 ^ (a.data.toList.take i).length ≤ 10 ^ 13 := Nat.pow_le_pow_right (by decide) (by rw [List.length_take, ← Lib.size_eq]; omega)
    have hv : val (a.data.toList.take (i + 1)) = 10 * val (a.data.toList.take i) + (x.toNat - 48) := by rw [ht, val_append]; simp [val]; omega
    rw [deci_value.l0, if_pos (by omega), if_pos (by omega), if_pos (by omega), hb, wrap_nat (by omega)]
    have e : wrap64 (wrap64 ((val (a.data.toList.take i) : Int) * 10) + ((x.toNat : Int) - 48) % 256) = (val (a.data.toList.take (i + 1)) : Int) := by
      rw [wrap_id (x := (val (a.data.toList.take i) : Int) * 10) (by omega) (by omega), wrap_id (by omega) (by omega), hv]
      omega
    rw [e]
    exact ih k (i + 1) (by omega) (by omega)
theorem value_is (k : Nat) (a : ByteArray) (hd : a.data.toList.all isDig = true) (hn : a.size ≤ 13) (hk : a.size < k) : deci_value.f k a = some (val a.data.toList : Int) :=
  value_loop a hd hn a.size k 0 (by omega) hk
theorem power_loop (n : Nat) (hn : n ≤ 18) : ∀ (d k i : Nat), i + d = n → d < k → deci_power.l0 k ((10 ^ i : Nat) : Int) (n : Int) (i : Int) = some ((10 ^ n : Nat) : Int) := by
  intro d
  induction d with
  | zero =>
    intro k i h hk
    obtain ⟨k, rfl⟩ : ∃ m, k = m + 1 := ⟨k - 1, by omega⟩
    obtain rfl : i = n := by omega
    rw [deci_power.l0, if_neg (by omega)]
  | succ d ih =>
    intro k i h hk
    obtain ⟨k, rfl⟩ : ∃ m, k = m + 1 := ⟨k - 1, by omega⟩
    have hp : 10 ^ i ≤ 10 ^ 17 := Nat.pow_le_pow_right (by decide) (by omega)
    rw [deci_power.l0, if_pos (by omega), wrap_nat (by omega)]
    have e : wrap64 (((10 ^ i : Nat) : Int) * 10) = ((10 ^ (i + 1) : Nat) : Int) := by
      rw [Nat.pow_succ]
      generalize 10 ^ i = P at hp
      rw [wrap_id (by omega) (by omega)]; omega
    rw [e]
    exact ih k (i + 1) (by omega) (by omega)
theorem power_is (k n : Nat) (hn : n ≤ 18) (hk : n < k) : deci_power.f k (n : Int) = some ((10 ^ n : Nat) : Int) :=
  power_loop n hn n k 0 (by omega) hk
/-! ### decimal digits -/
open Go
abbrev dec (u : Nat) : List UInt8 := Lib.decDigits u
def dgb (d : Nat) : UInt8 := UInt8.ofNat (48 + d)
theorem dgb_nat (d : Nat) (h : d < 10) : (dgb d).toNat = 48 + d := by
  unfold dgb
  rw [UInt8.toNat_ofNat']
  omega
theorem dgb_dig (d : Nat) (h : d < 10) : isDig (dgb d) = true := by
  unfold isDig; rw [dgb_nat d h]; exact decide_eq_true (by omega)
theorem dec_small {u : Nat} (h : u < 10) : dec u = [dgb u] := Lib.decDigits_one h
theorem dec_big {u : Nat} (h : ¬ u < 10) : dec u = dec (u / 10) ++ [dgb (u % 10)] := by
  show Lib.decDigits u = _
  rw [Lib.decDigits, dif_neg h]
  rfl
theorem dec_dig : ∀ u : Nat, (dec u).all isDig = true := by
  intro u
  induction u using Nat.strongRecOn with
  | ind u ih =>
    by_cases h : u < 10
    · rw [dec_small h]; simp [dgb_dig u h]
    · rw [dec_big h, List.all_append, ih (u / 10) (by omega)]; simp [dgb_dig (u % 10) (by omega)]
theorem dec_val : ∀ u : Nat, val (dec u) = u := by
  intro u
  induction u using Nat.strongRecOn with
  | ind u ih =>
    by_cases h : u < 10
    · rw [dec_small h]
      show 10 * 0 + ((dgb u).toNat - 48) = u
      rw [dgb_nat u h]; omega
    · rw [dec_big h, val_append, ih (u / 10) (by omega)]
      show u / 10 * 10 ^ 1 + (10 * 0 + ((dgb (u % 10)).toNat - 48)) = u
      rw [dgb_nat _ (by omega)]; omega
theorem dec_len_pos (u : Nat) : 1 ≤ (dec u).length := by
  rw [Lib.decDigits_length]; exact Lib.nDigits_pos u
theorem dec_len_le : ∀ (n u : Nat), 1 ≤ n → u < 10 ^ n → (dec u).length ≤ n := by
  intro n
  induction n with
  | zero => intro u h; omega
  | succ n ih =>
    intro u _ hu
    by_cases h : u < 10
    · rw [dec_small h]; simp
    · rw [dec_big h, List.length_append]
      have hn : 1 ≤ n := by
        rcases Nat.eq_zero_or_pos n with rfl | h0
        · exfalso; simp at hu; omega
        · exact h0
      have := ih (u / 10) hn (by rw [Nat.pow_succ] at hu; omega)
      simp; omega
/-- the s digits of r -/
def dgs : Nat → Nat → List UInt8
  | 0, _ => []
  | s + 1, r => dgs s (r / 10) ++ [dgb (r % 10)]
theorem dgs_len (s : Nat) : ∀ r, (dgs s r).length = s := by
  induction s with
  | zero => intro r; rfl
  | succ s ih => intro r; simp [dgs, ih]
theorem dgs_dig (s : Nat) : ∀ r, (dgs s r).all isDig = true := by
  induction s with
  | zero => intro r; rfl
  | succ s ih => intro r; simp only [dgs, List.all_append, ih]; simp [dgb_dig (r % 10) (by omega)]
theorem dgs_val (s : Nat) : ∀ r, r < 10 ^ s → val (dgs s r) = r := by
  induction s with
  | zero => intro r h; simp at h; subst h; rfl
  | succ s ih =>
    intro r h
    rw [Nat.pow_succ] at h
    show val (dgs s (r / 10) ++ [dgb (r % 10)]) = r
    rw [val_append, ih (r / 10) (by omega)]
    show r / 10 * 10 ^ 1 + (10 * 0 + ((dgb (r % 10)).toNat - 48)) = r
    rw [dgb_nat _ (by omega)]; omega
/-- a numeral with noughts ahead, to a length above s -/
def pad1 (s u : Nat) : List UInt8 := List.replicate (s + 1 - (dec u).length) 48 ++ dec u
theorem pad1_succ (s u : Nat) : pad1 (s + 1) u = pad1 s (u / 10) ++ [dgb (u % 10)] := by
  unfold pad1
  by_cases h : u < 10
  · have h0 : u / 10 = 0 := by omega
    have h1 : u % 10 = u := by omega
    rw [h0, h1, dec_small h, dec_small (show 0 < 10 by omega)]
    have e0 : dgb 0 = 48 := by decide
    rw [e0]
    show List.replicate (s + 1 + 1 - 1) 48 ++ [dgb u] = (List.replicate (s + 1 - 1) 48 ++ [48]) ++ [dgb u]
    rw [show s + 1 + 1 - 1 = s + 1 by omega, show s + 1 - 1 = s by omega, List.replicate_succ']
  · rw [dec_big h, List.length_append, ← List.append_assoc]
    show List.replicate (s + 1 + 1 - ((dec (u / 10)).length + 1)) 48 ++ dec (u / 10) ++ [dgb (u % 10)] = _
    rw [show s + 1 + 1 - ((dec (u / 10)).length + 1) = s + 1 - (dec (u / 10)).length by omega]
theorem pad1_is (s : Nat) : ∀ u, pad1 s u = dec (u / 10 ^ s) ++ dgs s (u % 10 ^ s) := by
  induction s with
  | zero =>
    intro u
    unfold pad1
    have := dec_len_pos u
    rw [show 0 + 1 - (dec u).length = 0 by omega]
    simp [dgs]
  | succ s ih =>
    intro u
    rw [pad1_succ, ih (u / 10)]
    show _ = dec (u / 10 ^ (s + 1)) ++ (dgs s (u % 10 ^ (s + 1) / 10) ++ [dgb (u % 10 ^ (s + 1) % 10)])
    have e1 : u / 10 / 10 ^ s = u / 10 ^ (s + 1) := by rw [Nat.div_div_eq_div_mul, Nat.pow_succ, Nat.mul_comm]
    have e2 : u / 10 % 10 ^ s = u % 10 ^ (s + 1) / 10 := by
      rw [Nat.pow_succ, Nat.mul_comm (10 ^ s) 10, Nat.mod_mul_right_div_self]
    have e3 : u % 10 ^ (s + 1) % 10 = u % 10 := by
      rw [Nat.pow_succ, Nat.mul_comm (10 ^ s) 10, Nat.mod_mul_right_mod]
    rw [e1, e2, e3, List.append_assoc]
theorem pad_is (s r : Nat) (h : r < 10 ^ s) : s = 0 ∨ List.replicate (s - (dec r).length) 48 ++ dec r = dgs s r := by
  cases s with
  | zero => left; rfl
  | succ s =>
    right
    show pad1 s r = _
    cases s with
    | zero =>
      have h10 : r < 10 := by simpa using h
      rw [pad1_is]
      simp only [Nat.pow_zero, Nat.div_one, dgs, List.append_nil, List.nil_append]
      rw [dec_small h10, Nat.mod_eq_of_lt h10]
    | succ s =>
      rw [pad1_succ, pad1_is]
      show _ = dgs (s + 1) (r / 10) ++ [dgb (r % 10)]
      congr 1
      rw [Nat.pow_succ, Nat.pow_succ] at h
      have hq : r / 10 / 10 ^ s < 10 := by
        rw [Nat.div_div_eq_div_mul, Nat.div_lt_iff_lt_mul (Nat.mul_pos (by decide) (Nat.pow_pos (by decide)))]
        generalize 10 ^ s = P at h
        omega
      rw [dec_small hq]
      have key : ∀ (s x : Nat), x / 10 ^ s < 10 → [dgb (x / 10 ^ s)] ++ dgs s (x % 10 ^ s) = dgs (s + 1) x := by
        intro s
        induction s with
        | zero => intro x hx; simp only [Nat.pow_zero, Nat.div_one, dgs, List.append_nil, List.nil_append] at hx ⊢; rw [Nat.mod_eq_of_lt hx]
        | succ s ih =>
          intro x hx
          have e1 : x / 10 / 10 ^ s = x / 10 ^ (s + 1) := by rw [Nat.div_div_eq_div_mul, Nat.pow_succ, Nat.mul_comm]
          have e2 : x / 10 % 10 ^ s = x % 10 ^ (s + 1) / 10 := by
            rw [Nat.pow_succ, Nat.mul_comm (10 ^ s) 10, Nat.mod_mul_right_div_self]
          have e3 : x % 10 ^ (s + 1) % 10 = x % 10 := by
            rw [Nat.pow_succ, Nat.mul_comm (10 ^ s) 10, Nat.mod_mul_right_mod]
          show [dgb (x / 10 ^ (s + 1))] ++ (dgs s (x % 10 ^ (s + 1) / 10) ++ [dgb (x % 10 ^ (s + 1) % 10)]) = dgs (s + 1) (x / 10) ++ [dgb (x % 10)]
          rw [← ih (x / 10) (by rw [e1]; exact hx), e1, e2, e3, List.append_assoc]
      exact key s (r / 10) hq
/-- what is left when noughts behind are taken away -/
abbrev trm (l : List UInt8) : List UInt8 := Lib.trimRightB l 48
theorem trm_snoc0 (l : List UInt8) : trm (l ++ [48]) = trm l := by simp [trm, Lib.trimRightB]
theorem trm_snoc (l : List UInt8) (x : UInt8) (h : x ≠ 48) : trm (l ++ [x]) = l ++ [x] := by simp [trm, Lib.trimRightB, h]
theorem trm_zeros (l : List UInt8) (n : Nat) : trm (l ++ List.replicate n 48) = trm l := by
  induction n with
  | zero => simp
  | succ n ih => rw [List.replicate_succ', ← List.append_assoc, trm_snoc0, ih]
theorem snoc_cases (l : List UInt8) : l = [] ∨ ∃ i x, l = i ++ [x] := by
  rcases List.eq_nil_or_concat l with h | ⟨i, x, h⟩
  · exact .inl h
  · exact .inr ⟨i, x, by rw [h]; simp⟩
theorem trm_split : ∀ (n : Nat) (l : List UInt8), l.length ≤ n → ∃ m, l = trm l ++ List.replicate m 48 := by
  intro n
  induction n with
  | zero => intro l h; obtain rfl : l = [] := List.length_eq_zero_iff.1 (by omega); exact ⟨0, rfl⟩
  | succ n ih =>
    intro l h
    rcases snoc_cases l with rfl | ⟨i, x, rfl⟩
    · exact ⟨0, rfl⟩
    · by_cases hx : x = 48
      · subst hx
        obtain ⟨m, hm⟩ := ih i (by simp at h; omega)
        exact ⟨m + 1, by rw [trm_snoc0, List.replicate_succ', ← List.append_assoc, ← hm]⟩
      · exact ⟨0, by rw [trm_snoc _ _ hx]; simp⟩
theorem trm_is (l : List UInt8) : l = trm l ++ List.replicate (l.length - (trm l).length) 48 := by
  obtain ⟨m, hm⟩ := trm_split l.length l (Nat.le_refl _)
  have hl := congrArg List.length hm
  rw [List.length_append, List.length_replicate] at hl
  rw [show l.length - (trm l).length = m by omega]
  exact hm
theorem trm_len (l : List UInt8) : (trm l).length ≤ l.length := by
  have hl := congrArg List.length (trm_is l)
  rw [List.length_append, List.length_replicate] at hl
  omega
theorem trm_all (l : List UInt8) (h : l.all isDig = true) : (trm l).all isDig = true := by
  rw [trm_is l, List.all_append, Bool.and_eq_true] at h
  exact h.1
theorem val_zeros (n : Nat) : val (List.replicate n 48) = 0 := by
  induction n with
  | zero => rfl
  | succ n ih =>
    rw [List.replicate_succ', val_append, ih]
    simp [val]
theorem trm_val (l : List UInt8) : val (trm l) * 10 ^ (l.length - (trm l).length) = val l := by
  conv => rhs; rw [trm_is l]
  rw [val_append, val_zeros, List.length_replicate]
  omega
theorem trm_dgs_nil (s r : Nat) (h : r < 10 ^ s) : trm (dgs s r) = [] ↔ r = 0 := by
  constructor
  · intro e
    have := trm_val (dgs s r)
    rw [e, dgs_val s r h] at this
    simpa [val] using this.symm
  · rintro rfl
    have key : ∀ s, dgs s 0 = List.replicate s 48 := by
      intro s
      induction s with
      | zero => rfl
      | succ s ih =>
        show dgs s (0 / 10) ++ [dgb (0 % 10)] = _
        rw [Nat.zero_div, Nat.zero_mod, ih, List.replicate_succ']
        rfl
    rw [key]
    exact trm_zeros [] s
theorem dgs_of_val (l : List UInt8) (h : l.all isDig = true) : dgs l.length (val l) = l := by
  have key : ∀ (n : Nat) (l : List UInt8), l.length = n → l.all isDig = true → dgs n (val l) = l := by
    intro n
    induction n with
    | zero => intro l h _; obtain rfl : l = [] := List.length_eq_zero_iff.1 h; rfl
    | succ n ih =>
      intro l hl hd
      rcases snoc_cases l with rfl | ⟨i, x, rfl⟩
      · simp at hl
      · rw [List.all_append, Bool.and_eq_true] at hd
        have hx : isDig x = true := by simpa using hd.2
        have hx2 : 48 ≤ x.toNat ∧ x.toNat ≤ 57 := by unfold isDig at hx; exact of_decide_eq_true hx
        have hv : val (i ++ [x]) = val i * 10 + (x.toNat - 48) := by rw [val_append]; simp [val]
        show dgs n (val (i ++ [x]) / 10) ++ [dgb (val (i ++ [x]) % 10)] = i ++ [x]
        rw [hv, show (val i * 10 + (x.toNat - 48)) / 10 = val i by omega, show (val i * 10 + (x.toNat - 48)) % 10 = x.toNat - 48 by omega, ih i (by simp at hl; omega) hd.1]
        congr 2
        apply UInt8.toNat_inj.1
        rw [dgb_nat _ (by omega)]
        omega
  exact key l.length l rfl h
theorem dgs_more (s r m : Nat) : dgs (s + m) (r * 10 ^ m) = dgs s r ++ List.replicate m 48 := by
  induction m with
  | zero => simp
  | succ m ih =>
    show dgs (s + m) (r * 10 ^ (m + 1) / 10) ++ [dgb (r * 10 ^ (m + 1) % 10)] = _
    have e : r * 10 ^ (m + 1) = r * 10 ^ m * 10 := by rw [Nat.pow_succ, Nat.mul_assoc]
    rw [e, Nat.mul_div_cancel _ (by decide), Nat.mul_mod_left, ih, List.replicate_succ', List.append_assoc]
    rfl
end Go.Proofs.YtfhpppibiemhkaaDoor.P
