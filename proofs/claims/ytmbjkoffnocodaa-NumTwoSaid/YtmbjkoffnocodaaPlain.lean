/- Numbers: what the printed functions tell, in plain words. -/
import Derived.Test.YtmbjkoffnocodaaP1
import Derived.Test.YtmbjkoffnocodaaP2
import Derived.Test.YtmbjkoffnocodaaP3
import Derived.Test.YtmbjkoffnocodaaP4
namespace Go.Proofs.Ytmbjkoffnocodaa.P
open Go.Proofs.YtmbjkoffnocodaaR
open Go.RowKit Go.Proofs.YtmbjkoffnocodaaW.PrintWords Go.Proofs.YtmbjkoffnocodaaW.PrintLast Go.Proofs.YtmbjkoffnocodaaW.PrintMore
def ok64 (a : Int) : Bool := decide (-1152921504606846976 ≤ a ∧ a ≤ 1152921504606846976)
theorem ok64_iff (a : Int) : ok64 a = true ↔ (-1152921504606846976 ≤ a ∧ a ≤ 1152921504606846976) := by unfold ok64; rw [decide_eq_true_eq]
theorem may_is (a : Int) : num_may.f a = some (ok64 a) := by
  unfold num_may.f ok64
  split
  · simp only [Option.some.injEq, decide_eq_decide]; omega
  · symm; simp only [Option.some.injEq, decide_eq_false_iff_not]; omega
theorem May_is (a : Int) : jitneyref01_May.f a = some (ok64 a) := by
  unfold jitneyref01_May.f ok64
  split
  · simp only [Option.some.injEq, decide_eq_decide]; omega
  · symm; simp only [Option.some.injEq, decide_eq_false_iff_not]; omega
theorem add_is (a b : Int) : num_Add.f a b = some (if (ok64 a && ok64 b && ok64 (wrap64 (a + b))) = true then (wrap64 (a + b), true) else (0, false)) := by
  unfold num_Add.f
  simp only [may_is, Option.bind_some]
  cases ok64 a <;> cases ok64 b <;> cases ok64 (wrap64 (a + b)) <;> rfl
theorem wrap_id {x : Int} (h0 : -9223372036854775808 ≤ x) (h1 : x ≤ 9223372036854775807) : wrap64 x = x := by
  unfold wrap64
  omega
theorem wrap_succ {i n : Nat} (h : i < n) (hn : n ≤ 8796093022208) : wrap64 ((i : Int) + 1) = ((i + 1 : Nat) : Int) := by
  unfold wrap64
  omega
/-- A row's sum, as long as all partial sums may be. -/
def sumF (acc : Int) : List Int → Int × Bool
  | [] => (acc, true)
  | x :: xs => if (ok64 acc && ok64 x && ok64 (wrap64 (acc + x))) = true then sumF (wrap64 (acc + x)) xs else (0, false)
theorem rd_drop {xs : List Int} {i : Nat} (h : i < xs.length) : xs.drop i = rd xs i :: xs.drop (i + 1) := by
  rw [List.drop_eq_getElem_cons h]
  congr 1
  unfold rd
  simp [h]
theorem sum_loop (xs : List Int) (hl : xs.length ≤ 8796093022208) : ∀ (d k i : Nat) (acc : Int), xs.length - i = d → i ≤ xs.length → d < k → num_Sum.l0 k acc xs (xs.length : Int) (i : Int) = some (sumF acc (xs.drop i)) := by
  intro d
  induction d with
  | zero =>
    intro k i acc hd hi hk
    obtain ⟨k, rfl⟩ : ∃ m, k = m + 1 := ⟨k - 1, by omega⟩
    simp only [num_Sum.l0]
    rw [if_neg (by omega), List.drop_eq_nil_of_le (by omega)]
    rfl
  | succ d ih =>
    intro k i acc hd hi hk
    obtain ⟨k, rfl⟩ : ∃ m, k = m + 1 := ⟨k - 1, by omega⟩
    have hlt : i < xs.length := by omega
    simp only [num_Sum.l0]
    rw [if_pos (by omega), if_pos (by omega), if_pos (by omega), add_is, rd_drop hlt]
    simp only [Option.bind_some, sumF]
    by_cases c : (ok64 acc && ok64 (rd xs i) && ok64 (wrap64 (acc + rd xs i))) = true
    · simp only [c, if_true]
      rw [wrap_succ hlt hl]
      exact ih k (i + 1) _ (by omega) (by omega) (by omega)
    · rw [if_neg c, if_neg c]
      rfl
theorem sum_is (xs : List Int) (hl : xs.length ≤ 8796093022208) (k : Nat) (hk : xs.length < k) : num_Sum.f k xs = some (sumF 0 xs) := by
  have := sum_loop xs hl xs.length k 0 0 (by omega) (by omega) hk
  simpa [num_Sum.f] using this
theorem refSum_loop (xs : List Int) (hl : xs.length ≤ 8796093022208) : ∀ (d k i : Nat) (acc : Int), ok64 acc = true → xs.length - i = d → i ≤ xs.length → d < k → jitneyref01_Sum.l0 k xs acc (i : Int) = some (sumF acc (xs.drop i)) := by
  intro d
  induction d with
  | zero =>
    intro k i acc _ hd hi hk
    obtain ⟨k, rfl⟩ : ∃ m, k = m + 1 := ⟨k - 1, by omega⟩
    simp only [jitneyref01_Sum.l0]
    rw [if_neg (by omega), List.drop_eq_nil_of_le (by omega)]
    rfl
  | succ d ih =>
    intro k i acc ha hd hi hk
    obtain ⟨k, rfl⟩ : ∃ m, k = m + 1 := ⟨k - 1, by omega⟩
    have hlt : i < xs.length := by omega
    simp only [jitneyref01_Sum.l0]
    rw [if_pos (by omega), if_pos (by omega), rd_drop hlt]
    simp only [May_is, Option.bind_some, sumF, ha, Bool.true_and]
    cases c1 : ok64 (rd xs i)
    · rfl
    · cases c2 : ok64 (wrap64 (acc + rd xs i))
      · rfl
      · simp only [if_true, Bool.and_self]
        rw [wrap_succ hlt hl]
        exact ih k (i + 1) _ c2 (by omega) (by omega) (by omega)
theorem refSum_is (xs : List Int) (hl : xs.length ≤ 8796093022208) (k : Nat) (hk : xs.length < k) : jitneyref01_Sum.f k xs = some (sumF 0 xs) := by
  have := refSum_loop xs hl xs.length k 0 0 (by decide) (by omega) (by omega) hk
  simpa [jitneyref01_Sum.f] using this
theorem held_is (a lo hi : Int) : num_Held.f a lo hi = some (mx (mn a hi) lo) := rfl
theorem held_range (a lo hi : Int) (h : lo ≤ hi) : lo ≤ mx (mn a hi) lo ∧ mx (mn a hi) lo ≤ hi := by
  unfold mx mn
  constructor <;> (repeat' split) <;> omega
/-- The quotient, or the next whole number. -/
theorem ceil_is (a b : Int) (hb : 1 ≤ b) (h0 : -2251799813685248 ≤ a) (h1 : a ≤ 2251799813685248) : ∃ n, num_Ceil.f a b = some n ∧ -2251799813685249 ≤ n ∧ n ≤ 2251799813685249 ∧ (n - 1) * b < a ∧ a ≤ n * b := by
  obtain ⟨q, hq⟩ : ∃ q, q = Int.tdiv a b := ⟨_, rfl⟩
  obtain ⟨t, ht⟩ : ∃ t, t = Int.tmod a b := ⟨_, rfl⟩
  have e : b * q + t = a := by rw [hq, ht]; exact Int.mul_tdiv_add_tmod a b
  have l1 : t < b := by rw [ht]; exact Int.tmod_lt_of_pos a (by omega)
  have l2 : -b < t := by
    rw [ht]
    have := Int.lt_tmod_of_pos a (show 0 < b by omega)
    exact this
  have qb : -2251799813685248 ≤ q ∧ q ≤ 2251799813685248 := by
    have h : q.natAbs ≤ a.natAbs := by rw [hq, Int.natAbs_tdiv]; exact Nat.div_le_self _ _
    omega
  unfold num_Ceil.f
  rw [if_neg (by omega), if_neg (by omega), ← hq, ← ht, wrap_id (x := q) (by omega) (by omega)]
  by_cases c : t > 0
  · rw [if_pos c, wrap_id (by omega) (by omega)]
    refine ⟨_, rfl, by omega, by omega, ?_, ?_⟩
    · rw [Int.add_sub_cancel, Int.mul_comm]; omega
    · rw [Int.add_mul, Int.one_mul, Int.mul_comm]; omega
  · rw [if_neg c]
    refine ⟨_, rfl, by omega, by omega, ?_, ?_⟩
    · rw [Int.sub_mul, Int.one_mul, Int.mul_comm]; omega
    · rw [Int.mul_comm]; omega
theorem and32 (n : Int) (h0 : 0 ≤ n) (h1 : n < 18446744073709551616) : Go.bits .and .u64 n 4294967295 = n % 4294967296 := by
  have hm : (BitVec.ofInt 64 4294967295).toNat = 2 ^ 32 - 1 := by decide
  have key : (BitVec.ofInt 64 n &&& BitVec.ofInt 64 4294967295).toNat = (n % ((2 ^ 64 : Nat) : Int)).toNat % 2 ^ 32 := by
    rw [BitVec.toNat_and, BitVec.toNat_ofInt, hm, Nat.and_two_pow_sub_one_eq_mod]
  show IntKind.u64.wrap ((BitVec.ofInt 64 n &&& BitVec.ofInt 64 4294967295).toNat : Nat) = n % 4294967296
  rw [key]
  show ((((n % ((2 ^ 64 : Nat) : Int)).toNat % 2 ^ 32 : Nat) : Int) % 18446744073709551616) = _
  omega
theorem u64_wrap (n : Int) : IntKind.u64.wrap n = n % 18446744073709551616 := rfl
theorem mul64_is (x y : Int) (x0 : 0 ≤ x) (x1 : x ≤ 1152921504606846976) (y0 : 0 ≤ y) (y1 : y ≤ 1152921504606846976) : bits_Mul64.f x y = some (x * y / 18446744073709551616, x * y % 18446744073709551616) := by
  obtain ⟨p, hp⟩ : ∃ p, p = x / 4294967296 := ⟨_, rfl⟩
  obtain ⟨q, hq⟩ : ∃ q, q = x % 4294967296 := ⟨_, rfl⟩
  obtain ⟨r, hr⟩ : ∃ r, r = y / 4294967296 := ⟨_, rfl⟩
  obtain ⟨s, hs⟩ : ∃ s, s = y % 4294967296 := ⟨_, rfl⟩
  have hA : 0 ≤ p * r ∧ p * r ≤ 268435456 * 268435456 := ⟨Int.mul_nonneg (by omega) (by omega), Int.mul_le_mul (by omega) (by omega) (by omega) (by omega)⟩
  have hB : 0 ≤ p * s ∧ p * s ≤ 268435456 * 4294967295 := ⟨Int.mul_nonneg (by omega) (by omega), Int.mul_le_mul (by omega) (by omega) (by omega) (by omega)⟩
  have hC : 0 ≤ q * r ∧ q * r ≤ 4294967295 * 268435456 := ⟨Int.mul_nonneg (by omega) (by omega), Int.mul_le_mul (by omega) (by omega) (by omega) (by omega)⟩
  have hD : 0 ≤ q * s ∧ q * s ≤ 4294967295 * 4294967295 := ⟨Int.mul_nonneg (by omega) (by omega), Int.mul_le_mul (by omega) (by omega) (by omega) (by omega)⟩
  have hxy : x * y = p * r * 18446744073709551616 + (p * s + q * r) * 4294967296 + q * s := by
    rw [show x = p * 4294967296 + q by omega, show y = r * 4294967296 + s by omega]
    simp only [Int.add_mul, Int.mul_add]
    have e1 : p * 4294967296 * (r * 4294967296) = p * r * 18446744073709551616 := by
      rw [Int.mul_assoc, Int.mul_left_comm 4294967296, ← Int.mul_assoc]
      rfl
    have e2 : p * 4294967296 * s = p * s * 4294967296 := by rw [Int.mul_right_comm]
    have e3 : q * (r * 4294967296) = q * r * 4294967296 := by rw [Int.mul_assoc]
    omega
  obtain ⟨t, ht⟩ : ∃ t, t = p * s + q * s / 4294967296 := ⟨_, rfl⟩
  unfold bits_Mul64.f
  rw [and32 x x0 (by omega), and32 y y0 (by omega), ← hp, ← hq, ← hr, ← hs]
  simp only [u64_wrap]
  rw [Int.emod_eq_of_lt (a := p * r) hA.1 (by omega), Int.emod_eq_of_lt (a := p * s) hB.1 (by omega), Int.emod_eq_of_lt (a := q * s) hD.1 (by omega), Int.emod_eq_of_lt (a := q * r) hC.1 (by omega), Int.emod_eq_of_lt (a := p * s + q * s / 4294967296) (by omega) (by omega), ← ht, and32 t (by omega) (by omega), hxy]
  congr 1
  congr 1
  omega
theorem size_is (a : Int) (h : ok64 a = true) : num_size.f a = some (if a < 0 then -a else a) := by
  rw [ok64_iff] at h
  unfold num_size.f
  split
  · rw [wrap_id (by omega) (by omega), u64_wrap, Int.emod_eq_of_lt (by omega) (by omega)]
  · rw [u64_wrap, Int.emod_eq_of_lt (by omega) (by omega)]
theorem ok_mul {x y z : Int} (h : z = x * y ∨ z = -(x * y)) (hz : 0 ≤ x * y) : ok64 z = decide (x * y ≤ 1152921504606846976) := by
  unfold ok64
  rw [decide_eq_decide]
  omega
theorem abs_mul (a b : Int) : (decide (a < 0) != decide (b < 0)) = true ∧ a * b = -((if a < 0 then -a else a) * (if b < 0 then -b else b)) ∨ (decide (a < 0) != decide (b < 0)) = false ∧ a * b = (if a < 0 then -a else a) * (if b < 0 then -b else b) := by
  by_cases ha : a < 0 <;> by_cases hb : b < 0
  · right; simp only [ha, hb, if_true, decide_true, bne_self_eq_false, Int.neg_mul_neg]; exact ⟨trivial, trivial⟩
  · left; simp only [ha, hb, if_true, if_false, decide_true, decide_false]; exact ⟨by decide, by rw [Int.neg_mul, Int.neg_neg]⟩
  · left; simp only [ha, hb, if_true, if_false, decide_true, decide_false]; exact ⟨by decide, by rw [Int.mul_neg, Int.neg_neg]⟩
  · right; simp only [ha, hb, if_false, decide_false, bne_self_eq_false]; exact ⟨trivial, trivial⟩
theorem mul_is (k : Nat) (a b : Int) : num_Mul.f (k + 2) a b = some (if (ok64 a && ok64 b && ok64 (a * b)) = true then (a * b, true) else (0, false)) := by
  unfold num_Mul.f
  simp only [may_is, Option.bind_some]
  cases ha : ok64 a
  · simp [num_Mul.j0]
  cases hb : ok64 b
  · simp [num_Mul.j0]
  simp only [Bool.and_self, Bool.true_and, if_true, Bool.not_true, num_Mul.j0, Bool.false_eq_true, if_false]
  rw [size_is a ha, size_is b hb]
  rw [ok64_iff] at ha hb
  have key := abs_mul a b
  obtain ⟨x, hx⟩ : ∃ x, x = if a < 0 then -a else a := ⟨_, rfl⟩
  obtain ⟨y, hy⟩ : ∃ y, y = if b < 0 then -b else b := ⟨_, rfl⟩
  have x0 : 0 ≤ x ∧ x ≤ 1152921504606846976 := by rw [hx]; split <;> omega
  have y0 : 0 ≤ y ∧ y ≤ 1152921504606846976 := by rw [hy]; split <;> omega
  rw [← hx, ← hy] at key ⊢
  simp only [Option.bind_some]
  rw [mul64_is x y x0.1 x0.2 y0.1 y0.2]
  have hz : 0 ≤ x * y := Int.mul_nonneg x0.1 y0.1
  have hok : ok64 (a * b) = decide (x * y ≤ 1152921504606846976) := ok_mul (key.elim (fun h => .inr h.2) (fun h => .inl h.2)) hz
  rw [hok]
  simp only [Option.bind_some]
  by_cases c : x * y ≤ 1152921504606846976
  · have e0 : x * y / 18446744073709551616 = 0 := by omega
    have e1 : x * y % 18446744073709551616 = x * y := by omega
    rw [if_pos e0, e1, num_Mul.j1]
    have c1 : decide (x * y > 1152921504606846976) = false := by simp; omega
    have c2 : decide (x * y ≤ 1152921504606846976) = true := by simp [c]
    rw [c1, c2, if_neg (by decide), if_pos rfl]
    rcases key with ⟨h1, h2⟩ | ⟨h1, h2⟩
    · rw [h1, if_pos rfl, h2, wrap_id (x := x * y) (by omega) (by omega), wrap_id (by omega) (by omega)]
    · rw [h1, if_neg (by decide), h2, wrap_id (by omega) (by omega)]
  · have c2 : decide (x * y ≤ 1152921504606846976) = false := by simp [c]
    rw [c2, if_neg Bool.false_ne_true]
    by_cases e0 : x * y / 18446744073709551616 = 0
    · have c1 : decide (x * y % 18446744073709551616 > 1152921504606846976) = true := by simp; omega
      rw [if_pos e0, num_Mul.j1, c1, if_pos rfl]
    · rw [if_neg e0, num_Mul.j1, if_pos rfl]
theorem refMul_is (k : Nat) (a b : Int) : jitneyref01_Mul.f (k + 3) a b = some (if (ok64 a && ok64 b && ok64 (a * b)) = true then (a * b, true) else (0, false)) := by
  unfold jitneyref01_Mul.f
  simp only [May_is, Option.bind_some]
  cases ha : ok64 a
  · simp [jitneyref01_Mul.j0]
  cases hb : ok64 b
  · simp [jitneyref01_Mul.j0]
  simp only [Bool.and_self, Bool.true_and, if_true, Bool.not_true, jitneyref01_Mul.j0, Bool.false_eq_true, if_false]
  rw [ok64_iff] at ha hb
  by_cases za : a = 0
  · rw [if_pos za, jitneyref01_Mul.j1, if_pos rfl, za, Int.zero_mul]; rfl
  rw [if_neg za]
  by_cases zb : b = 0
  · rw [show (b == 0) = true by simp [zb], jitneyref01_Mul.j1, if_pos rfl, zb, Int.mul_zero]; rfl
  rw [show (b == 0) = false by simp [zb], jitneyref01_Mul.j1, if_neg (by decide)]
  have key := abs_mul a b
  obtain ⟨x, hx⟩ : ∃ x, x = if a < 0 then -a else a := ⟨_, rfl⟩
  obtain ⟨y, hy⟩ : ∃ y, y = if b < 0 then -b else b := ⟨_, rfl⟩
  have x0 : 0 ≤ x ∧ x ≤ 1152921504606846976 := by rw [hx]; split <;> omega
  have y0 : 0 < y ∧ y ≤ 1152921504606846976 := by rw [hy]; split <;> omega
  have hz : 0 ≤ x * y := Int.mul_nonneg x0.1 (by omega)
  rw [← hx, ← hy] at key
  have hok : ok64 (a * b) = decide (x * y ≤ 1152921504606846976) := ok_mul (key.elim (fun h => .inr h.2) (fun h => .inl h.2)) hz
  have e1 : (if a < 0 then jitneyref01_Mul.j2 (k + 1) a b (wrap64 (-a)) b else jitneyref01_Mul.j2 (k + 1) a b a b) = jitneyref01_Mul.j2 (k + 1) a b x b := by
    rw [hx]
    split
    · rw [wrap_id (by omega) (by omega)]
    · rfl
  rw [e1, hok, jitneyref01_Mul.j2]
  have e2 : Int.tdiv 1152921504606846976 y = 1152921504606846976 / y := Int.tdiv_eq_ediv_of_nonneg (by decide)
  have e3 : (1152921504606846976 / y < x) ↔ 1152921504606846976 < x * y := Int.ediv_lt_iff_lt_mul y0.1
  have e4 : 0 ≤ 1152921504606846976 / y ∧ 1152921504606846976 / y ≤ 1152921504606846976 := ⟨Int.ediv_nonneg (by decide) (by omega), Int.ediv_le_self _ (by decide)⟩
  have fin : (if x > wrap64 (Int.tdiv 1152921504606846976 y) then some ((0 : Int), false) else some (wrap64 (a * b), true)) = some (if decide (x * y ≤ 1152921504606846976) = true then (a * b, true) else (0, false)) := by
    rw [e2, wrap_id (by omega) (by omega)]
    by_cases c : x * y ≤ 1152921504606846976
    · rw [if_neg (by omega), if_pos (by simp [c]), wrap_id (by rcases key with h | h <;> omega) (by rcases key with h | h <;> omega)]
    · rw [if_pos (by omega), if_neg (by simp [c])]
  by_cases nb : b < 0
  · have ey : wrap64 (-b) = y := by rw [hy, if_pos nb, wrap_id (by omega) (by omega)]
    rw [if_pos nb, ey, if_neg (by omega)]
    exact fin
  · have ey : b = y := by rw [hy, if_neg nb]
    rw [if_neg nb, if_neg zb]
    conv => lhs; rw [show Int.tdiv 1152921504606846976 b = Int.tdiv 1152921504606846976 y by rw [← ey]]
    exact fin
theorem alive_is (k : Nat) (hk : 10 ≤ k) : jitneylaw01_alive.f k = some true := by
  unfold jitneylaw01_alive.f
  rw [sum_is _ (by decide) k (by simp; omega)]
  obtain ⟨m, rfl⟩ : ∃ m, k = m + 2 := ⟨k - 2, by omega⟩
  rw [mul_is, mul_is]
  kernel_rfl
theorem root_mono (c d : Int) (h : num_Root.cl c ≤ num_Root.cl d) : num_Root.root c ≤ num_Root.root d := by
  obtain ⟨c0, c1, c2⟩ := num_Root.is c
  obtain ⟨d0, d1, d2⟩ := num_Root.is d
  refine Int.not_lt.1 fun hc => ?_
  rcases c2 with h2 | h2
  · omega
  · have := num_Root.sq_le d0 (show num_Root.root d ≤ num_Root.root c - 1 by omega)
    omega
theorem and1023 (n : Int) : Go.bits .and .i64 n 1023 = n % 1024 := by
  have hm : (BitVec.ofInt 64 1023).toNat = 2 ^ 10 - 1 := by decide
  have key : (BitVec.ofInt 64 n &&& BitVec.ofInt 64 1023).toNat = (n % ((2 ^ 64 : Nat) : Int)).toNat % 2 ^ 10 := by
    rw [BitVec.toNat_and, BitVec.toNat_ofInt, hm, Nat.and_two_pow_sub_one_eq_mod]
  show IntKind.i64.wrap ((BitVec.ofInt 64 n &&& BitVec.ofInt 64 1023).toNat : Nat) = n % 1024
  rw [key, IntKind.wrap_i64]
  omega
end Go.Proofs.Ytmbjkoffnocodaa.P
