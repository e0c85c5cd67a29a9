/- Floats that stand for whole numbers below 2^53: their arithmetic is exact. Plain facts on Ieee. -/
import Derived.Test.YtajblfmabokgkaaFl
namespace Go.Proofs.YtajblfmabokgkaaR
open Ieee Ieee.Datum
/-- The number 'm * 2 ^ e' with its sign is the whole number n. -/
def FVal (s : Bool) (m : Nat) (e : Int) (n : Int) : Prop := ∃ k : Nat, n = (if s = true then -(k : Int) else (k : Int)) ∧ m * 2 ^ e.toNat = k * 2 ^ (-e).toNat
/-- A word of float64 stands for the whole number n. -/
def FIs (x : Nat) (n : Int) : Prop := x < 18446744073709551616 ∧ ∃ s m e, double.read x = .number s m e ∧ FVal s m e n
theorem pow_split {a b c : Nat} (h : a = b + c) : 2 ^ a = 2 ^ b * 2 ^ c := by rw [h, Nat.pow_add]
theorem log2_mul_pow {k : Nat} (hk : k ≠ 0) (d : Nat) : (k * 2 ^ d).log2 = k.log2 + d := by
  have h := fl_log2 hk
  have hp := Nat.two_pow_pos d
  rw [Nat.log2_eq_iff (Nat.mul_ne_zero hk (by omega))]
  refine ⟨?_, ?_⟩
  · rw [Nat.pow_add]; exact Nat.mul_le_mul_right _ h.1
  · rw [show k.log2 + d + 1 = (k.log2 + 1) + d by omega, Nat.pow_add]; exact Nat.mul_lt_mul_of_pos_right h.2 hp
theorem log2_val {m k : Nat} {e : Int} (hk : k ≠ 0) (h : m * 2 ^ e.toNat = k * 2 ^ (-e).toNat) : m ≠ 0 ∧ (m.log2 : Int) + e = k.log2 := by
  have hm : m ≠ 0 := by
    rintro rfl
    rw [Nat.zero_mul] at h
    have := Nat.mul_ne_zero hk (Nat.ne_of_gt (Nat.two_pow_pos (-e).toNat))
    omega
  refine ⟨hm, ?_⟩
  have := congrArg Nat.log2 h
  rw [log2_mul_pow hm, log2_mul_pow hk] at this
  omega
theorem cut_exact (neg : Bool) (q d : Nat) (hq : q ≠ 0) : Toward.even.cut neg (q * 2 ^ d) d = q := by
  unfold Toward.cut
  simp only [Nat.one_shiftLeft]
  rw [log2_mul_pow hq, show min d (q.log2 + d + 2) = d by omega, Nat.mul_div_cancel _ (Nat.two_pow_pos d), Nat.mul_mod_left]
  have h := Nat.two_pow_pos d
  simp
theorem cutz_exact (neg : Bool) (q d : Nat) : Toward.zero.cut neg (q * 2 ^ d) d = q := by
  by_cases hq : q = 0
  · subst hq; simp [cut_zero]
  · rw [cut_zero, log2_mul_pow hq, show min d (q.log2 + d + 2) = d by omega, Nat.mul_div_cancel _ (Nat.two_pow_pos d)]
theorem nearest_gens (f : Format) (s : Bool) (m : Nat) (p last : Int) (h : m ≠ 0) (hl : max (p + (m.log2 : Int) - (f.fractionBits : Nat)) f.leastPlace = last) :
    f.nearest s m p = f.word s (min ((last - f.leastPlace).toNat * f.binade + Toward.even.cut s (m <<< (p - last).toNat) (last - p).toNat) f.infRung) := by
  subst hl
  unfold Format.nearest
  rw [if_neg h]
theorem read_gen (f : Format) (w : Nat) (neg : Bool) (rung : Nat) (hn : (w / f.signWeight % 2 == 1) = neg) (hr : w % f.signWeight = rung) (h1 : ¬ rung < f.binade) (h2 : rung < f.infRung) :
    f.read w = .number neg (f.binade + rung % f.binade) (f.leastPlace + (rung / f.binade - 1 : Nat)) := by
  subst hn hr
  unfold Format.read
  simp only
  rw [if_neg h1, if_pos h2]
theorem word_dbl (s : Bool) (r : Nat) : double.word s r = if s = true then 9223372036854775808 + r else r := by
  have hs := dbl_sign
  unfold Format.word
  rw [hs]
theorem read_word (s : Bool) (r : Nat) (h : 4503599627370496 ≤ r) (h2 : r < 9218868437227405312) :
    double.read (double.word s r) = .number s (4503599627370496 + r % 4503599627370496) (-1074 + ((r / 4503599627370496 - 1 : Nat) : Int)) := by
  have hn : (double.word s r / double.signWeight % 2 == 1) = s := by
    rw [word_dbl, dbl_sign]
    cases s
    · rw [if_neg Bool.false_ne_true, Nat.div_eq_of_lt (by omega)]; rfl
    · rw [if_pos rfl, show (9223372036854775808 + r) / 9223372036854775808 = 1 by omega]; rfl
  have hr : double.word s r % double.signWeight = r := by
    rw [word_dbl, dbl_sign]
    cases s
    · rw [if_neg Bool.false_ne_true]; omega
    · rw [if_pos rfl]; omega
  have key := read_gen double (double.word s r) s r hn hr (by rw [dbl_binade]; omega) (by rw [dbl_inf]; omega)
  rw [dbl_binade, dbl_least] at key
  exact key
theorem nearest_zero (f : Format) (s : Bool) (e : Int) : f.nearest s 0 e = f.word s 0 := by
  unfold Format.nearest
  rw [if_pos rfl]
theorem read_zero (s : Bool) (e : Int) : double.read (double.nearest s 0 e) = .number s 0 (-1074) := by
  rw [nearest_zero, word_dbl]
  cases s
  · rw [if_neg Bool.false_ne_true]; decide
  · rw [if_pos rfl]; decide
theorem rung_gen (C l p inf : Nat) (h : (l + 1023) * C + p ≤ inf) : min ((l + 1022) * C + (C + p)) inf = (l + 1023) * C + p := by
  have e : (l + 1022) * C + (C + p) = (l + 1023) * C + p := by
    rw [show l + 1023 = (l + 1022) + 1 from rfl, Nat.add_mul (l + 1022) 1 C, Nat.one_mul, Nat.add_assoc]
  rw [e]
  exact Nat.min_eq_left h
theorem rung_is (l p : Nat) (hl : l ≤ 52) (hp : p < 4503599627370496) :
    min ((l + 1022) * 4503599627370496 + (4503599627370496 + p)) 9218868437227405312 = (l + 1023) * 4503599627370496 + p :=
  rung_gen 4503599627370496 l p 9218868437227405312 (by omega)
theorem rung_div (l p : Nat) (hp : p < 4503599627370496) : ((l + 1023) * 4503599627370496 + p) / 4503599627370496 = l + 1023 := by omega
theorem rung_mod (l p : Nat) (hp : p < 4503599627370496) : ((l + 1023) * 4503599627370496 + p) % 4503599627370496 = p := by omega
theorem rung_read (s : Bool) (l p : Nat) (hl : l ≤ 52) (hp : p < 4503599627370496) :
    double.read (double.word s ((l + 1023) * 4503599627370496 + p)) = .number s (4503599627370496 + p) ((l : Int) - 52) := by
  have key := read_word s ((l + 1023) * 4503599627370496 + p) (by omega) (by omega)
  rw [rung_div l p hp, rung_mod l p hp] at key
  have e : -1074 + ((l + 1023 - 1 : Nat) : Int) = (l : Int) - 52 := by omega
  rw [e] at key
  exact key
/-- What is written of a whole number below 2^53 stands for it. -/
theorem write_exact {s : Bool} {m : Nat} {e n : Int} (h : FVal s m e n) (hb : n.natAbs < 9007199254740992) : FIs (double.nearest s m e) n := by
  refine ⟨double.nearest_lt s m e, ?_⟩
  obtain ⟨k, hn, hk⟩ := h
  have hkb : k < 9007199254740992 := by cases s <;> simp at hn <;> omega
  by_cases hz : k = 0
  · subst hz
    have hm : m = 0 := by
      rw [Nat.zero_mul] at hk
      rcases Nat.mul_eq_zero.1 hk with h | h
      · exact h
      · exact absurd h (Nat.ne_of_gt (Nat.two_pow_pos _))
    subst hm
    exact ⟨s, 0, -1074, read_zero s e, 0, hn, by rw [Nat.zero_mul, Nat.zero_mul]⟩
  · obtain ⟨hm, hlog⟩ := log2_val hz hk
    have hl2 : k.log2 ≤ 52 := by
      have h := (fl_log2 hz).1
      have : ¬ 53 ≤ k.log2 := fun hc => by
        have := Nat.pow_le_pow_right (show 0 < 2 by decide) hc
        omega
      omega
    have hlast : max (e + (m.log2 : Int) - (double.fractionBits : Nat)) double.leastPlace = (k.log2 : Int) - 52 := by
      rw [dbl_least, show ((double.fractionBits : Nat) : Int) = 52 from rfl]
      omega
    have hnear := nearest_gens double s m e _ hm hlast
    rw [dbl_least, dbl_binade, dbl_inf] at hnear
    -- what is kept
    obtain ⟨q, hq⟩ : ∃ q, q = k * 2 ^ (52 - k.log2) := ⟨_, rfl⟩
    have hq0 : q ≠ 0 := by rw [hq]; exact Nat.mul_ne_zero hz (Nat.ne_of_gt (Nat.two_pow_pos _))
    have hq1 : 4503599627370496 ≤ q ∧ q < 9007199254740992 := by
      have h := fl_log2 hz
      have a : 2 ^ k.log2 * 2 ^ (52 - k.log2) ≤ q := by rw [hq]; exact Nat.mul_le_mul_right _ h.1
      have b : q < 2 ^ (k.log2 + 1) * 2 ^ (52 - k.log2) := by rw [hq]; exact Nat.mul_lt_mul_of_pos_right h.2 (Nat.two_pow_pos _)
      rw [← Nat.pow_add] at a b
      rw [show k.log2 + (52 - k.log2) = 52 by omega] at a
      rw [show k.log2 + 1 + (52 - k.log2) = 53 by omega] at b
      omega
    have hcut : Toward.even.cut s (m <<< (e - ((k.log2 : Int) - 52)).toNat) (((k.log2 : Int) - 52) - e).toNat = q := by
      by_cases c : (k.log2 : Int) - 52 ≤ e
      · rw [show (((k.log2 : Int) - 52) - e).toNat = 0 by omega, cut_none, Nat.shiftLeft_eq, hq]
        by_cases ce : 0 ≤ e
        · rw [show (-e).toNat = 0 by omega, Nat.pow_zero, Nat.mul_one] at hk
          rw [← hk, Nat.mul_assoc, ← Nat.pow_add]
          congr 2
          rw [hk]
          omega
        · rw [show e.toNat = 0 by omega, Nat.pow_zero, Nat.mul_one] at hk
          rw [hk, Nat.mul_assoc, ← Nat.pow_add]
          congr 2
          omega
      · rw [show (e - ((k.log2 : Int) - 52)).toNat = 0 by omega, Nat.shiftLeft_zero]
        rw [show e.toNat = 0 by omega, Nat.pow_zero, Nat.mul_one] at hk
        have : m = q * 2 ^ (((k.log2 : Int) - 52) - e).toNat := by
          rw [hk, hq, Nat.mul_assoc, ← Nat.pow_add]
          congr 2
          omega
        rw [this]
        exact cut_exact _ _ _ hq0
    rw [hcut, show ((k.log2 : Int) - 52 - (-1074)).toNat = k.log2 + 1022 by omega] at hnear
    rw [hnear]
    obtain ⟨l, hl⟩ : ∃ l, l = k.log2 := ⟨_, rfl⟩
    rw [← hl] at hl2 hq ⊢
    obtain ⟨p, hp⟩ : ∃ p, q = 4503599627370496 + p := ⟨q - 4503599627370496, by omega⟩
    have hp2 : p < 4503599627370496 := by omega
    rw [hp, rung_is l p hl2 hp2]
    refine ⟨s, _, _, rung_read s l p hl2 hp2, k, hn, ?_⟩
    rw [← hp, hq]
    clear hk hcut hnear hlast hlog hp hq hq1 hp2
    rw [show ((l : Int) - 52).toNat = 0 by omega, Nat.pow_zero, Nat.mul_one]
    congr 2
    omega
theorem nearest_exact (n : Int) (hb : n.natAbs < 9007199254740992) : FIs (FloatKind.f64.nearest n) n := by
  refine write_exact (s := decide (n < 0)) (m := n.natAbs) (e := 0) ⟨n.natAbs, ?_, by simp⟩ hb
  by_cases c : n < 0
  · rw [if_pos (decide_eq_true c)]; omega
  · rw [if_neg (by simpa using c)]; omega
theorem signed_eq (s : Bool) (m up : Nat) : signed s m up = if s = true then -((m * 2 ^ up : Nat) : Int) else ((m * 2 ^ up : Nat) : Int) := by
  unfold signed
  rw [Nat.shiftLeft_eq]
theorem signed_val {s : Bool} {m : Nat} {i a base : Int} (h : FVal s m i a) (hb : base ≤ i) :
    signed s m (i - base).toNat * ((2 ^ base.toNat : Nat) : Int) = a * ((2 ^ (-base).toNat : Nat) : Int) := by
  obtain ⟨k, ha, hk⟩ := h
  have key : m * 2 ^ (i - base).toNat * 2 ^ base.toNat = k * 2 ^ (-base).toNat := by
    by_cases c : 0 ≤ base
    · rw [show (-base).toNat = 0 by omega, Nat.mul_assoc, ← Nat.pow_add, show (i - base).toNat + base.toNat = i.toNat by omega, hk, show (-i).toNat = 0 by omega]
    · rw [show base.toNat = 0 by omega, Nat.pow_zero, Nat.mul_one]
      by_cases d : 0 ≤ i
      · rw [show (-i).toNat = 0 by omega, Nat.pow_zero, Nat.mul_one] at hk
        rw [show (i - base).toNat = i.toNat + (-base).toNat by omega, Nat.pow_add, ← Nat.mul_assoc, hk]
      · rw [show i.toNat = 0 by omega, Nat.pow_zero, Nat.mul_one] at hk
        rw [hk, Nat.mul_assoc, ← Nat.pow_add]
        congr 2
        omega
  rw [signed_eq, ha]
  cases s
  · simp only [Bool.false_eq_true, if_false]
    rw [← Int.natCast_mul, key, Int.natCast_mul]
  · simp only [if_true]
    rw [Int.neg_mul, Int.neg_mul, ← Int.natCast_mul, key, Int.natCast_mul]
/-- A whole number, told by what it is times a power. -/
theorem fval_of {neg : Bool} {t a base : Int} (hneg : t ≠ 0 → neg = decide (t < 0)) (h : t * ((2 ^ base.toNat : Nat) : Int) = a * ((2 ^ (-base).toNat : Nat) : Int)) : FVal neg t.natAbs base a := by
  have p1 : (0 : Int) < ((2 ^ base.toNat : Nat) : Int) := by have := Nat.two_pow_pos base.toNat; omega
  have p2 : (0 : Int) < ((2 ^ (-base).toNat : Nat) : Int) := by have := Nat.two_pow_pos (-base).toNat; omega
  refine ⟨a.natAbs, ?_, ?_⟩
  · by_cases z : t = 0
    · rw [z, Int.zero_mul] at h
      have : a = 0 := by
        rcases Int.mul_eq_zero.1 h.symm with h | h
        · exact h
        · omega
      subst this
      cases neg <;> simp
    · rw [hneg z]
      by_cases c : t < 0
      · rw [if_pos (decide_eq_true c)]
        have h2 := Int.mul_neg_of_neg_of_pos c p1
        rw [h] at h2
        have : a < 0 := by
          refine Int.not_le.1 fun hc => ?_
          have := Int.mul_nonneg hc (Int.le_of_lt p2)
          omega
        omega
      · rw [if_neg (by simpa using c)]
        have h2 := Int.mul_pos (show 0 < t by omega) p1
        rw [h] at h2
        have : 0 < a := by
          refine Int.not_le.1 fun hc => ?_
          have := Int.mul_nonneg (show 0 ≤ -a by omega) (Int.le_of_lt p2)
          rw [Int.neg_mul] at this
          omega
        omega
  · have := congrArg Int.natAbs h
    rw [Int.natAbs_mul, Int.natAbs_mul, Int.natAbs_natCast, Int.natAbs_natCast] at this
    exact this
theorem sum_val {s t : Bool} {m n : Nat} {i j a b : Int} (h1 : FVal s m i a) (h2 : FVal t n j b) :
    ∃ sg mg e, Datum.sum (.number s m i) (.number t n j) = some (.number sg mg e) ∧ FVal sg mg e (a + b) := by
  refine ⟨_, _, _, rfl, ?_⟩
  refine fval_of (fun hz => if_neg hz) ?_
  rw [Int.add_mul, signed_val h1 (Int.min_le_left i j), signed_val h2 (Int.min_le_right i j), Int.add_mul]
theorem product_val {s t : Bool} {m n : Nat} {i j a b : Int} (h1 : FVal s m i a) (h2 : FVal t n j b) :
    FVal (s ^^ t) (m * n) (i + j) (a * b) := by
  obtain ⟨k, ha, hk⟩ := h1
  obtain ⟨l, hb, hl⟩ := h2
  refine ⟨k * l, ?_, ?_⟩
  · rw [ha, hb]
    cases s <;> cases t <;> simp [Int.natCast_mul, Int.mul_neg, Int.neg_mul]
  · obtain ⟨d, hd⟩ : ∃ d, i.toNat + j.toNat = (i + j).toNat + d ∧ (-i).toNat + (-j).toNat = (-(i + j)).toNat + d := ⟨i.toNat + j.toNat - (i + j).toNat, by omega, by omega⟩
    have e : (m * n) * 2 ^ (i + j).toNat * 2 ^ d = k * l * 2 ^ (-(i + j)).toNat * 2 ^ d := by
      rw [Nat.mul_assoc, ← Nat.pow_add, ← hd.1, Nat.mul_assoc (k * l), ← Nat.pow_add, ← hd.2, Nat.pow_add, Nat.pow_add]
      calc m * n * (2 ^ i.toNat * 2 ^ j.toNat) = (m * 2 ^ i.toNat) * (n * 2 ^ j.toNat) := by ac_rfl
        _ = (k * 2 ^ (-i).toNat) * (l * 2 ^ (-j).toNat) := by rw [hk, hl]
        _ = k * l * (2 ^ (-i).toNat * 2 ^ (-j).toNat) := by ac_rfl
    exact Nat.eq_of_mul_eq_mul_right (Nat.two_pow_pos d) e
theorem opposite_val {s : Bool} {m : Nat} {i a : Int} (h : FVal s m i a) : FVal (!s) m i (-a) := by
  obtain ⟨k, ha, hk⟩ := h
  refine ⟨k, ?_, hk⟩
  rw [ha]
  cases s <;> simp
theorem fl_add {x y : Nat} {a b : Int} (hx : FIs x a) (hy : FIs y b) (hb : (a + b).natAbs < 9007199254740992) : ∃ z, FloatKind.f64.format.add x y = some z ∧ FIs z (a + b) := by
  obtain ⟨_, s, m, i, e1, v1⟩ := hx
  obtain ⟨_, t, n, j, e2, v2⟩ := hy
  obtain ⟨sg, mg, e, hs, hv⟩ := sum_val v1 v2
  refine ⟨double.nearest sg mg e, ?_, write_exact hv hb⟩
  show ((double.read x).sum (double.read y)).map double.write = _
  rw [e1, e2, hs]
  rfl
theorem fl_sub {x y : Nat} {a b : Int} (hx : FIs x a) (hy : FIs y b) (hb : (a - b).natAbs < 9007199254740992) : ∃ z, FloatKind.f64.format.sub x y = some z ∧ FIs z (a - b) := by
  obtain ⟨_, s, m, i, e1, v1⟩ := hx
  obtain ⟨_, t, n, j, e2, v2⟩ := hy
  obtain ⟨sg, mg, e, hs, hv⟩ := sum_val v1 (opposite_val v2)
  rw [← Int.sub_eq_add_neg] at hv
  refine ⟨double.nearest sg mg e, ?_, write_exact hv hb⟩
  show ((double.read x).sum (double.read y).opposite).map double.write = _
  rw [e1, e2]
  show (Datum.sum (.number s m i) (.number (!t) n j)).map double.write = _
  rw [hs]
  rfl
theorem fl_mul {x y : Nat} {a b : Int} (hx : FIs x a) (hy : FIs y b) (hb : (a * b).natAbs < 9007199254740992) : ∃ z, FloatKind.f64.format.mul x y = some z ∧ FIs z (a * b) := by
  obtain ⟨_, s, m, i, e1, v1⟩ := hx
  obtain ⟨_, t, n, j, e2, v2⟩ := hy
  refine ⟨double.nearest (s ^^ t) (m * n) (i + j), ?_, write_exact (product_val v1 v2) hb⟩
  show ((double.read x).product (double.read y)).map double.write = _
  rw [e1, e2]
  rfl
theorem fl_order {x y : Nat} {a b : Int} (hx : FIs x a) (hy : FIs y b) : FloatKind.f64.format.order x y = some (compare a b) := by
  obtain ⟨_, s, m, i, e1, v1⟩ := hx
  obtain ⟨_, t, n, j, e2, v2⟩ := hy
  show (double.read x).order (double.read y) = _
  rw [e1, e2]
  show some (compare _ _) = _
  congr 1
  have g1 := signed_val v1 (Int.min_le_left i j)
  have g2 := signed_val v2 (Int.min_le_right i j)
  obtain ⟨A, hA⟩ : ∃ A, A = signed s m (i - min i j).toNat := ⟨_, rfl⟩
  obtain ⟨B, hB⟩ : ∃ B, B = signed t n (j - min i j).toNat := ⟨_, rfl⟩
  rw [← hA] at g1 ⊢
  rw [← hB] at g2 ⊢
  obtain ⟨P, hP⟩ : ∃ P : Int, P = ((2 ^ (min i j).toNat : Nat) : Int) := ⟨_, rfl⟩
  obtain ⟨Q, hQ⟩ : ∃ Q : Int, Q = ((2 ^ (-min i j).toNat : Nat) : Int) := ⟨_, rfl⟩
  have p1 : 0 < P := by have := Nat.two_pow_pos (min i j).toNat; omega
  have q1 : 0 < Q := by have := Nat.two_pow_pos (-min i j).toNat; omega
  rw [← hP, ← hQ] at g1 g2
  have l1 : ∀ {u v : Int}, u < v ↔ u * P < v * P := fun {u v} => ⟨fun h => Int.mul_lt_mul_of_pos_right h p1, fun h => Int.lt_of_mul_lt_mul_right h (Int.le_of_lt p1)⟩
  have l2 : ∀ {u v : Int}, u < v ↔ u * Q < v * Q := fun {u v} => ⟨fun h => Int.mul_lt_mul_of_pos_right h q1, fun h => Int.lt_of_mul_lt_mul_right h (Int.le_of_lt q1)⟩
  have c1 : A < B ↔ a < b := by rw [l1, g1, g2, ← l2]
  have c2 : B < A ↔ b < a := by rw [l1, g1, g2, ← l2]
  show compareOfLessAndEq A B = compareOfLessAndEq a b
  unfold compareOfLessAndEq
  by_cases d1 : a < b
  · rw [if_pos (c1.2 d1), if_pos d1]
  · rw [if_neg (fun h => d1 (c1.1 h)), if_neg d1]
    by_cases d2 : a = b
    · have : A = B := by
        have := mt c2.1 (by omega : ¬ b < a)
        have := mt c1.1 d1
        omega
      rw [if_pos this, if_pos d2]
    · have : A ≠ B := by
        have := c2.2 (by omega : b < a)
        omega
      rw [if_neg this, if_neg d2]
theorem integral_val {s : Bool} {m : Nat} {e n : Int} (h : FVal s m e n) : Datum.integral .zero (.number s m e) = .number s n.natAbs 0 := by
  obtain ⟨k, hn, hk⟩ := h
  have hnk : n.natAbs = k := by cases s <;> simp at hn <;> omega
  unfold Datum.integral
  simp only
  rw [hnk]
  congr 1
  by_cases c : 0 ≤ e
  · rw [show (-e).toNat = 0 by omega, Nat.pow_zero, Nat.mul_one] at hk
    rw [show (-e).toNat = 0 by omega, Nat.shiftLeft_eq, hk]
    have := cutz_exact s k 0
    rw [Nat.pow_zero, Nat.mul_one] at this
    exact this
  · rw [show e.toNat = 0 by omega, Nat.pow_zero, Nat.mul_one] at hk
    rw [show e.toNat = 0 by omega, Nat.shiftLeft_zero, hk]
    exact cutz_exact s k _
theorem fl_toInt {x : Nat} {n : Int} (h : FIs x n) : (FloatKind.f64.decode x).toInt .zero = some n := by
  obtain ⟨_, s, m, e, h1, h2⟩ := h
  show (double.read x).toInt .zero = _
  rw [h1]
  unfold Datum.toInt
  rw [integral_val h2]
  obtain ⟨k, hn, _⟩ := h2
  simp only [signed_eq, Nat.pow_zero, Nat.mul_one]
  cases s <;> simp at hn ⊢ <;> omega
theorem fl_trunc {x : Nat} {n : Int} (h : FIs x n) (hb : n.natAbs < 9007199254740992) : ∃ s m e, FloatKind.f64.decode x = .number s m e ∧ FIs (FloatKind.f64.encode ((Datum.number s m e).integral .zero)) n := by
  obtain ⟨_, s, m, e, h1, h2⟩ := h
  refine ⟨s, m, e, h1, ?_⟩
  rw [integral_val h2]
  obtain ⟨k, hn, _⟩ := h2
  refine write_exact ⟨n.natAbs, ?_, by simp⟩ hb
  cases s <;> simp at hn ⊢ <;> omega
theorem xor_top (x : Nat) : (x ^^^ 9223372036854775808) % 9223372036854775808 = x % 9223372036854775808 ∧ (x ^^^ 9223372036854775808) / 9223372036854775808 % 2 = 1 - x / 9223372036854775808 % 2 := by
  constructor
  · have h := Nat.xor_mod_two_pow (a := x) (b := 2 ^ 63) (n := 63)
    rw [Nat.mod_self, Nat.xor_zero] at h
    exact h
  · have h := Nat.shiftRight_xor_distrib (a := x) (b := 2 ^ 63) (i := 63)
    rw [Nat.shiftRight_eq_div_pow, Nat.shiftRight_eq_div_pow, Nat.shiftRight_eq_div_pow, Nat.div_self (Nat.two_pow_pos 63)] at h
    have g := Nat.xor_mod_two_pow (a := x / 2 ^ 63) (b := 1) (n := 1)
    rw [← h] at g
    have e : ∀ z : Nat, z < 2 → z ^^^ 1 % 2 ^ 1 = 1 - z := by
      intro z hz
      have : z = 0 ∨ z = 1 := by omega
      rcases this with rfl | rfl <;> rfl
    exact g.trans (e _ (Nat.mod_lt _ (by decide)))
theorem read_sign (f : Format) (w v : Nat) (hr : v % f.signWeight = w % f.signWeight) (b : Bool) (hs : (v / f.signWeight % 2 == 1) = b) (s : Bool) (m : Nat) (e : Int) (h : f.read w = .number s m e) : f.read v = .number b m e := by
  unfold Format.read at h ⊢
  simp only at h ⊢
  rw [hr, hs]
  split at h
  · rename_i c; cases h; rw [if_pos c]
  · rename_i c
    rw [if_neg c]
    split at h
    · rename_i c2; cases h; rw [if_pos c2]
    · split at h <;> cases h
theorem read_neg (f : Format) (w : Nat) (s : Bool) (m : Nat) (e : Int) (h : f.read w = .number s m e) : (w / f.signWeight % 2 == 1) = s := by
  unfold Format.read at h
  simp only at h
  split at h
  · cases h; rfl
  · split at h
    · cases h; rfl
    · split at h <;> cases h
theorem fl_neg {x : Nat} {n : Int} (h : FIs x n) : FIs (Op.negFloat .f64 x) (-n) := by
  obtain ⟨hx, s, m, e, h1, h2⟩ := h
  have hv : Op.negFloat .f64 x = x ^^^ 9223372036854775808 := rfl
  rw [hv]
  obtain ⟨t1, t2⟩ := xor_top x
  have hlt : x ^^^ 9223372036854775808 < 18446744073709551616 := Nat.xor_lt_two_pow (n := 64) hx (by decide)
  refine ⟨hlt, !s, m, e, ?_, opposite_val h2⟩
  have hs := read_neg double x s m e h1
  rw [dbl_sign] at hs
  refine read_sign double x _ (by rw [dbl_sign]; exact t1) _ ?_ s m e h1
  rw [dbl_sign, t2, ← hs]
  have : x / 9223372036854775808 % 2 < 2 := Nat.mod_lt _ (by decide)
  have : x / 9223372036854775808 % 2 = 0 ∨ x / 9223372036854775808 % 2 = 1 := by omega
  rcases this with h | h <;> rw [h] <;> rfl
theorem fl_abs {x : Nat} {n : Int} (h : FIs x n) : FIs (x % 9223372036854775808) n.natAbs := by
  obtain ⟨hx, s, m, e, h1, h2⟩ := h
  obtain ⟨k, hn, hk⟩ := h2
  refine ⟨by omega, false, m, e, ?_, k, ?_, hk⟩
  · refine read_sign double x _ (by rw [dbl_sign]; omega) false ?_ s m e h1
    rw [dbl_sign]
    have : x % 9223372036854775808 / 9223372036854775808 = 0 := by omega
    rw [this]
    rfl
  · cases s <;> simp at hn ⊢ <;> omega
end Go.Proofs.YtajblfmabokgkaaR
