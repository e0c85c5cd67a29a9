/- How great the float root of a whole number up to 2^60 is: cut towards zero it is at most 2^31. Plain facts on Ieee. -/
import Derived.Laws.FloatArith
import Derived.Laws.Externs
namespace Go.Proofs.YtajblfmabokgkaaR
open Ieee Ieee.Datum
theorem fl_log2 {m : Nat} (h : m ≠ 0) : 2 ^ m.log2 ≤ m ∧ m < 2 ^ (m.log2 + 1) := ⟨Nat.log2_self_le h, Nat.lt_log2_self⟩
theorem cut_le (neg : Bool) (n drop : Nat) : Toward.even.cut neg n drop ≤ n / 2 ^ min drop (n.log2 + 2) + 1 := by
  unfold Toward.cut
  simp only [Nat.one_shiftLeft]
  refine Nat.add_le_add_left ?_ _
  exact Bool.toNat_le _
theorem cut_none (neg : Bool) (n : Nat) : Toward.even.cut neg n 0 = n := by
  unfold Toward.cut
  simp [Nat.mod_one]
theorem cut_zero (neg : Bool) (n drop : Nat) : Toward.zero.cut neg n drop = n / 2 ^ min drop (n.log2 + 2) := by
  unfold Toward.cut
  simp [Nat.one_shiftLeft]
/-- What the nearest word keeps of a number, at 52 places behind its first digit. -/
theorem kept_le (m : Nat) (p : Int) (h : m ≠ 0) :
    Toward.even.cut false (m <<< (p - (p + m.log2 - 52)).toNat) ((p + m.log2 - 52) - p).toNat ≤ 2 ^ 53 := by
  obtain ⟨_, h2⟩ := fl_log2 h
  rw [show p - (p + (m.log2 : Int) - 52) = 52 - (m.log2 : Int) by omega, show (p + (m.log2 : Int) - 52) - p = (m.log2 : Int) - 52 by omega]
  by_cases hl : m.log2 ≤ 52
  · rw [show ((m.log2 : Int) - 52).toNat = 0 by omega, cut_none, show (52 - (m.log2 : Int)).toNat = 52 - m.log2 by omega, Nat.shiftLeft_eq]
    have : m * 2 ^ (52 - m.log2) ≤ 2 ^ (m.log2 + 1) * 2 ^ (52 - m.log2) := Nat.mul_le_mul_right _ (Nat.le_of_lt h2)
    rw [← Nat.pow_add, show m.log2 + 1 + (52 - m.log2) = 53 by omega] at this
    exact this
  · rw [show (52 - (m.log2 : Int)).toNat = 0 by omega, Nat.shiftLeft_zero, show ((m.log2 : Int) - 52).toNat = m.log2 - 52 by omega]
    refine Nat.le_trans (cut_le _ _ _) ?_
    rw [show min (m.log2 - 52) (m.log2 + 2) = m.log2 - 52 by omega]
    have : m / 2 ^ (m.log2 - 52) < 2 ^ 53 := by
      rw [Nat.div_lt_iff_lt_mul (Nat.two_pow_pos _), ← Nat.pow_add, show 53 + (m.log2 - 52) = m.log2 + 1 by omega]
      exact h2
    omega
theorem dbl_least : double.leastPlace = -1074 := by decide
theorem dbl_binade : double.binade = 4503599627370496 := by decide
theorem dbl_inf : double.infRung = 9218868437227405312 := by decide
theorem dbl_sign : double.signWeight = 9223372036854775808 := by decide
theorem nearest_gen (f : Format) (m : Nat) (p last : Int) (h : m ≠ 0) (hl : max (p + (m.log2 : Int) - (f.fractionBits : Nat)) f.leastPlace = last) :
    f.nearest false m p = min ((last - f.leastPlace).toNat * f.binade + Toward.even.cut false (m <<< (p - last).toNat) (last - p).toNat) f.infRung := by
  subst hl
  unfold Format.nearest
  rw [if_neg h]
  rfl
theorem nearest_eq (m : Nat) (p : Int) (h : m ≠ 0) (h1 : -1000 ≤ p) :
    double.nearest false m p = min ((p + m.log2 - 52 - (-1074)).toNat * 4503599627370496 + Toward.even.cut false (m <<< (p - (p + m.log2 - 52)).toNat) ((p + m.log2 - 52) - p).toNat) 9218868437227405312 := by
  have hl : max (p + (m.log2 : Int) - (double.fractionBits : Nat)) double.leastPlace = p + (m.log2 : Int) - 52 := by
    rw [dbl_least, show ((double.fractionBits : Nat) : Int) = 52 from rfl]
    omega
  have h := nearest_gen double m p _ h hl
  rw [dbl_least, dbl_binade, dbl_inf] at h
  exact h
theorem nearest_rung (m : Nat) (p T : Int) (h : m ≠ 0) (h1 : -1000 ≤ p) (h2 : p + m.log2 ≤ T) (hT : T ≤ 900) :
    ∃ r : Nat, double.nearest false m p = r ∧ 4503599627370496 ≤ r ∧ (r : Int) ≤ (T + 1024) * 4503599627370496 := by
  have hk := kept_le m p h
  rw [nearest_eq m p h h1]
  obtain ⟨k, hkk⟩ : ∃ k, k = Toward.even.cut false (m <<< (p - (p + m.log2 - 52)).toNat) ((p + m.log2 - 52) - p).toNat := ⟨_, rfl⟩
  rw [← hkk] at hk ⊢
  rw [show (2 : Nat) ^ 53 = 9007199254740992 from rfl] at hk
  refine ⟨_, rfl, ?_, ?_⟩ <;> omega
theorem read_rung (r : Nat) (h : 4503599627370496 ≤ r) (h2 : r < 2047 * 4503599627370496) :
    double.read r = .number false (4503599627370496 + r % 4503599627370496) (-1074 + ((r / 4503599627370496 - 1 : Nat) : Int)) := by
  have hlp := dbl_least
  have hb := dbl_binade
  have hi := dbl_inf
  have hs := dbl_sign
  unfold Format.read
  simp only [hs, hb, hi, hlp]
  rw [Nat.div_eq_of_lt (by omega), Nat.mod_eq_of_lt (show r < 9223372036854775808 by omega), if_neg (by omega), if_pos (by omega)]
  rfl
theorem rootFrom_sq (n : Nat) : ∀ (t r : Nat), r * r ≤ n → rootFrom n t r * rootFrom n t r ≤ n := by
  intro t
  induction t with
  | zero => intro r h; exact h
  | succ t ih =>
    intro r h
    unfold rootFrom
    simp only
    split
    · rename_i c; exact ih _ c
    · exact ih _ h
theorem sqrt_bound (n : Int) (h0 : 0 ≤ n) (h1 : n ≤ 1152921504606846976) :
    ∃ (y : Nat) (q : Int), FloatKind.f64.format.sqrt (FloatKind.f64.nearest n) = some y ∧ (FloatKind.f64.decode y).toInt .zero = some q ∧ 0 ≤ q ∧ q ≤ 2147483648 := by
  obtain ⟨n, rfl⟩ := Int.eq_ofNat_of_zero_le h0
  by_cases hz : n = 0
  · subst hz; exact ⟨0, 0, by decide, by decide, by decide, by decide⟩
  have hl : n.log2 ≤ 60 := by
    have h := (fl_log2 hz).1
    have : ¬ 61 ≤ n.log2 := fun hc => by
      have := Nat.pow_le_pow_right (show 0 < 2 by decide) hc
      omega
    omega
  obtain ⟨r, hr, r0, r1⟩ := nearest_rung n 0 60 hz (by omega) (by omega) (by omega)
  have hx : FloatKind.f64.nearest (n : Int) = r := by
    unfold FloatKind.nearest FloatKind.encode
    rw [show decide ((n : Int) < 0) = false by simp, Int.natAbs_natCast]
    exact hr
  rw [hx]
  have hrd := read_rung r r0 (by omega)
  obtain ⟨m, hm⟩ : ∃ m, m = 4503599627370496 + r % 4503599627370496 := ⟨_, rfl⟩
  obtain ⟨i, hi⟩ : ∃ i : Int, i = -1074 + ((r / 4503599627370496 - 1 : Nat) : Int) := ⟨_, rfl⟩
  rw [← hm, ← hi] at hrd
  have hm2 : m.log2 = 52 := by rw [Nat.log2_eq_iff (by omega)]; omega
  -- the root
  obtain ⟨mo, hmo⟩ : ∃ mo, mo = 2 * 54 - m.log2 + ((i - ((2 * 54 - m.log2 : Nat) : Int)) % 2).toNat := ⟨_, rfl⟩
  obtain ⟨wh, hwh⟩ : ∃ wh, wh = rootFrom (m <<< mo) ((m <<< mo).log2 / 2 + 1) 0 := ⟨_, rfl⟩
  have hsq : wh * wh ≤ m <<< mo := by rw [hwh]; exact rootFrom_sq _ _ _ (by rw [Nat.zero_mul]; exact Nat.zero_le _)
  have hmo2 : mo ≤ 57 := by omega
  have hlt : wh < 2 ^ 55 := by
    refine Nat.lt_of_not_le fun hc => ?_
    have a := Nat.mul_le_mul hc hc
    rw [Nat.shiftLeft_eq] at hsq
    have b : m * 2 ^ mo ≤ m * 2 ^ 57 := Nat.mul_le_mul_left _ (Nat.pow_le_pow_right (by decide) hmo2)
    omega
  obtain ⟨mg, hmg⟩ : ∃ mg, mg = 2 * wh + (wh * wh != m <<< mo).toNat := ⟨_, rfl⟩
  have hroot : (FloatKind.f64.format.sqrt r) = some (double.write (.number false mg ((i - (mo : Nat)) / 2 - 1))) := by
    show (((double.read r).root 54).map double.write) = _
    rw [hrd]
    unfold Datum.root
    simp only
    rw [if_neg (by omega)]
    simp only [Bool.false_eq_true, if_false]
    rw [← hmo, ← hwh, ← hmg]
    rfl
  have hmg2 : mg < 2 ^ 56 := by
    have := Bool.toNat_le (wh * wh != m <<< mo)
    omega
  rw [hroot]
  have hj : (i - (mo : Int)) / 2 - 1 ≤ -25 ∧ -1000 ≤ (i - (mo : Int)) / 2 - 1 := by omega
  obtain ⟨j, hjj⟩ : ∃ j : Int, j = (i - (mo : Int)) / 2 - 1 := ⟨_, rfl⟩
  rw [← hjj] at hj ⊢
  by_cases hz2 : mg = 0
  · rw [hz2]; exact ⟨0, 0, by rfl, by decide, by decide, by decide⟩
  have hl2 : mg.log2 ≤ 55 := by
    have h := (fl_log2 hz2).1
    have : ¬ 56 ≤ mg.log2 := fun hc => by
      have := Nat.pow_le_pow_right (show 0 < 2 by decide) hc
      omega
    omega
  obtain ⟨s, hs, s0, s1⟩ := nearest_rung mg j 30 hz2 (by omega) (by omega) (by omega)
  refine ⟨s, ?_⟩
  have hrs := read_rung s s0 (by omega)
  obtain ⟨m3, hm3⟩ : ∃ m, m = 4503599627370496 + s % 4503599627370496 := ⟨_, rfl⟩
  obtain ⟨p3, hp3⟩ : ∃ i : Int, i = -1074 + ((s / 4503599627370496 - 1 : Nat) : Int) := ⟨_, rfl⟩
  rw [← hm3, ← hp3] at hrs
  have hm32 : m3.log2 = 52 := by rw [Nat.log2_eq_iff (by omega)]; omega
  have hdr : 21 ≤ min (-p3).toNat (m3.log2 + 2) ∧ (22 ≤ min (-p3).toNat (m3.log2 + 2) ∨ m3 = 4503599627370496) := by omega
  refine ⟨((m3 / 2 ^ min (-p3).toNat (m3.log2 + 2) : Nat) : Int), congrArg some hs, ?_, Int.natCast_nonneg _, ?_⟩
  · show (double.read s).toInt .zero = _
    rw [hrs]
    unfold Datum.toInt Datum.integral
    simp only
    rw [show p3.toNat = 0 by omega, Nat.shiftLeft_zero, cut_zero]
    simp [signed]
  · obtain ⟨d, hd⟩ : ∃ d, d = min (-p3).toNat (m3.log2 + 2) := ⟨_, rfl⟩
    rw [← hd] at hdr ⊢
    have : m3 / 2 ^ d ≤ 2147483648 := by
      rcases hdr.2 with h | h
      · refine Nat.le_trans (Nat.div_le_div_left (Nat.pow_le_pow_right (by decide) h) (Nat.two_pow_pos _)) ?_
        omega
      · refine Nat.le_trans (Nat.div_le_div_left (Nat.pow_le_pow_right (by decide) hdr.1) (Nat.two_pow_pos _)) ?_
        omega
    omega
end Go.Proofs.YtajblfmabokgkaaR
