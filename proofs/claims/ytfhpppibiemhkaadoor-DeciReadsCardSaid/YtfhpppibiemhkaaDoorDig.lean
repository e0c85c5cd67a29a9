/- Decimal digits: rows of a fixed length, what is trimmed off, values. Plain lists. -/
import Derived.Test.YtfhpppibiemhkaaDoorBase
import Derived.Lib.TrimByte
import Derived.Lib.ItoaNum
namespace Go.Proofs.YtfhpppibiemhkaaDoor.P
open Go Go.Proofs.YtfhpppibiemhkaaDoorR
abbrev dec (u : Nat) : List UInt8 := Lib.decDigits u
def dgb (d : Nat) : UInt8 := UInt8.ofNat (48 + d)
theorem dgb_nat (d : Nat) (h : d < 10) : (dgb d).toNat = 48 + d := by
  unfold dgb
  rw [UInt8.toNat_ofNat']
  omega
theorem dgb_dig (d : Nat) (h : d < 10) : isDig (dgb d) = true := by
  unfold isDig; rw [dgb_nat d h]; exact decide_eq_true (by omega)
theorem dec_small {u : Nat} (h : u < 10) : dec u = [dgb u] := Lib.decDigits_one h
theorem dec_big {u : Nat} (h : ¬ u < 10) : dec u = dec (u / 10) ++ [dgb (u % 10)] := by
  show Lib.decDigits u = _
  rw [Lib.decDigits, dif_neg h]
  rfl
theorem dec_dig : ∀ u : Nat, (dec u).all isDig = true := by
  intro u
  induction u using Nat.strongRecOn with
  | ind u ih =>
    by_cases h : u < 10
    · rw [dec_small h]; simp [dgb_dig u h]
    · rw [dec_big h, List.all_append, ih (u / 10) (by omega)]; simp [dgb_dig (u % 10) (by omega)]
theorem dec_val : ∀ u : Nat, val (dec u) = u := by
  intro u
  induction u using Nat.strongRecOn with
  | ind u ih =>
    by_cases h : u < 10
    · rw [dec_small h]
      show 10 * 0 + ((dgb u).toNat - 48) = u
      rw [dgb_nat u h]; omega
    · rw [dec_big h, val_append, ih (u / 10) (by omega)]
      show u / 10 * 10 ^ 1 + (10 * 0 + ((dgb (u % 10)).toNat - 48)) = u
      rw [dgb_nat _ (by omega)]; omega
theorem dec_len_pos (u : Nat) : 1 ≤ (dec u).length := by
  rw [Lib.decDigits_length]; exact Lib.nDigits_pos u
theorem dec_len_le : ∀ (n u : Nat), 1 ≤ n → u < 10 ^ n → (dec u).length ≤ n := by
  intro n
  induction n with
  | zero => intro u h; omega
  | succ n ih =>
    intro u _ hu
    by_cases h : u < 10
    · rw [dec_small h]; simp
    · rw [dec_big h, List.length_append]
      have hn : 1 ≤ n := by
        rcases Nat.eq_zero_or_pos n with rfl | h0
        · exfalso; simp at hu; omega
        · exact h0
      have := ih (u / 10) hn (by rw [Nat.pow_succ] at hu; omega)
      simp; omega
/-- the s digits of r -/
def dgs : Nat → Nat → List UInt8
  | 0, _ => []
  | s + 1, r => dgs s (r / 10) ++ [dgb (r % 10)]
theorem dgs_len (s : Nat) : ∀ r, (dgs s r).length = s := by
  induction s with
  | zero => intro r; rfl
  | succ s ih => intro r; simp [dgs, ih]
theorem dgs_dig (s : Nat) : ∀ r, (dgs s r).all isDig = true := by
  induction s with
  | zero => intro r; rfl
  | succ s ih => intro r; simp only [dgs, List.all_append, ih]; simp [dgb_dig (r % 10) (by omega)]
theorem dgs_val (s : Nat) : ∀ r, r < 10 ^ s → val (dgs s r) = r := by
  induction s with
  | zero => intro r h; simp at h; subst h; rfl
  | succ s ih =>
    intro r h
    rw [Nat.pow_succ] at h
    show val (dgs s (r / 10) ++ [dgb (r % 10)]) = r
    rw [val_append, ih (r / 10) (by omega)]
    show r / 10 * 10 ^ 1 + (10 * 0 + ((dgb (r % 10)).toNat - 48)) = r
    rw [dgb_nat _ (by omega)]; omega
/-- a numeral with noughts ahead, to a length above s -/
def pad1 (s u : Nat) : List UInt8 := List.replicate (s + 1 - (dec u).length) 48 ++ dec u
theorem pad1_succ (s u : Nat) : pad1 (s + 1) u = pad1 s (u / 10) ++ [dgb (u % 10)] := by
  unfold pad1
  by_cases h : u < 10
  · have h0 : u / 10 = 0 := by omega
    have h1 : u % 10 = u := by omega
    rw [h0, h1, dec_small h, dec_small (show 0 < 10 by omega)]
    have e0 : dgb 0 = 48 := by decide
    rw [e0]
    show List.replicate (s + 1 + 1 - 1) 48 ++ [dgb u] = (List.replicate (s + 1 - 1) 48 ++ [48]) ++ [dgb u]
    rw [show s + 1 + 1 - 1 = s + 1 by omega, show s + 1 - 1 = s by omega, List.replicate_succ']
  · rw [dec_big h, List.length_append, ← List.append_assoc]
    show List.replicate (s + 1 + 1 - ((dec (u / 10)).length + 1)) 48 ++ dec (u / 10) ++ [dgb (u % 10)] = _
    rw [show s + 1 + 1 - ((dec (u / 10)).length + 1) = s + 1 - (dec (u / 10)).length by omega]
theorem pad1_is (s : Nat) : ∀ u, pad1 s u = dec (u / 10 ^ s) ++ dgs s (u % 10 ^ s) := by
  induction s with
  | zero =>
    intro u
    unfold pad1
    have := dec_len_pos u
    rw [show 0 + 1 - (dec u).length = 0 by omega]
    simp [dgs]
  | succ s ih =>
    intro u
    rw [pad1_succ, ih (u / 10)]
    show _ = dec (u / 10 ^ (s + 1)) ++ (dgs s (u % 10 ^ (s + 1) / 10) ++ [dgb (u % 10 ^ (s + 1) % 10)])
    have e1 : u / 10 / 10 ^ s = u / 10 ^ (s + 1) := by rw [Nat.div_div_eq_div_mul, Nat.pow_succ, Nat.mul_comm]
    have e2 : u / 10 % 10 ^ s = u % 10 ^ (s + 1) / 10 := by
      rw [Nat.pow_succ, Nat.mul_comm (10 ^ s) 10, Nat.mod_mul_right_div_self]
    have e3 : u % 10 ^ (s + 1) % 10 = u % 10 := by
      rw [Nat.pow_succ, Nat.mul_comm (10 ^ s) 10, Nat.mod_mul_right_mod]
    rw [e1, e2, e3, List.append_assoc]
theorem pad_is (s r : Nat) (h : r < 10 ^ s) : s = 0 ∨ List.replicate (s - (dec r).length) 48 ++ dec r = dgs s r := by
  cases s with
  | zero => left; rfl
  | succ s =>
    right
    show pad1 s r = _
    cases s with
    | zero =>
      have h10 : r < 10 := by simpa using h
      rw [pad1_is]
      simp only [Nat.pow_zero, Nat.div_one, dgs, List.append_nil, List.nil_append]
      rw [dec_small h10, Nat.mod_eq_of_lt h10]
    | succ s =>
      rw [pad1_succ, pad1_is]
      show _ = dgs (s + 1) (r / 10) ++ [dgb (r % 10)]
      congr 1
      rw [Nat.pow_succ, Nat.pow_succ] at h
      have hq : r / 10 / 10 ^ s < 10 := by
        rw [Nat.div_div_eq_div_mul, Nat.div_lt_iff_lt_mul (Nat.mul_pos (by decide) (Nat.pow_pos (by decide)))]
        generalize 10 ^ s = P at h
        omega
      rw [dec_small hq]
      have key : ∀ (s x : Nat), x / 10 ^ s < 10 → [dgb (x / 10 ^ s)] ++ dgs s (x % 10 ^ s) = dgs (s + 1) x := by
        intro s
        induction s with
        | zero => intro x hx; simp only [Nat.pow_zero, Nat.div_one, dgs, List.append_nil, List.nil_append] at hx ⊢; rw [Nat.mod_eq_of_lt hx]
        | succ s ih =>
          intro x hx
          have e1 : x / 10 / 10 ^ s = x / 10 ^ (s + 1) := by rw [Nat.div_div_eq_div_mul, Nat.pow_succ, Nat.mul_comm]
          have e2 : x / 10 % 10 ^ s = x % 10 ^ (s + 1) / 10 := by
            rw [Nat.pow_succ, Nat.mul_comm (10 ^ s) 10, Nat.mod_mul_right_div_self]
          have e3 : x % 10 ^ (s + 1) % 10 = x % 10 := by
            rw [Nat.pow_succ, Nat.mul_comm (10 ^ s) 10, Nat.mod_mul_right_mod]
          show [dgb (x / 10 ^ (s + 1))] ++ (dgs s (x % 10 ^ (s + 1) / 10) ++ [dgb (x % 10 ^ (s + 1) % 10)]) = dgs (s + 1) (x / 10) ++ [dgb (x % 10)]
          rw [← ih (x / 10) (by rw [e1]; exact hx), e1, e2, e3, List.append_assoc]
      exact key s (r / 10) hq
/-- what is left when noughts behind are taken away -/
abbrev trm (l : List UInt8) : List UInt8 := Lib.trimRightB l 48
theorem trm_snoc0 (l : List UInt8) : trm (l ++ [48]) = trm l := by simp [trm, Lib.trimRightB]
theorem trm_snoc (l : List UInt8) (x : UInt8) (h : x ≠ 48) : trm (l ++ [x]) = l ++ [x] := by simp [trm, Lib.trimRightB, h]
theorem trm_zeros (l : List UInt8) (n : Nat) : trm (l ++ List.replicate n 48) = trm l := by
  induction n with
  | zero => simp
  | succ n ih => rw [List.replicate_succ', ← List.append_assoc, trm_snoc0, ih]
theorem snoc_cases (l : List UInt8) : l = [] ∨ ∃ i x, l = i ++ [x] := by
  rcases List.eq_nil_or_concat l with h | ⟨i, x, h⟩
  · exact .inl h
  · exact .inr ⟨i, x, by rw [h]; simp⟩
theorem trm_split : ∀ (n : Nat) (l : List UInt8), l.length ≤ n → ∃ m, l = trm l ++ List.replicate m 48 := by
  intro n
  induction n with
  | zero => intro l h; obtain rfl : l = [] := List.length_eq_zero_iff.1 (by omega); exact ⟨0, rfl⟩
  | succ n ih =>
    intro l h
    rcases snoc_cases l with rfl | ⟨i, x, rfl⟩
    · exact ⟨0, rfl⟩
    · by_cases hx : x = 48
      · subst hx
        obtain ⟨m, hm⟩ := ih i (by simp at h; omega)
        exact ⟨m + 1, by rw [trm_snoc0, List.replicate_succ', ← List.append_assoc, ← hm]⟩
      · exact ⟨0, by rw [trm_snoc _ _ hx]; simp⟩
theorem trm_is (l : List UInt8) : l = trm l ++ List.replicate (l.length - (trm l).length) 48 := by
  obtain ⟨m, hm⟩ := trm_split l.length l (Nat.le_refl _)
  have hl := congrArg List.length hm
  rw [List.length_append, List.length_replicate] at hl
  rw [show l.length - (trm l).length = m by omega]
  exact hm
theorem trm_len (l : List UInt8) : (trm l).length ≤ l.length := by
  have hl := congrArg List.length (trm_is l)
  rw [List.length_append, List.length_replicate] at hl
  omega
theorem trm_all (l : List UInt8) (h : l.all isDig = true) : (trm l).all isDig = true := by
  rw [trm_is l, List.all_append, Bool.and_eq_true] at h
  exact h.1
theorem val_zeros (n : Nat) : val (List.replicate n 48) = 0 := by
  induction n with
  | zero => rfl
  | succ n ih =>
    rw [List.replicate_succ', val_append, ih]
    simp [val]
theorem trm_val (l : List UInt8) : val (trm l) * 10 ^ (l.length - (trm l).length) = val l := by
  conv => rhs; rw [trm_is l]
  rw [val_append, val_zeros, List.length_replicate]
  omega
theorem trm_dgs_nil (s r : Nat) (h : r < 10 ^ s) : trm (dgs s r) = [] ↔ r = 0 := by
  constructor
  · intro e
    have := trm_val (dgs s r)
    rw [e, dgs_val s r h] at this
    simpa [val] using this.symm
  · rintro rfl
    have key : ∀ s, dgs s 0 = List.replicate s 48 := by
      intro s
      induction s with
      | zero => rfl
      | succ s ih =>
        show dgs s (0 / 10) ++ [dgb (0 % 10)] = _
        rw [Nat.zero_div, Nat.zero_mod, ih, List.replicate_succ']
        rfl
    rw [key]
    exact trm_zeros [] s
theorem dgs_of_val (l : List UInt8) (h : l.all isDig = true) : dgs l.length (val l) = l := by
  have key : ∀ (n : Nat) (l : List UInt8), l.length = n → l.all isDig = true → dgs n (val l) = l := by
    intro n
    induction n with
    | zero => intro l h _; obtain rfl : l = [] := List.length_eq_zero_iff.1 h; rfl
    | succ n ih =>
      intro l hl hd
      rcases snoc_cases l with rfl | ⟨i, x, rfl⟩
      · simp at hl
      · rw [List.all_append, Bool.and_eq_true] at hd
        have hx : isDig x = true := by simpa using hd.2
        have hx2 : 48 ≤ x.toNat ∧ x.toNat ≤ 57 := by unfold isDig at hx; exact of_decide_eq_true hx
        have hv : val (i ++ [x]) = val i * 10 + (x.toNat - 48) := by rw [val_append]; simp [val]
        show dgs n (val (i ++ [x]) / 10) ++ [dgb (val (i ++ [x]) % 10)] = i ++ [x]
        rw [hv, show (val i * 10 + (x.toNat - 48)) / 10 = val i by omega, show (val i * 10 + (x.toNat - 48)) % 10 = x.toNat - 48 by omega, ih i (by simp at hl; omega) hd.1]
        congr 2
        apply UInt8.toNat_inj.1
        rw [dgb_nat _ (by omega)]
        omega
  exact key l.length l rfl h
theorem dgs_more (s r m : Nat) : dgs (s + m) (r * 10 ^ m) = dgs s r ++ List.replicate m 48 := by
  induction m with
  | zero => simp
  | succ m ih =>
    show dgs (s + m) (r * 10 ^ (m + 1) / 10) ++ [dgb (r * 10 ^ (m + 1) % 10)] = _
    have e : r * 10 ^ (m + 1) = r * 10 ^ m * 10 := by rw [Nat.pow_succ, Nat.mul_assoc]
    rw [e, Nat.mul_div_cancel _ (by decide), Nat.mul_mod_left, ih, List.replicate_succ', List.append_assoc]
    rfl
end Go.Proofs.YtfhpppibiemhkaaDoor.P
