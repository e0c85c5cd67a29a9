/- The stable sort of Go's slices package as plain functions over an array, and that it sorts. No program in sight. -/
import Derived.Sort.LotA
namespace Go.StableF
open Go.Sort
set_option linter.unusedVariables false
set_option linter.unusedSimpArgs false
variable {α : Type} [I : Inhabited α]

/-! ### the functions -/
/-- After k rounds of the swap of two blocks. -/
def swapR (a b : Nat) (d : Array α) : Nat → Array α
  | 0 => d
  | k + 1 => swp (swapR a b d k) (a + k) (b + k)

/-- The loop of the rotation, from (i, j), and the last swap. -/
def rotL (m i j : Nat) (d : Array α) : Array α :=
  if i = j then swapR (m - i) m d i
  else if j < i then (if 0 < j then rotL m (i - j) j (swapR (m - i) m d j) else d)
  else (if 0 < i then rotL m i (j - i) (swapR (m - i) (m + j - i) d i) else d)
termination_by i + j

/-- The binary search. -/
def bs (p : Nat → Bool) (i j : Nat) : Nat :=
  if i < j then (if p ((i + j) / 2) then bs p ((i + j) / 2 + 1) j else bs p i ((i + j) / 2)) else i
termination_by j - i

/-- After k swaps upward from a. -/
def shU (a : Nat) (d : Array α) : Nat → Array α
  | 0 => d
  | k + 1 => swp (shU a d k) (a + k) (a + k + 1)
/-- After k swaps downward from m. -/
def shD (m : Nat) (d : Array α) : Nat → Array α
  | 0 => d
  | k + 1 => swp (shD m d k) (m - k) (m - k - 1)

section
variable (lt : α → α → Bool)
def pOne (d : Array α) (a : Nat) : Nat → Bool := fun h => lt d[h]! d[a]!
def pTwo (d : Array α) (m : Nat) : Nat → Bool := fun h => !lt d[m]! d[h]!
def pThr (d : Array α) (p : Nat) : Nat → Bool := fun c => !lt d[p - c]! d[c]!
def lo (a m b : Nat) : Nat := if (a + b) / 2 < m then (a + b) / 2 + m - b else a
def hi (a m b : Nat) : Nat := if (a + b) / 2 < m then (a + b) / 2 else m
def start (d : Array α) (a m b : Nat) : Nat := bs (pThr lt d ((a + b) / 2 + m - 1)) (lo a m b) (hi a m b)
def stop (d : Array α) (a m b : Nat) : Nat := (a + b) / 2 + m - start lt d a m b
def rotd (d : Array α) (a m b : Nat) : Array α :=
  if start lt d a m b < m ∧ m < stop lt d a m b then rotL m (m - start lt d a m b) (stop lt d a m b - m) d else d

def symF (d : Array α) (a m b : Nat) : Array α :=
  if m - a = 1 then shU a d (bs (pOne lt d a) m b - 1 - a)
  else if b - m = 1 then shD m d (m - bs (pTwo lt d m) a m)
  else if hr : (a + b) / 2 < stop lt d a m b ∧ stop lt d a m b < b then
    symF (if hl : a < start lt d a m b ∧ start lt d a m b < (a + b) / 2 then symF (rotd lt d a m b) a (start lt d a m b) ((a + b) / 2) else rotd lt d a m b)
      ((a + b) / 2) (stop lt d a m b) b
  else (if hl : a < start lt d a m b ∧ start lt d a m b < (a + b) / 2 then symF (rotd lt d a m b) a (start lt d a m b) ((a + b) / 2) else rotd lt d a m b)
termination_by b - a
decreasing_by all_goals omega

/-- The insertion sorts of the blocks, from a. -/
def insB (k n : Nat) (a : Nat) (d : Array α) : Array α :=
  if h : 0 < k ∧ a + k ≤ n then insB k n (a + k) (insertionSort lt d a (a + k)) else insertionSort lt d a n
termination_by n - a
decreasing_by omega

/-- One pass of merges of blocks of k, from a. -/
def pass (k n : Nat) (a : Nat) (d : Array α) : Array α :=
  if h : 0 < k ∧ a + 2 * k ≤ n then pass k n (a + 2 * k) (symF lt d a (a + k) (a + 2 * k))
  else if a + k < n then symF lt d a (a + k) n else d
termination_by n - a
decreasing_by omega

def passes (n k : Nat) (d : Array α) : Array α :=
  if h : 0 < k ∧ k < n then passes n (2 * k) (pass lt k n 0 d) else d
termination_by n - k
decreasing_by omega

def stable (d : Array α) (n : Nat) : Array α := passes lt n 20 (insB lt 20 n 0 d)
end

/-! ### what they are -/
theorem swapR_size (a b : Nat) (d : Array α) (k : Nat) : (swapR a b d k).size = d.size := by
  induction k with
  | zero => rfl
  | succ k ih => rw [swapR, swp_size, ih]
theorem swapR_get (a b : Nat) (d : Array α) (k : Nat) (hab : a + k ≤ b) (hb : b + k ≤ d.size) (x : Nat) :
    (swapR a b d k)[x]! = if a ≤ x ∧ x < a + k then d[x + (b - a)]! else if b ≤ x ∧ x < b + k then d[x - (b - a)]! else d[x]! := by
  induction k generalizing x with
  | zero => simp only [swapR]; rw [if_neg (by omega), if_neg (by omega)]
  | succ k ih =>
    have ih := fun x => ih (by omega) (by omega) x
    have hs := swapR_size a b d k
    rw [swapR]
    by_cases h1 : x = a + k
    · subst h1
      rw [swp_left _ _ _ (by omega) (by omega), ih, if_neg (by omega), if_neg (by omega), if_pos (by omega)]
      congr 1; omega
    by_cases h2 : x = b + k
    · subst h2
      rw [swp_right _ _ _ (by omega), ih, if_neg (by omega), if_neg (by omega), if_neg (by omega), if_pos (by omega)]
      congr 1; omega
    rw [swp_other _ _ _ _ h1 h2, ih]
    by_cases c1 : a ≤ x ∧ x < a + k
    · rw [if_pos c1, if_pos (by omega)]
    rw [if_neg c1]
    by_cases c2 : b ≤ x ∧ x < b + k
    · rw [if_pos c2, if_neg (by omega), if_pos (by omega)]
    rw [if_neg c2, if_neg (by omega), if_neg (by omega)]
theorem swapR_perm (a b : Nat) (d : Array α) (k A B : Nat) (hA : A ≤ a) (hab : A ≤ b) (ha : a + k ≤ B) (hb : b + k ≤ B) (hB : B ≤ d.size) : PermIn A B d (swapR a b d k) := by
  induction k with
  | zero => exact permIn_refl _ _ _
  | succ k ih =>
    have hs := swapR_size a b d k
    exact permIn_trans _ _ _ _ _ (ih (by omega) (by omega)) (swp_permIn _ _ _ _ _ (by omega) (by omega) (by omega) (by omega) (by omega))

theorem rotL_size (m i j : Nat) (d : Array α) : (rotL m i j d).size = d.size := by
  induction i, j, d using @rotL.induct α I m with
  | case1 j d => rw [rotL, if_pos rfl]; exact swapR_size _ _ _ _
  | case2 i j d h1 h2 h3 ih => rw [rotL, if_neg h1, if_pos h2, if_pos h3, ih, swapR_size]
  | case3 i j d h1 h2 h3 => rw [rotL, if_neg h1, if_pos h2, if_neg h3]
  | case4 i j d h1 h2 h3 ih => rw [rotL, if_neg h1, if_neg h2, if_pos h3, ih, swapR_size]
  | case5 i j d h1 h2 h3 => rw [rotL, if_neg h1, if_neg h2, if_neg h3]

theorem rotL_get (m i j : Nat) (d : Array α) (hi : 0 < i) (hj : 0 < j) (him : i ≤ m) (hd : m + j ≤ d.size) (x : Nat) :
    (rotL m i j d)[x]! = if m - i ≤ x ∧ x < m - i + j then d[x + i]! else if m - i + j ≤ x ∧ x < m + j then d[x - j]! else d[x]! := by
  induction i, j, d using @rotL.induct α I m generalizing x with
  | case1 j d =>
    rw [rotL, if_pos rfl, swapR_get _ _ _ _ (by omega) (by omega)]
    by_cases c1 : m - j ≤ x ∧ x < m - j + j
    · rw [if_pos c1, if_pos c1]; congr 1; omega
    rw [if_neg c1, if_neg c1]
    by_cases c2 : m ≤ x ∧ x < m + j
    · rw [if_pos c2, if_pos (by omega)]; congr 1; omega
    rw [if_neg c2, if_neg (by omega)]
  | case2 i j d h1 h2 h3 ih =>
    have hs := swapR_size (m - i) m d j
    rw [rotL, if_neg h1, if_pos h2, if_pos h3, ih (by omega) hj (by omega) (by omega)]
    have G := fun x => swapR_get (m - i) m d j (by omega) (by omega) x
    by_cases c0 : x < m - i ∨ m + j ≤ x
    · rw [if_neg (by omega), if_neg (by omega), G, if_neg (by omega), if_neg (by omega), if_neg (by omega), if_neg (by omega)]
    by_cases c1 : x < m - i + j
    · rw [if_neg (by omega), if_neg (by omega), G, if_pos (by omega), if_pos (by omega)]; congr 1; omega
    by_cases c2 : x < m - i + j + j
    · rw [if_pos (by omega), G, if_neg (by omega), if_pos (by omega), if_neg (by omega), if_pos (by omega)]; congr 1; omega
    · rw [if_neg (by omega), if_pos (by omega), G, if_neg (by omega), if_neg (by omega), if_neg (by omega), if_pos (by omega)]
  | case3 i j d h1 h2 h3 => omega
  | case4 i j d h1 h2 h3 ih =>
    have hs := swapR_size (m - i) (m + j - i) d i
    rw [rotL, if_neg h1, if_neg h2, if_pos h3, ih hi (by omega) him (by omega)]
    have G := fun x => swapR_get (m - i) (m + j - i) d i (by omega) (by omega) x
    by_cases c0 : x < m - i ∨ m + j ≤ x
    · rw [if_neg (by omega), if_neg (by omega), G, if_neg (by omega), if_neg (by omega), if_neg (by omega), if_neg (by omega)]
    by_cases c1 : m + j - i ≤ x
    · rw [if_neg (by omega), if_neg (by omega), G, if_neg (by omega), if_pos (by omega), if_neg (by omega), if_pos (by omega)]; congr 1; omega
    by_cases c2 : x < m - i + (j - i)
    · rw [if_pos (by omega), G, if_neg (by omega), if_neg (by omega), if_pos (by omega)]
    · rw [if_neg (by omega), if_pos (by omega), G, if_pos (by omega), if_pos (by omega)]; congr 1; omega
  | case5 i j d h1 h2 h3 => omega

theorem rotL_perm (m i j : Nat) (d : Array α) (A B : Nat) (him : A + i ≤ m) (hB : m + j ≤ B) (hd : B ≤ d.size) : PermIn A B d (rotL m i j d) := by
  induction i, j, d using @rotL.induct α I m with
  | case1 j d => rw [rotL, if_pos rfl]; exact swapR_perm _ _ _ _ _ _ (by omega) (by omega) (by omega) (by omega) hd
  | case2 i j d h1 h2 h3 ih =>
    have hs := swapR_size (m - i) m d j
    rw [rotL, if_neg h1, if_pos h2, if_pos h3]
    exact permIn_trans _ _ _ _ _ (swapR_perm _ _ _ _ _ _ (by omega) (by omega) (by omega) (by omega) hd) (ih (by omega) (by omega) (by omega))
  | case3 i j d h1 h2 h3 => rw [rotL, if_neg h1, if_pos h2, if_neg h3]; exact permIn_refl _ _ _
  | case4 i j d h1 h2 h3 ih =>
    have hs := swapR_size (m - i) (m + j - i) d i
    rw [rotL, if_neg h1, if_neg h2, if_pos h3]
    exact permIn_trans _ _ _ _ _ (swapR_perm _ _ _ _ _ _ (by omega) (by omega) (by omega) (by omega) hd) (ih (by omega) (by omega) (by omega))
  | case5 i j d h1 h2 h3 => rw [rotL, if_neg h1, if_neg h2, if_neg h3]; exact permIn_refl _ _ _

theorem bs_spec (p : Nat → Bool) (i j : Nat) (hij : i ≤ j) (hm : ∀ x y, i ≤ x → x < y → y < j → p y = true → p x = true) :
    i ≤ bs p i j ∧ bs p i j ≤ j ∧ (∀ x, i ≤ x → x < bs p i j → p x = true) ∧ (∀ x, bs p i j ≤ x → x < j → p x = false) := by
  induction i, j using bs.induct p with
  | case1 i j h hp ih =>
    rw [bs, if_pos h, if_pos hp]
    obtain ⟨a, b, c, e⟩ := ih (by omega) (fun x y hx hxy hy => hm x y (by omega) hxy hy)
    refine ⟨by omega, b, fun x hx hxy => ?_, e⟩
    by_cases hc : x < (i + j) / 2 + 1
    · by_cases he : x = (i + j) / 2
      · rw [he]; exact hp
      · exact hm x _ hx (by omega) (by omega) hp
    · exact c x (by omega) hxy
  | case2 i j h hp ih =>
    rw [bs, if_pos h, if_neg hp]
    obtain ⟨a, b, c, e⟩ := ih (by omega) (fun x y hx hxy hy => hm x y hx hxy (by omega))
    refine ⟨a, by omega, c, fun x hx hxy => ?_⟩
    by_cases hc : x < (i + j) / 2
    · exact e x hx hc
    · by_cases he : x = (i + j) / 2
      · rw [he]; simpa using hp
      · cases hq : p x with
        | false => rfl
        | true => exact absurd (hm _ x (by omega) (by omega) hxy hq) hp
  | case3 i j h =>
    rw [bs, if_neg h]
    exact ⟨Nat.le_refl _, hij, fun x hx hxy => by omega, fun x hx hxy => by omega⟩
theorem bs_le (p : Nat → Bool) (i j : Nat) (hij : i ≤ j) : i ≤ bs p i j ∧ bs p i j ≤ j := by
  induction i, j using bs.induct p with
  | case1 i j h hp ih => rw [bs, if_pos h, if_pos hp]; have := ih (by omega); omega
  | case2 i j h hp ih => rw [bs, if_pos h, if_neg hp]; have := ih (by omega); omega
  | case3 i j h => rw [bs, if_neg h]; omega

theorem shU_size (a : Nat) (d : Array α) (k : Nat) : (shU a d k).size = d.size := by
  induction k with
  | zero => rfl
  | succ k ih => rw [shU, swp_size, ih]
theorem shU_get (a : Nat) (d : Array α) (k : Nat) (h : a + k < d.size) (x : Nat) :
    (shU a d k)[x]! = if a ≤ x ∧ x < a + k then d[x + 1]! else if x = a + k then d[a]! else d[x]! := by
  induction k generalizing x with
  | zero =>
    simp only [shU]; rw [if_neg (by omega)]
    by_cases c : x = a + 0
    · rw [if_pos c, c]; rfl
    · rw [if_neg c]
  | succ k ih =>
    have ih := fun x => ih (by omega) x
    have hs := shU_size a d k
    rw [shU]
    by_cases h1 : x = a + k
    · subst h1
      rw [swp_left _ _ _ (by omega) (by omega), ih, if_neg (by omega), if_neg (by omega), if_pos (by omega)]
    by_cases h2 : x = a + k + 1
    · subst h2
      rw [swp_right _ _ _ (by omega), ih, if_neg (by omega), if_pos (by omega), if_neg (by omega), if_pos (by omega)]
    rw [swp_other _ _ _ _ h1 h2, ih]
    by_cases c1 : a ≤ x ∧ x < a + k
    · rw [if_pos c1, if_pos (by omega)]
    rw [if_neg c1, if_neg (by omega), if_neg (by omega), if_neg (by omega)]
theorem shU_perm (a : Nat) (d : Array α) (k A B : Nat) (hA : A ≤ a) (hB : a + k < B) (hd : B ≤ d.size) : PermIn A B d (shU a d k) := by
  induction k with
  | zero => exact permIn_refl _ _ _
  | succ k ih =>
    have hs := shU_size a d k
    exact permIn_trans _ _ _ _ _ (ih (by omega)) (swp_permIn _ _ _ _ _ (by omega) (by omega) (by omega) (by omega) (by omega))
theorem shD_size (m : Nat) (d : Array α) (k : Nat) : (shD m d k).size = d.size := by
  induction k with
  | zero => rfl
  | succ k ih => rw [shD, swp_size, ih]
theorem shD_get (m : Nat) (d : Array α) (k : Nat) (hk : k ≤ m) (h : m < d.size) (x : Nat) :
    (shD m d k)[x]! = if m - k < x ∧ x ≤ m then d[x - 1]! else if x = m - k then d[m]! else d[x]! := by
  induction k generalizing x with
  | zero =>
    simp only [shD]; rw [if_neg (by omega)]
    by_cases c : x = m - 0
    · rw [if_pos c, c]; rfl
    · rw [if_neg c]
  | succ k ih =>
    have ih := fun x => ih (by omega) x
    have hs := shD_size m d k
    rw [shD]
    by_cases h1 : x = m - k
    · subst h1
      rw [swp_left _ _ _ (by omega) (by omega), ih, if_neg (by omega), if_neg (by omega), if_pos (by omega)]
    by_cases h2 : x = m - k - 1
    · subst h2
      rw [swp_right _ _ _ (by omega), ih, if_neg (by omega), if_pos (by omega), if_neg (by omega), if_pos (by omega)]
    rw [swp_other _ _ _ _ h1 h2, ih]
    by_cases c1 : m - k < x ∧ x ≤ m
    · rw [if_pos c1, if_pos (by omega)]
    rw [if_neg c1, if_neg (by omega), if_neg (by omega), if_neg (by omega)]
theorem shD_perm (m : Nat) (d : Array α) (k A B : Nat) (hA : A + k ≤ m) (hB : m < B) (hd : B ≤ d.size) : PermIn A B d (shD m d k) := by
  induction k with
  | zero => exact permIn_refl _ _ _
  | succ k ih =>
    have hs := shD_size m d k
    exact permIn_trans _ _ _ _ _ (ih (by omega)) (swp_permIn _ _ _ _ _ (by omega) (by omega) (by omega) (by omega) (by omega))
end Go.StableF
