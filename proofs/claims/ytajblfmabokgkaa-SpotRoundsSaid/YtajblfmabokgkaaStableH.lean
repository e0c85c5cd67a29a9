/- The stable sort as plain functions: the blocks, the passes, the whole. -/
import Derived.Test.YtajblfmabokgkaaStableG
namespace Go.StableF
open Go.Sort
set_option linter.unusedVariables false
set_option linter.unusedSimpArgs false
set_option linter.unusedSectionVars false
variable {α : Type} [I : Inhabited α]
variable {lt : α → α → Bool}

theorem sorted_mono {d : Array α} {a b a' b' : Nat} (h : SortedIn lt a b d) (ha : a ≤ a') (hb : b' ≤ b) : SortedIn lt a' b' d :=
  fun i j hi hij hj => h i j (by omega) hij (by omega)

theorem insB_holds (hS : SWO lt) (k n : Nat) (hk : 0 < k) : ∀ (N a : Nat) (d : Array α), n - a ≤ N → a ≤ n → n ≤ d.size →
    PermIn a n d (insB lt k n a d) ∧ ∀ i, SortedIn lt (a + i * k) (min (a + i * k + k) n) (insB lt k n a d) := by
  intro N
  induction N with
  | zero =>
    intro a d h1 h2 h3
    rw [insB, dif_neg (by omega)]
    obtain ⟨P, S⟩ := insertionSort_holds hS d a n h2 h3
    exact ⟨P, fun i => sorted_mono S (by omega) (by omega)⟩
  | succ N ih =>
    intro a d h1 h2 h3
    rw [insB]
    by_cases h : 0 < k ∧ a + k ≤ n
    · rw [dif_pos h]
      obtain ⟨P, S⟩ := insertionSort_holds hS d a (a + k) (by omega) (by omega)
      have hs := P.1
      obtain ⟨P', S'⟩ := ih (a + k) (insertionSort lt d a (a + k)) (by omega) h.2 (by omega)
      refine ⟨permIn_trans _ _ _ _ _ (permIn_mono _ _ _ _ _ _ (Nat.le_refl _) h.2 h3 P) (permIn_mono _ _ _ _ _ _ (by omega) (Nat.le_refl _) (by omega) P'), fun i => ?_⟩
      match i with
      | 0 => exact sorted_mono (sorted_frame S P' (Or.inl (Nat.le_refl _))) (by omega) (by omega)
      | i + 1 =>
        have := S' i
        rw [Nat.succ_mul]
        exact sorted_mono this (by omega) (by omega)
    · rw [dif_neg h]
      obtain ⟨P, S⟩ := insertionSort_holds hS d a n h2 h3
      exact ⟨P, fun i => sorted_mono S (by omega) (by omega)⟩

theorem pass_holds (hS : SWO lt) (k n : Nat) (hk : 0 < k) : ∀ (N a : Nat) (d : Array α), n - a ≤ N → a ≤ n → n ≤ d.size →
    (∀ i, SortedIn lt (a + i * k) (min (a + i * k + k) n) d) →
    PermIn a n d (pass lt k n a d) ∧ ∀ i, SortedIn lt (a + i * (2 * k)) (min (a + i * (2 * k) + 2 * k) n) (pass lt k n a d) := by
  intro N
  induction N with
  | zero =>
    intro a d h1 h2 h3 hr
    rw [pass, dif_neg (by omega), if_neg (by omega)]
    exact ⟨permIn_refl _ _ _, fun i x y hx hxy hy => by omega⟩
  | succ N ih =>
    intro a d h1 h2 h3 hr
    have r0 := hr 0
    have r1 := hr 1
    rw [Nat.zero_mul] at r0
    rw [Nat.one_mul] at r1
    rw [pass]
    by_cases h : 0 < k ∧ a + 2 * k ≤ n
    · rw [dif_pos h]
      obtain ⟨P, S⟩ := symF_holds hS (a + 2 * k - a) d a (a + k) (a + 2 * k) (Nat.le_refl _) (by omega) (by omega) (by omega)
        (sorted_mono r0 (by omega) (by omega)) (sorted_mono r1 (by omega) (by omega))
      have hs := P.1
      obtain ⟨P', S'⟩ := ih (a + 2 * k) (symF lt d a (a + k) (a + 2 * k)) (by omega) h.2 (by omega) (fun i => by
        have := hr (i + 2)
        rw [Nat.add_mul] at this
        exact sorted_frame (sorted_mono this (by omega) (by omega)) P (Or.inr (by omega)))
      refine ⟨permIn_trans _ _ _ _ _ (permIn_mono _ _ _ _ _ _ (Nat.le_refl _) h.2 h3 P) (permIn_mono _ _ _ _ _ _ (by omega) (Nat.le_refl _) (by omega) P'), fun i => ?_⟩
      match i with
      | 0 => exact sorted_mono (sorted_frame S P' (Or.inl (Nat.le_refl _))) (by omega) (by omega)
      | i + 1 =>
        have := S' i
        rw [Nat.succ_mul]
        exact sorted_mono this (by omega) (by omega)
    · rw [dif_neg h]
      by_cases h' : a + k < n
      · rw [if_pos h']
        obtain ⟨P, S⟩ := symF_holds hS (n - a) d a (a + k) n (Nat.le_refl _) (by omega) h' h3 (sorted_mono r0 (by omega) (by omega)) (sorted_mono r1 (by omega) (by omega))
        exact ⟨P, fun i => sorted_mono S (by omega) (by omega)⟩
      · rw [if_neg h']
        exact ⟨permIn_refl _ _ _, fun i => sorted_mono r0 (by omega) (by omega)⟩

theorem passes_holds (hS : SWO lt) (n : Nat) : ∀ (N k : Nat) (d : Array α), n - k ≤ N → 0 < k → n ≤ d.size →
    (∀ i, SortedIn lt (i * k) (min (i * k + k) n) d) → PermIn 0 n d (passes lt n k d) ∧ SortedIn lt 0 n (passes lt n k d) := by
  intro N
  induction N with
  | zero =>
    intro k d h1 hk h3 hr
    rw [passes, dif_neg (by omega)]
    have r0 := hr 0
    rw [Nat.zero_mul] at r0
    exact ⟨permIn_refl _ _ _, sorted_mono r0 (by omega) (by omega)⟩
  | succ N ih =>
    intro k d h1 hk h3 hr
    rw [passes]
    by_cases h : 0 < k ∧ k < n
    · rw [dif_pos h]
      obtain ⟨P, S⟩ := pass_holds hS k n hk n 0 d (by omega) (by omega) h3 (fun i => by simpa using hr i)
      have hs := P.1
      obtain ⟨P', S'⟩ := ih (2 * k) (pass lt k n 0 d) (by omega) (by omega) (by omega) (fun i => by simpa using S i)
      exact ⟨permIn_trans _ _ _ _ _ P P', S'⟩
    · rw [dif_neg h]
      have r0 := hr 0
      rw [Nat.zero_mul] at r0
      exact ⟨permIn_refl _ _ _, sorted_mono r0 (by omega) (by omega)⟩

theorem stable_holds (hS : SWO lt) (d : Array α) (n : Nat) (h : n ≤ d.size) : PermIn 0 n d (stable lt d n) ∧ SortedIn lt 0 n (stable lt d n) := by
  obtain ⟨P, S⟩ := insB_holds hS 20 n (by omega) n 0 d (by omega) (by omega) h
  have hs := P.1
  obtain ⟨P', S'⟩ := passes_holds hS n n 20 (insB lt 20 n 0 d) (by omega) (by omega) (by omega) (fun i => by simpa using S i)
  exact ⟨permIn_trans _ _ _ _ _ P P', S'⟩

/-! sizes without any order -/
theorem insertionSort_size (d : Array α) (a b : Nat) : (insertionSort lt d a b).size = d.size := by
  have inner : ∀ (j : Nat) (d : Array α), (insInner lt a j d).size = d.size := by
    intro j
    induction j with
    | zero => intro d; rfl
    | succ j ih =>
      intro d
      rw [insInner]
      split
      · rw [ih, swp_size]
      · rfl
  have outer : ∀ (N i : Nat) (d : Array α), b - i ≤ N → (insOuter lt a b i d).size = d.size := by
    intro N
    induction N with
    | zero => intro i d h; rw [insOuter, if_neg (by omega)]
    | succ N ih =>
      intro i d h
      rw [insOuter]
      split
      · rw [ih _ _ (by omega), inner]
      · rfl
  exact outer _ _ _ (Nat.le_refl _)
theorem symF_size (N : Nat) : ∀ (d : Array α) (a m b : Nat), b - a ≤ N → (symF lt d a m b).size = d.size := by
  induction N with
  | zero =>
    intro d a m b h
    rw [symF]
    split
    · exact shU_size _ _ _
    split
    · exact shD_size _ _ _
    rw [dif_neg (by omega), dif_neg (by omega), rotd_size]
  | succ N ih =>
    intro d a m b h
    rw [symF]
    split
    · exact shU_size _ _ _
    split
    · exact shD_size _ _ _
    split
    · rw [ih _ _ _ _ (by omega)]
      split
      · rw [ih _ _ _ _ (by omega), rotd_size]
      · exact rotd_size _ _ _ _
    · split
      · rw [ih _ _ _ _ (by omega), rotd_size]
      · exact rotd_size _ _ _ _
end Go.StableF
