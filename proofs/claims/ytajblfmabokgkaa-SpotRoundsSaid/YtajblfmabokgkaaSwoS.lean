/- The order of a sweep is a strict weak order: by the half of the turn, then by the angle, then by how far. -/
import Derived.Test.YtajblfmabokgkaaClos
namespace Go.Proofs.Ytajblfmabokgkaa.P
open Go.Proofs.YtajblfmabokgkaaR
open Go.Shelf Go.Sort
set_option linter.unusedVariables false
set_option linter.unusedSimpArgs false
/-- Which half a difference lies in, by cases. -/
theorem hlf_cases (x y : Int) : (hlf x y = 0 ∧ x = 0 ∧ y = 0) ∨ (hlf x y = 1 ∧ (0 < y ∨ (y = 0 ∧ 0 < x))) ∨ (hlf x y = 2 ∧ (y < 0 ∨ (y = 0 ∧ x < 0))) := by
  unfold hlf
  rcases Int.lt_trichotomy x 0 with hx | hx | hx <;> rcases Int.lt_trichotomy y 0 with hy | hy | hy
  all_goals
    first | rw [show compare x 0 = .lt from Int.compare_eq_lt.mpr hx] | rw [show compare x 0 = .eq from Int.compare_eq_eq.mpr hx] | rw [show compare x 0 = .gt from Int.compare_eq_gt.mpr hx]
    first | rw [show compare y 0 = .lt from Int.compare_eq_lt.mpr hy] | rw [show compare y 0 = .eq from Int.compare_eq_eq.mpr hy] | rw [show compare y 0 = .gt from Int.compare_eq_gt.mpr hy]
    simp only [show hlfO .lt .lt = 2 from rfl, show hlfO .lt .eq = 2 from rfl, show hlfO .lt .gt = 1 from rfl, show hlfO .eq .lt = 2 from rfl, show hlfO .eq .eq = 0 from rfl, show hlfO .eq .gt = 1 from rfl, show hlfO .gt .lt = 2 from rfl, show hlfO .gt .eq = 1 from rfl, show hlfO .gt .gt = 1 from rfl, true_and]
    omega
theorem neg_of_mul {a v : Int} (hv : 0 < v) (h : a * v ≤ 0) : a ≤ 0 := by
  rcases Int.lt_or_le 0 a with g | g
  · have := Int.mul_pos g hv; omega
  · exact g
theorem half1 {x y u v p q : Int} (h1 : 0 < y ∨ (y = 0 ∧ 0 < x)) (h2 : 0 < v ∨ (v = 0 ∧ 0 < u)) (h3 : 0 < q ∨ (q = 0 ∧ 0 < p)) (c1 : x * v - y * u ≤ 0) (c2 : u * q - v * p ≤ 0) :
    x * q - y * p ≤ 0 ∧ (x * q - y * p = 0 → x * v - y * u = 0 ∧ u * q - v * p = 0) := by
  rcases h2 with hv | ⟨rfl, hu⟩
  · have hid : (x * q - y * p) * v = (x * v - y * u) * q + (u * q - v * p) * y := by
      simp only [Int.sub_mul]
      have e1 : x * v * q = x * q * v := by rw [Int.mul_right_comm]
      have e2 : u * q * y = y * u * q := by rw [Int.mul_comm (u * q) y, Int.mul_assoc]
      have e3 : v * p * y = y * p * v := by rw [Int.mul_comm (v * p) y, Int.mul_comm v p, Int.mul_assoc]
      omega
    have hq : 0 ≤ q := by omega
    have hy : 0 ≤ y := by omega
    have m1 : (x * v - y * u) * q ≤ 0 := Int.mul_nonpos_of_nonpos_of_nonneg c1 hq
    have m2 : (u * q - v * p) * y ≤ 0 := Int.mul_nonpos_of_nonpos_of_nonneg c2 hy
    refine ⟨neg_of_mul hv (by omega), fun h0 => ?_⟩
    rw [h0, Int.zero_mul] at hid
    have z1 : (x * v - y * u) * q = 0 := by omega
    have z2 : (u * q - v * p) * y = 0 := by omega
    have hq2 : 0 < q := by
      rcases h3 with h | ⟨h, hp⟩
      · exact h
      · exfalso
        subst h
        have n2 : v * p > 0 := Int.mul_pos hv hp
        have n3 : u * 0 - v * p ≠ 0 := by rw [Int.mul_zero]; omega
        have hy0 : y = 0 := by
          rcases Int.mul_eq_zero.mp z2 with h | h
          · exact absurd h n3
          · exact h
        subst hy0
        have hx : 0 < x := by omega
        have := Int.mul_pos hx hv
        rw [Int.zero_mul] at c1
        omega
    have hy2 : 0 < y := by
      rcases h1 with h | ⟨h, hx⟩
      · exact h
      · exfalso
        subst h
        have := Int.mul_pos hx hv
        rw [Int.zero_mul] at c1
        omega
    constructor
    · rcases Int.mul_eq_zero.mp z1 with h | h
      · exact h
      · omega
    · rcases Int.mul_eq_zero.mp z2 with h | h
      · exact h
      · omega
  · rw [Int.zero_mul] at c2
    have hq : q = 0 := by
      rcases h3 with h | h
      · have := Int.mul_pos hu h; omega
      · exact h.1
    subst hq
    have hp : 0 < p := by omega
    have hy : 0 ≤ y := by omega
    have m1 : 0 ≤ y * p := Int.mul_nonneg hy (by omega)
    simp only [Int.mul_zero, Int.zero_mul]
    refine ⟨by omega, fun h => ?_⟩
    have h0 : y * p = 0 := by omega
    rcases Int.mul_eq_zero.mp h0 with h | h
    · subst h; rw [Int.zero_mul]; omega
    · omega
theorem half2 {x y u v p q : Int} (h1 : y < 0 ∨ (y = 0 ∧ x < 0)) (h2 : v < 0 ∨ (v = 0 ∧ u < 0)) (h3 : q < 0 ∨ (q = 0 ∧ p < 0)) (c1 : x * v - y * u ≤ 0) (c2 : u * q - v * p ≤ 0) :
    x * q - y * p ≤ 0 ∧ (x * q - y * p = 0 → x * v - y * u = 0 ∧ u * q - v * p = 0) := by
  have := @half1 (-x) (-y) (-u) (-v) (-p) (-q) (by omega) (by omega) (by omega) (by rw [Int.neg_mul_neg, Int.neg_mul_neg]; exact c1) (by rw [Int.neg_mul_neg, Int.neg_mul_neg]; exact c2)
  simp only [Int.neg_mul_neg] at this
  exact this
/-- Two differences in one half of the turn: angles go on. -/
theorem half_all {x y u v p q : Int} (e1 : hlf x y = hlf u v) (e2 : hlf u v = hlf p q) (c1 : x * v - y * u ≤ 0) (c2 : u * q - v * p ≤ 0) :
    x * q - y * p ≤ 0 ∧ (x * q - y * p = 0 → x * v - y * u = 0 ∧ u * q - v * p = 0) := by
  rcases hlf_cases x y with ⟨a, h⟩ | ⟨a, h⟩ | ⟨a, h⟩ <;> rcases hlf_cases u v with ⟨b, g⟩ | ⟨b, g⟩ | ⟨b, g⟩ <;> rcases hlf_cases p q with ⟨c, k⟩ | ⟨c, k⟩ | ⟨c, k⟩
  all_goals first
    | (exfalso; omega)
    | (obtain ⟨rfl, rfl⟩ := h; obtain ⟨rfl, rfl⟩ := g; obtain ⟨rfl, rfl⟩ := k; simp)
    | exact half1 h g k c1 c2
    | exact half2 h g k c1 c2
def ordV (x y u v : Int) : Int := or3 (cmpI (hlf x y) (hlf u v)) (-sgn (x * v - y * u)) (cmpI (x * x + y * y) (u * u + v * v))
theorem ordS_V (o1 o2 a b c d : Int) : ordS o1 o2 a b c d = ordV (a - o1) (b - o2) (c - o1) (d - o2) := by
  unfold ordS ordV crs sqd
  rw [show o1 - a = -(a - o1) by omega, show o2 - b = -(b - o2) by omega, show o1 - c = -(c - o1) by omega, show o2 - d = -(d - o2) by omega]
  simp only [Int.neg_mul_neg]
theorem ordV_lt (x y u v : Int) : ordV x y u v < 0 ↔ hlf x y < hlf u v ∨ (hlf x y = hlf u v ∧ (0 < x * v - y * u ∨ (x * v - y * u = 0 ∧ x * x + y * y < u * u + v * v))) := by
  unfold ordV or3 cmpI sgn
  generalize hlf x y = h1
  generalize hlf u v = h2
  generalize x * v - y * u = c
  generalize x * x + y * y = s1
  generalize u * u + v * v = s2
  constructor
  · intro h
    (repeat' split at h) <;> omega
  · intro h
    (repeat' split) <;> omega
theorem crs_swap (x y u v : Int) : u * y - v * x = -(x * v - y * u) := by
  rw [Int.mul_comm u y, Int.mul_comm v x]; omega
theorem ordV_trans {x y u v p q : Int} (h1 : ordV x y u v < 0) (h2 : ordV u v p q < 0) : ordV x y p q < 0 := by
  rw [ordV_lt] at h1 h2 ⊢
  rcases h1 with h1 | ⟨e1, h1⟩ <;> rcases h2 with h2 | ⟨e2, h2⟩
  · exact Or.inl (by omega)
  · exact Or.inl (by omega)
  · exact Or.inl (by omega)
  · refine Or.inr ⟨e1.trans e2, ?_⟩
    have k := @half_all p q u v x y e2.symm e1.symm (by rw [crs_swap u v p q] ; omega) (by rw [crs_swap x y u v]; omega)
    rw [crs_swap u v p q, crs_swap x y u v, crs_swap x y p q] at k
    by_cases z : x * q - y * p = 0
    · have := k.2 (by omega)
      exact Or.inr ⟨z, by omega⟩
    · exact Or.inl (by omega)
theorem ordV_ntrans {x y u v p q : Int} (h1 : ¬ ordV x y u v < 0) (h2 : ¬ ordV u v p q < 0) : ¬ ordV x y p q < 0 := by
  rw [ordV_lt] at h1 h2 ⊢
  intro h3
  have a1 : hlf u v ≤ hlf x y := by omega
  have a2 : hlf p q ≤ hlf u v := by omega
  have e3 : hlf x y = hlf p q := by omega
  have e1 : hlf x y = hlf u v := by omega
  have e2 : hlf u v = hlf p q := by omega
  have k := @half_all x y u v p q e1 e2 (by omega) (by omega)
  have := k.1
  by_cases z : x * q - y * p = 0
  · have := k.2 z
    omega
  · omega
theorem ordV_irrefl (x y : Int) : ¬ ordV x y x y < 0 := by
  rw [ordV_lt, Int.mul_comm y x]
  omega
theorem swoS (o1 o2 : Int) (A B : Nat → Int) (n : Nat) : SWO (ltOf (cfS o1 o2 A B (n := n))) where
  irrefl := fun x => by
    show decide (_ < 0) = false
    unfold cfS
    rw [ordS_V]
    exact decide_eq_false (ordV_irrefl _ _)
  trans := fun x y z h1 h2 => by
    have h1 := of_decide_eq_true h1
    have h2 := of_decide_eq_true h2
    show decide (_ < 0) = true
    unfold cfS at *
    rw [ordS_V] at *
    exact decide_eq_true (ordV_trans h1 h2)
  ntrans := fun x y z h1 h2 => by
    have h1 := of_decide_eq_false h1
    have h2 := of_decide_eq_false h2
    show decide (_ < 0) = false
    unfold cfS at *
    rw [ordS_V] at *
    exact decide_eq_false (ordV_ntrans h1 h2)
/-- Moved along, the order is the same. -/
theorem cfS_move (o1 o2 : Int) (A B : Nat → Int) (n : Nat) : cfS o1 o2 (fun i => A i + o1) (fun i => B i + o2) (n := n) = cfS 0 0 A B (n := n) := by
  funext i j
  unfold cfS
  rw [ordS_V, ordS_V]
  simp only [Int.add_sub_cancel, Int.sub_zero]
end Go.Proofs.Ytajblfmabokgkaa.P
