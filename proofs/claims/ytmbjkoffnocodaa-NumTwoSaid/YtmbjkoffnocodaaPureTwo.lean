/- Of all pairs of numbers every answer is as said: the plain law. -/
import Derived.Test.YtmbjkoffnocodaaPlain
import Derived.Test.YtmbjkoffnocodaaWalkNumTwo
namespace Go.Proofs.Ytmbjkoffnocodaa.P
open Go.Proofs.YtmbjkoffnocodaaR
open Go.RowKit Go.Proofs.YtmbjkoffnocodaaW.PrintWords Go.Proofs.YtmbjkoffnocodaaW.PrintLast Go.Proofs.YtmbjkoffnocodaaW.PrintMore
theorem refHeld_is (a lo hi : Int) : jitneyref01_Held.f a lo hi = some (mx (mn a hi) lo) := by
  unfold jitneyref01_Held.f mx mn
  repeat' split
  all_goals first | rfl | (exfalso; omega)
theorem refRoot_loop (n : Int) : ∀ (k : Nat) (lo hi : Int), 0 ≤ lo → lo ≤ hi → hi ≤ 1073741824 → hi - lo < 2 ^ k → jitneyref01_Root.l0 (k + 1) n lo hi = some (num_Root.go n k lo hi) := by
  intro k
  induction k with
  | zero =>
    intro lo hi h0 h1 h2 h3
    have : lo = hi := by simp at h3; omega
    subst this
    rw [jitneyref01_Root.l0, if_neg (by omega), num_Root.go]
  | succ k ih =>
    intro lo hi h0 h1 h2 h3
    have h5 : (2 : Int) ^ (k + 1) = 2 * 2 ^ k := by rw [Int.pow_succ, Int.mul_comm]
    rw [h5] at h3
    rw [jitneyref01_Root.l0, num_Root.go]
    by_cases c : lo < hi
    · have e1 : wrap64 (lo + hi) = lo + hi := wrap_id (by omega) (by omega)
      have e2 : Int.tdiv (lo + hi) 2 = (lo + hi) / 2 := Int.tdiv_eq_ediv_of_nonneg (by omega)
      obtain ⟨m, hm⟩ : ∃ m, m = (lo + hi) / 2 := ⟨_, rfl⟩
      have e3 := num_Root.sq_le (show 0 ≤ m by omega) (show m ≤ 1073741824 by omega)
      have e4 := Int.mul_nonneg (show 0 ≤ m by omega) (show 0 ≤ m by omega)
      rw [if_pos c, if_pos c, e1, e2, ← hm, wrap_id (x := m) (by omega) (by omega), wrap_id (x := m * m) (by omega) (by omega), wrap_id (x := m + 1) (by omega) (by omega)]
      by_cases d : n ≤ m * m
      · rw [if_pos d, if_pos d]
        exact ih _ _ h0 (by omega) (by omega) (by omega)
      · rw [if_neg d, if_neg d]
        exact ih _ _ (by omega) (by omega) h2 (by omega)
    · rw [if_neg c, if_neg c]
theorem refRoot_up (n : Int) (v : Int) : ∀ d, jitneyref01_Root.l0 32 n 0 1073741824 = some v → jitneyref01_Root.l0 (32 + d) n 0 1073741824 = some v := by
  intro d h
  induction d with
  | zero => exact h
  | succ d ih => exact jitneyref01_Root.mono_l _ _ _ _ _ ih
theorem refRoot_is (a : Int) : jitneyref01_Root.f 40 a = some (num_Root.root a) := by
  have hcl := num_Root.cl_range a
  unfold jitneyref01_Root.f
  rw [refHeld_is]
  simp only [Option.bind_some]
  have h := refRoot_loop (num_Root.cl a) 31 0 1073741824 (by omega) (by omega) (by omega) (by decide)
  have h2 := refRoot_up (num_Root.cl a) _ 8 h
  unfold num_Root.root
  exact h2
theorem numTwo_law (a b c : Int) (w : World) : Calls Try.prog 3 #[.int .i64 a, .int .i64 b, .int .i64 c] w fun e w' => e = .returned (.bool true) ∧ Below w.heap.size w w' := by
  have hs : ∃ s ok, num_Add.f a b = some (s, ok) ∧ jitneyref01_Sum.f 40 [a, b] = some (s, ok) := by
    rw [refSum_is _ (by simp) 40 (by simp), add_is]
    have h0 : ok64 0 = true := by decide
    simp only [sumF, h0, Bool.true_and, Int.zero_add]
    cases ha : ok64 a
    · exact ⟨_, _, rfl, by simp⟩
    · have hw : wrap64 a = a := by rw [ok64_iff] at ha; exact wrap_id (by omega) (by omega)
      rw [hw, ha]
      simp only [Bool.and_self, if_true, Bool.true_and]
      cases hc : (ok64 b && ok64 (wrap64 (a + b)))
      · exact ⟨_, _, rfl, by simp⟩
      · exact ⟨_, _, rfl, by simp⟩
  obtain ⟨s, ok, h6, h7⟩ := hs
  have hm : ∃ m mk, num_Mul.f 40 a b = some (m, mk) ∧ jitneyref01_Mul.f 40 a b = some (m, mk) := by
    have e1 := mul_is 38 a b
    have e2 := refMul_is 37 a b
    obtain ⟨p, hp⟩ : ∃ p, p = if (ok64 a && ok64 b && ok64 (a * b)) = true then (a * b, true) else ((0 : Int), false) := ⟨_, rfl⟩
    rw [← hp] at e1 e2
    obtain ⟨m, mk⟩ := p
    exact ⟨m, mk, e1, e2⟩
  obtain ⟨m, mk, h8, h9⟩ := hm
  have h18 : jitneyref01_Root.f 40 a = some (num_Root.root a) := refRoot_is a
  exact numTwo_walk 40 a b c s m _ (num_Root.root a) ok mk w (alive_is 40 (by omega)) h6 h7 h8 h9 (held_is a b c) (refHeld_is a b c) rfl h18
end Go.Proofs.Ytmbjkoffnocodaa.P
