/- What is held; quotients of sums: the plain laws. -/
import Derived.Test.YtmbjkoffnocodaaPlain
import Derived.Test.YtmbjkoffnocodaaP8
namespace Go.Proofs.Ytmbjkoffnocodaa.P
open Go.Proofs.YtmbjkoffnocodaaR
open Go.RowKit Go.Proofs.YtmbjkoffnocodaaW.PrintWords Go.Proofs.YtmbjkoffnocodaaW.PrintLast Go.Proofs.YtmbjkoffnocodaaW.PrintMore
theorem numHolds_law (a b lo hi : Int) (_ : (Lit.int .i64 a).wf = true) (_ : (Lit.int .i64 b).wf = true) (_ : (Lit.int .i64 lo).wf = true) (_ : (Lit.int .i64 hi).wf = true) : ∃ n, jitneylaw01_NumHolds.f n a b lo hi = some true := by
  refine ⟨20, ?_⟩
  unfold jitneylaw01_NumHolds.f
  rw [alive_is 20 (by omega)]
  simp only [Option.bind_some, if_true, held_is]
  obtain ⟨x, hx⟩ : ∃ x, x = mx (mn a hi) lo := ⟨_, rfl⟩
  obtain ⟨y, hy⟩ : ∃ y, y = mx (mn b hi) lo := ⟨_, rfl⟩
  have hx2 : mx (mn x hi) lo = x := by rw [hx]; unfold mx mn; repeat' split
                                       all_goals omega
  have hm : a ≤ b → x ≤ y := by intro h; rw [hx, hy]; unfold mx mn; repeat' split
                                all_goals omega
  have hlo : lo > hi → x = lo := by intro h; rw [hx]; unfold mx mn; repeat' split
                                    all_goals omega
  have hr : lo ≤ hi → lo ≤ x ∧ x ≤ hi := by intro h; rw [hx]; exact held_range a lo hi h
  have hs : lo ≤ a → a ≤ hi → x = a := by intro h g; rw [hx]; unfold mx mn; repeat' split
                                          all_goals omega
  rw [← hx, ← hy, hx2, if_pos rfl]
  have fin : jitneylaw01_NumHolds.j0 20 a lo hi x false = some true := by
    rw [jitneylaw01_NumHolds.j0, if_neg (by decide)]
    by_cases c : lo > hi
    · rw [if_pos c, hlo c]; simp
    · rw [if_neg c]
      have := hr (by omega)
      rw [if_pos (by omega), if_pos (by omega)]
      by_cases c1 : a < lo
      · rw [if_pos c1]
      · rw [if_neg c1]
        by_cases c2 : a > hi
        · rw [if_pos c2]
        · rw [if_neg c2, hs (by omega) (by omega)]; simp
  by_cases c : a ≤ b
  · rw [if_pos c, show decide (x > y) = false by simp; exact hm c]
    exact fin
  · rw [if_neg c]
    exact fin
theorem numCeilSums_law (a b by_ : Int) (_ : (Lit.int .i64 a).wf = true) (_ : (Lit.int .i64 b).wf = true) (_ : (Lit.int .i64 by_).wf = true) : ∃ n, jitneylaw01_NumCeilSums.f n a b by_ = some true := by
  refine ⟨20, ?_⟩
  unfold jitneylaw01_NumCeilSums.f
  rw [alive_is 20 (by omega)]
  simp only [Option.bind_some, if_true, held_is]
  have ha := held_range a 0 1125899906842624 (by decide)
  have hb := held_range b 0 1125899906842624 (by decide)
  have hc := held_range by_ 1 1099511627776 (by decide)
  obtain ⟨x, hx⟩ : ∃ x, x = mx (mn a 1125899906842624) 0 := ⟨_, rfl⟩
  obtain ⟨y, hy⟩ : ∃ y, y = mx (mn b 1125899906842624) 0 := ⟨_, rfl⟩
  obtain ⟨z, hz⟩ : ∃ z, z = mx (mn by_ 1099511627776) 1 := ⟨_, rfl⟩
  rw [← hx] at ha ⊢
  rw [← hy] at hb ⊢
  rw [← hz] at hc ⊢
  have hd := held_range x 0 1073741824 (by decide)
  obtain ⟨r, hr⟩ : ∃ r, r = mx (mn x 1073741824) 0 := ⟨_, rfl⟩
  rw [← hr] at hd ⊢
  obtain ⟨n1, e1, p1, q1, l1, u1⟩ := ceil_is x z hc.1 (by omega) (by omega)
  obtain ⟨n2, e2, p2, q2, l2, u2⟩ := ceil_is y z hc.1 (by omega) (by omega)
  obtain ⟨n3, e3, p3, q3, l3, u3⟩ := ceil_is (x + y) z hc.1 (by omega) (by omega)
  obtain ⟨n4, e4, p4, q4, l4, u4⟩ := ceil_is x 1 (by omega) (by omega) (by omega)
  rw [wrap_id (x := x + y) (by omega) (by omega), e1, e2, e3]
  simp only [Option.bind_some]
  rw [wrap_id (x := n1 + n2) (by omega) (by omega), wrap_id (x := n1 + n2 - 1) (by omega) (by omega)]
  have hz0 : 0 ≤ z := by omega
  have k1 : n3 - 1 < n1 + n2 := by
    refine Int.lt_of_mul_lt_mul_right (a := z) ?_ hz0
    rw [Int.add_mul]
    omega
  have k2 : (n1 - 1) + (n2 - 1) < n3 := by
    refine Int.lt_of_mul_lt_mul_right (a := z) ?_ hz0
    rw [Int.add_mul]
    omega
  rw [if_pos (by omega), if_pos (by omega), e4]
  simp only [Option.bind_some]
  rw [if_pos (by omega)]
  have e5 : num_Ceil.f x 0 = some 0 := by unfold num_Ceil.f; rw [if_pos (by decide)]
  rw [e5]
  simp only [Option.bind_some, if_true]
  have h2 := num_Root.sq_le hd.1 hd.2
  have h3 := Int.mul_nonneg hd.1 hd.1
  rw [wrap_id (x := r * r) (by omega) (by omega)]
  have hf : num_Root.f (r * r) = some (num_Root.root (r * r)) := rfl
  rw [hf]
  simp only [Option.bind_some]
  have hcl : num_Root.cl (r * r) = r * r := by unfold num_Root.cl mx mn; repeat' split
                                               all_goals omega
  have hi := num_Root.is (r * r)
  rw [hcl] at hi
  have : num_Root.root (r * r) = r := by
    refine num_Root.one hi ⟨hd.1, Int.le_refl _, ?_⟩
    by_cases z : r = 0
    · exact .inl z
    · refine .inr ?_
      have : (r - 1) * (r - 1) = r * r - 2 * r + 1 := by rw [Int.sub_mul, Int.mul_sub]; omega
      omega
  rw [this]
  simp
end Go.Proofs.Ytmbjkoffnocodaa.P
