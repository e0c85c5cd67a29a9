/- Sums, quotients, orders: the plain laws. -/
import Derived.Test.YtmbjkoffnocodaaPlain
import Derived.Test.YtmbjkoffnocodaaP7
namespace Go.Proofs.Ytmbjkoffnocodaa.P
open Go.Proofs.YtmbjkoffnocodaaR
open Go.RowKit Go.Proofs.YtmbjkoffnocodaaW.PrintWords Go.Proofs.YtmbjkoffnocodaaW.PrintLast Go.Proofs.YtmbjkoffnocodaaW.PrintMore
theorem numSums_law (xs : List Int) (_ : ∀ x ∈ xs, (Lit.int .i64 x).wf = true) (_ : xs.length * Try.prog.bytesOf 2 ≤ reachBytes) : ∃ k, jitneylaw01_NumSums.f k xs = some true := by
  refine ⟨300, ?_⟩
  unfold jitneylaw01_NumSums.f
  rw [alive_is 300 (by omega)]
  simp only [Option.bind_some, if_true]
  by_cases c : (xs.length : Int) > 200
  · rw [if_pos c]
  · rw [if_neg c, sum_is xs (by omega) 300 (by omega), refSum_is xs (by omega) 300 (by omega)]
    simp
theorem numCeils_law (a b : Int) (_ : (Lit.int .i64 a).wf = true) (_ : (Lit.int .i64 b).wf = true) : ∃ k, jitneylaw01_NumCeils.f k a b = some true := by
  refine ⟨20, ?_⟩
  unfold jitneylaw01_NumCeils.f
  rw [alive_is 20 (by omega)]
  simp only [Option.bind_some, if_true, held_is]
  by_cases cb : b < 1
  · rw [if_pos cb]
    unfold num_Ceil.f
    rw [if_pos cb]
    rfl
  rw [if_neg cb]
  have ha := held_range a (-1125899906842624) 1125899906842624 (by decide)
  have hb := held_range b 1 1024 (by decide)
  obtain ⟨x, hx⟩ : ∃ x, x = mx (mn a 1125899906842624) (-1125899906842624) := ⟨_, rfl⟩
  obtain ⟨y, hy⟩ : ∃ y, y = mx (mn b 1024) 1 := ⟨_, rfl⟩
  rw [← hx] at ha ⊢
  rw [← hy] at hb ⊢
  obtain ⟨n, hn, n0, n1, c1, c2⟩ := ceil_is x y hb.1 (by omega) (by omega)
  rw [hn]
  simp only [Option.bind_some]
  have e : (n - 1) * y = n * y - y := by rw [Int.sub_mul, Int.one_mul]
  rw [wrap_id (x := n * y) (by omega) (by omega), wrap_id (x := n - 1) (by omega) (by omega), wrap_id (x := (n - 1) * y) (by omega) (by omega)]
  rw [if_neg (by omega), if_neg (by omega)]
  obtain ⟨r0, r1, r2⟩ := num_Root.is x
  have hf : num_Root.f x = some (num_Root.root x) := rfl
  rw [hf]
  simp only [Option.bind_some]
  obtain ⟨r, hr⟩ : ∃ r, r = num_Root.root x := ⟨_, rfl⟩
  rw [← hr] at r0 r1 r2 ⊢
  rw [if_pos r0]
  by_cases cx : x ≤ 0
  · have hc : num_Root.cl x = 0 := by unfold num_Root.cl mx mn; repeat' split
                                      all_goals omega
    rw [hc] at r2
    have hr0 : r = 0 := by
      rcases r2 with h | h
      · exact h
      · have := num_Root.sq_le (show (0 : Int) ≤ 0 by decide) (show 0 ≤ r by omega)
        by_cases z : r = 0
        · exact z
        · have := Int.mul_nonneg (show 0 ≤ r - 1 by omega) (show 0 ≤ r - 1 by omega)
          omega
    rw [if_pos cx, if_pos hr0]
  · have hc : num_Root.cl x = x := by unfold num_Root.cl mx mn; repeat' split
                                      all_goals omega
    rw [hc] at r1 r2
    rw [if_neg cx, if_pos (by omega)]
    have rz : r ≠ 0 := by
      intro z
      rw [z] at r1
      omega
    have rr : (r - 1) * (r - 1) < x := by
      rcases r2 with h | h
      · exact absurd h rz
      · exact h
    have rb : r ≤ 1073741824 := by
      refine Int.not_lt.1 fun hc => ?_
      have := num_Root.sq_le (show (0 : Int) ≤ 1073741824 by decide) (show 1073741824 ≤ r - 1 by omega)
      omega
    have r2b := num_Root.sq_le r0 rb
    have r3 := Int.mul_nonneg (show 0 ≤ r - 1 by omega) (show 0 ≤ r - 1 by omega)
    rw [wrap_id (x := r * r) (by omega) (by omega), wrap_id (x := r - 1) (by omega) (by omega), wrap_id (x := (r - 1) * (r - 1)) (by omega) (by omega), if_pos (by omega)]
    simp [rr]
theorem numOrders_law (a b k : Int) (_ : (Lit.int .i64 a).wf = true) (_ : (Lit.int .i64 b).wf = true) (_ : (Lit.int .i64 k).wf = true) : ∃ n, jitneylaw01_NumOrders.f n a b k = some true := by
  refine ⟨20, ?_⟩
  unfold jitneylaw01_NumOrders.f
  rw [alive_is 20 (by omega)]
  simp only [Option.bind_some, if_true]
  have fin : ∀ n, jitneylaw01_NumOrders.j1 (n + 3) a b k = some true := by
    intro n
    rw [jitneylaw01_NumOrders.j1, mul_is, mul_is, mul_is]
    simp only [Option.bind_some, held_is]
    have hc := held_range a 0 576460752303423488 (by decide)
    obtain ⟨c, hcc⟩ : ∃ c, c = mx (mn a 576460752303423488) 0 := ⟨_, rfl⟩
    rw [← hcc] at hc ⊢
    have e1 : (if (ok64 b && ok64 a && ok64 (b * a)) = true then (b * a, true) else ((0 : Int), false)) = (if (ok64 a && ok64 b && ok64 (a * b)) = true then (a * b, true) else (0, false)) := by
      rw [Int.mul_comm b a, Bool.and_comm (ok64 b) (ok64 a)]
    rw [e1, if_pos rfl, if_pos (beq_self_eq_true _)]
    have hroot : ((num_Root.f c).bind fun t179 => ((num_Root.f (wrap64 (c + (Go.bits .and .i64 k 1023)))).bind fun t180 => (some (decide (t179 ≤ t180))))) = some true := by
      have hf : ∀ x, num_Root.f x = some (num_Root.root x) := fun _ => rfl
      rw [hf, hf]
      simp only [Option.bind_some, Option.some.injEq, decide_eq_true_eq]
      refine root_mono _ _ ?_
      rw [and1023, wrap_id (by omega) (by omega)]
      unfold num_Root.cl mx mn
      repeat' split
      all_goals omega
    rw [Int.mul_one]
    cases h1 : (ok64 a && ok64 1 && ok64 a)
    · simp only [Bool.false_eq_true, if_false, if_true]
      exact hroot
    · simp only [if_true]
      exact hroot
  rw [add_is, add_is]
  simp only [Option.bind_some]
  have e1 : (if (ok64 b && ok64 a && ok64 (wrap64 (b + a))) = true then (wrap64 (b + a), true) else ((0 : Int), false)) = (if (ok64 a && ok64 b && ok64 (wrap64 (a + b))) = true then (wrap64 (a + b), true) else (0, false)) := by
    rw [Int.add_comm b a, Bool.and_comm (ok64 b) (ok64 a)]
  rw [e1, if_pos rfl]
  have hbne : ∀ x : Bool, (x != x) = false := fun x => bne_self_eq_false x
  rw [hbne, jitneylaw01_NumOrders.j0, if_neg (by decide)]
  cases h1 : (ok64 a && ok64 b && ok64 (wrap64 (a + b)))
  · simp only [Bool.false_eq_true, if_false]
    exact fin 16
  · simp only [if_true]
    simp only [Bool.and_eq_true, ok64_iff] at h1
    obtain ⟨⟨ha, hb⟩, hs⟩ := h1
    have e2 : wrap64 (a + b) = a + b := wrap_id (by omega) (by omega)
    have e3 : wrap64 (-b) = -b := wrap_id (by omega) (by omega)
    have e4 : wrap64 (a + b + -b) = a := by rw [Int.add_neg_cancel_right]; exact wrap_id (by omega) (by omega)
    rw [e2] at hs
    rw [e2, e3, add_is, e4, if_pos (by simp only [Bool.and_eq_true, ok64_iff]; omega)]
    simp only [Option.bind_some, if_true]
    exact fin 16
end Go.Proofs.Ytmbjkoffnocodaa.P
