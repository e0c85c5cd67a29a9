/- The law DiffSolves, in plain Lean. -/
import Derived.Test.YtenjncmljmgcdaaRefB
import Derived.Test.YtenjncmljmgcdaaP14
namespace Go.Proofs.Ytenjncmljmgcdaa.P
open Go.Proofs.YtenjncmljmgcdaaR
open Go.RowKit Go.Proofs.YtenjncmljmgcdaaW.PrintWords Go.Proofs.YtenjncmljmgcdaaW.PrintLast Go.Proofs.YtenjncmljmgcdaaW.PrintMore
set_option linter.unusedSimpArgs false
set_option linter.unusedVariables false
theorem solve_bad {n : Int} {es : List S42} {F : Int} (h : ¬ (rightB n es = true ∧ 0 ≤ F ∧ F < n)) : solveV n es F = ([], [], 1) := by
  unfold solveV
  rw [if_neg h]
theorem solveF_is {n : Int} {es : List S42} {F : Int} (hn : n ≤ 60) (hm : es.length ≤ 300) : diff_Solve.f n es F = some (solveV n es F) := if_pos ⟨hn, hm⟩
theorem diffSolves_j1 (n : Int) (es : List S42) (F : Int) (hn : n ≤ 60) (hm : es.length ≤ 200) : jitneylaw07_DiffSolves.j1 1001 n es F (solveV n es F).1 (solveV n es F).2.1 (solveV n es F).2.2 (!(rightB n es && decide (0 ≤ F) && decide (F < n))) = some true := by
  have j1 : ∀ x7 x8 x9 b, jitneylaw07_DiffSolves.j1 1001 n es F x7 x8 x9 b = if b = true then (if x9 = 1 then (if (x7.length : Int) = 0 then (some ((x8.length : Int) == 0)) else (some false)) else (some false)) else ((jitneyref07_Solve.f 1000 n es F).bind fun bt177 => (if x9 = 0 then (if bt177.2 = true then (if (x8.length : Int) > 0 then (some false) else ((jitneyref01_SameLongs.f 1000 x7 bt177.1).bind fun t181 => (if t181 = true then (some true) else (some false)))) else ((jitneyref01_SameLongs.f 1000 x7 bt177.1).bind fun t182 => (if t182 = true then ((jitneylaw07_circles.f 1000 es x8).bind fun t183 => (some t183)) else (some false)))) else (some false))) := fun _ _ _ _ => rfl
  rw [j1]
  by_cases h : rightB n es = true ∧ 0 ≤ F ∧ F < n
  · have hb : (!(rightB n es && decide (0 ≤ F) && decide (F < n))) = false := by rw [h.1, decide_eq_true h.2.1, decide_eq_true h.2.2]; rfl
    rw [hb, if_neg (by decide)]
    obtain ⟨h0, hR, hc⟩ := both hn (by omega) h.1 h.2.1 h.2.2
    rcases hc with ⟨d, b, B, la, _, hv, _, _, _, _, hk⟩ | ⟨b, v, z, l, s, l0, x, _, hv, g1, g2, g3, g4, _, hk⟩
    · rw [hv, hk 1000 (by omega), Option.bind_some, if_pos rfl, if_pos rfl, if_neg (by simp)]
      show (jitneyref01_SameLongs.f 1000 (vec n.toNat d) (vec n.toNat d)).bind _ = _
      rw [same_f _ (by rw [vec_length]; omega) 1000 (by rw [vec_length]; omega)]
      rfl
    · rw [hv, hk 1000 (by omega), Option.bind_some, if_pos rfl, if_neg (by decide)]
      show (jitneyref01_SameLongs.f 1000 [] []).bind _ = _
      rw [same_f [] (by simp) 1000 (by simp), Option.bind_some, if_pos rfl, circles_f hR (by omega) g1 g2 g3 (by omega) 1000 (by omega)]
      rfl
  · have hb : (!(rightB n es && decide (0 ≤ F) && decide (F < n))) = true := by
      cases hr : rightB n es
      · rfl
      · by_cases h1 : 0 ≤ F
        · by_cases h2 : F < n
          · exact absurd ⟨hr, h1, h2⟩ h
          · rw [decide_eq_false h2]; simp
        · rw [decide_eq_false h1]; simp
    rw [hb, if_pos rfl, solve_bad h]
    rfl
theorem diffSolves_law (a0 : Int) (l1 : List S42) (a2 : Int) : ∃ k, jitneylaw07_DiffSolves.f k a0 l1 a2 = some true := by
  refine ⟨1002, ?_⟩
  have j0 : ∀ b, jitneylaw07_DiffSolves.j0 1002 a0 l1 a2 b = if b = true then (some true) else ((diff_Solve.f a0 l1 a2).bind fun bt168 => ((jitneyref07_Right.f 1001 a0 l1).bind fun t175 => ((diff_Right.f a0 l1).bind fun t176 => (if (t176 != t175) = true then (some false) else (if t175 = true then (if a2 < 0 then (jitneylaw07_DiffSolves.j1 1001 a0 l1 a2 bt168.1 bt168.2.1 bt168.2.2 true) else (jitneylaw07_DiffSolves.j1 1001 a0 l1 a2 bt168.1 bt168.2.1 bt168.2.2 (decide (a2 ≥ a0)))) else (jitneylaw07_DiffSolves.j1 1001 a0 l1 a2 bt168.1 bt168.2.1 bt168.2.2 true)))))) := fun _ => rfl
  unfold jitneylaw07_DiffSolves.f jitneylaw07_alive.f
  rw [Option.bind_some, if_pos rfl]
  by_cases h1 : a0 > 60
  · rw [if_pos h1, j0, if_pos rfl]
  · rw [if_neg h1, j0]
    by_cases h2 : (l1.length : Int) > 200
    · rw [decide_eq_true h2, if_pos rfl]
    · rw [decide_eq_false h2, if_neg (by decide)]
      have hn : a0 ≤ 60 := by omega
      have hm : l1.length ≤ 200 := by omega
      have hj := diffSolves_j1 a0 l1 a2 hn hm
      have hR : diff_Right.f a0 l1 = some (rightB a0 l1) := rfl
      rw [solveF_is hn (by omega), Option.bind_some, right_f a0 l1 (by omega) 1001 (by omega), Option.bind_some, hR, Option.bind_some, if_neg (by simp)]
      cases hr : rightB a0 l1 with
      | false =>
        rw [hr] at hj
        rw [if_neg (by decide)]
        exact hj
      | true =>
        rw [hr] at hj
        rw [if_pos rfl]
        by_cases h3 : a2 < 0
        · rw [if_pos h3]
          rw [decide_eq_false (by omega : ¬ 0 ≤ a2)] at hj
          exact hj
        · rw [if_neg h3]
          rw [decide_eq_true (by omega : 0 ≤ a2)] at hj
          have e : decide (a2 ≥ a0) = !(true && true && decide (a2 < a0)) := by
            by_cases h4 : a2 < a0
            · rw [decide_eq_true h4, decide_eq_false (by omega : ¬ a2 ≥ a0)]; rfl
            · rw [decide_eq_false h4, decide_eq_true (by omega : a2 ≥ a0)]; rfl
          rw [e]
          exact hj
theorem diffSolves_row {p q r s : Prop} (a0 : Int) (l1 : List S42) (a2 : Int) (_ : p) (_ : q) (_ : r) (_ : s) : ∃ k, jitneylaw07_DiffSolves.f k a0 l1 a2 = some true := diffSolves_law a0 l1 a2
end Go.Proofs.Ytenjncmljmgcdaa.P
