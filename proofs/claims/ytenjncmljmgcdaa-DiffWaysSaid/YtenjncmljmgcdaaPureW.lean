/- The law DiffWays, in plain Lean. -/
import Derived.Test.YtenjncmljmgcdaaRefB
import Derived.Test.YtenjncmljmgcdaaP15
namespace Go.Proofs.Ytenjncmljmgcdaa.P
open Go.Proofs.YtenjncmljmgcdaaR
open Go.RowKit Go.Proofs.YtenjncmljmgcdaaW.PrintWords Go.Proofs.YtenjncmljmgcdaaW.PrintLast Go.Proofs.YtenjncmljmgcdaaW.PrintMore
set_option linter.unusedSimpArgs false
set_option linter.unusedVariables false
theorem diffWays_j1 (n : Int) (es : List S42) (F T : Int) (hn : n ≤ 60) (hm : es.length ≤ 200) (b : Bool) (hb : b = true ↔ ¬ (rightB n es = true ∧ (0 ≤ F ∧ F < n) ∧ 0 ≤ T ∧ T < n)) : jitneylaw07_DiffWays.j1 1001 n es F T (wayV n es F T).1 (wayV n es F T).2 b = some true := by
  have j1 : ∀ x9 x10, jitneylaw07_DiffWays.j1 1001 n es F T x9 x10 b = if b = true then (if x10 = 1 then (some ((x9.length : Int) == 0)) else (some false)) else ((jitneyref07_Solve.f 1000 n es F).bind fun bt190 => (if bt190.2 = true then (if 0 ≤ T then (if T < (bt190.1.length : Int) then (if (rd bt190.1 T) = 1152921504606846976 then (if x10 = 4 then (some ((x9.length : Int) == 0)) else (some false)) else ((jitneyref07_Sum.f 1000 es x9 F T).bind fun bt195 => (if x10 = 0 then (if bt195.2 = true then (some (bt195.1 == (rd bt190.1 T))) else (some false)) else (some false)))) else (none)) else (none)) else (if x10 = 34 then (some ((x9.length : Int) == 0)) else (some false)))) := fun _ _ => rfl
  rw [j1]
  cases hbb : b with
  | true =>
    rw [if_pos rfl]
    have h := hb.1 hbb
    have hv : wayV n es F T = ([], 1) := by unfold wayV; rw [if_neg h]
    rw [hv]
    rfl
  | false =>
    have h : rightB n es = true ∧ (0 ≤ F ∧ F < n) ∧ 0 ≤ T ∧ T < n := Classical.byContradiction fun hc => by
      have := hb.2 hc
      rw [hbb] at this
      cases this
    rw [if_neg (by decide)]
    obtain ⟨h0, hR, hc⟩ := both hn (by omega) h.1 h.2.1.1 h.2.1.2
    obtain ⟨m, rfl⟩ : ∃ m : Nat, n = m := ⟨n.toNat, by omega⟩
    obtain ⟨t, rfl⟩ : ∃ t : Nat, T = t := ⟨T.toNat, by omega⟩
    rw [Int.toNat_natCast] at hc
    have hw : wayV (m : Int) es F (t : Int) = (match solveR es m F with
      | .ok d b => if d (t : Int) = 1152921504606846976 then ([], 4) else ((ringL es b (t : Int) (chainL es b (t : Int) m)).reverse, 0)
      | .cyc _ _ => ([], 34)) := by
      unfold wayV
      rw [if_pos h, Int.toNat_natCast]
      rfl
    rcases hc with ⟨d, b, B, la, hs, _, hD, _, _, hI, hk⟩ | ⟨b, v, z, l, s, l0, x, hs, _, _, _, _, _, _, hk⟩
    · rw [hk 1000 (by omega), Option.bind_some, if_pos rfl, if_pos h.2.2.1]
      have htm : t < m := by omega
      show (if (t : Int) < ((vec m d).length : Int) then (if rd (vec m d) (t : Int) = 1152921504606846976 then _ else _) else none) = some true
      rw [if_pos (by rw [vec_length]; omega), rd_vec d htm]
      rw [hs] at hw
      have hw : wayV (m : Int) es F (t : Int) = if d (t : Int) = 1152921504606846976 then ([], 4) else ((ringL es b (t : Int) (chainL es b (t : Int) m)).reverse, 0) := hw
      by_cases hf : d (t : Int) = 1152921504606846976
      · rw [if_pos hf] at hw
        rw [if_pos hf, hw]
        rfl
      · rw [if_neg hf] at hw
        rw [if_neg hf, hw]
        obtain ⟨q, hq, hbq, hch, l, hwl, hlen, hmap⟩ := chain_end (s := ⟨d, b, la⟩) hR hI hD h.2.2.1 h.2.2.2 hf
        have hq2 : chainL es b (t : Int) m = q := chainL_is hq hbq fun k hk => (hch k hk).1
        have hmap : l.map (fun i : Nat => (i : Int)) = (ringL es b (t : Int) q).reverse := hmap
        have hwl : Way es F l (t : Int) (d (t : Int)) := hwl
        rw [hq2]
        show (jitneyref07_Sum.f 1000 es (ringL es b (t : Int) q).reverse F (t : Int)).bind _ = some true
        rw [← hmap, sum_f hR (by omega) hwl (by omega) (t : Int) 1000 (by omega), Option.bind_some]
        show (if (0 : Int) = 0 then (if ((t : Int) == (t : Int)) = true then some (d (t : Int) == d (t : Int)) else some false) else some false) = some true
        simp
    · rw [hk 1000 (by omega), Option.bind_some, if_neg (by decide)]
      rw [hs] at hw
      rw [hw]
      rfl
theorem diffWays_law (a0 : Int) (l1 : List S42) (a2 a3 : Int) : ∃ k, jitneylaw07_DiffWays.f k a0 l1 a2 a3 = some true := by
  refine ⟨1002, ?_⟩
  have j0 : ∀ b, jitneylaw07_DiffWays.j0 1002 a0 l1 a2 a3 b = if b = true then (some true) else ((diff_Way.f a0 l1 a2 a3).bind fun bt185 => ((jitneyref07_Right.f 1001 a0 l1).bind fun t189 => (if t189 = true then (if a2 < 0 then (jitneylaw07_DiffWays.j1 1001 a0 l1 a2 a3 bt185.1 bt185.2 true) else (if a2 ≥ a0 then (jitneylaw07_DiffWays.j1 1001 a0 l1 a2 a3 bt185.1 bt185.2 true) else (if a3 < 0 then (jitneylaw07_DiffWays.j1 1001 a0 l1 a2 a3 bt185.1 bt185.2 true) else (jitneylaw07_DiffWays.j1 1001 a0 l1 a2 a3 bt185.1 bt185.2 (decide (a3 ≥ a0)))))) else (jitneylaw07_DiffWays.j1 1001 a0 l1 a2 a3 bt185.1 bt185.2 true)))) := fun _ => rfl
  unfold jitneylaw07_DiffWays.f jitneylaw07_alive.f
  rw [Option.bind_some, if_pos rfl]
  by_cases h1 : a0 > 60
  · rw [if_pos h1, j0, if_pos rfl]
  · rw [if_neg h1, j0]
    by_cases h2 : (l1.length : Int) > 200
    · rw [decide_eq_true h2, if_pos rfl]
    · rw [decide_eq_false h2, if_neg (by decide)]
      have hn : a0 ≤ 60 := by omega
      have hm : l1.length ≤ 200 := by omega
      have hw : diff_Way.f a0 l1 a2 a3 = some (wayV a0 l1 a2 a3) := if_pos ⟨hn, by omega⟩
      rw [hw, Option.bind_some, right_f a0 l1 (by omega) 1001 (by omega), Option.bind_some]
      have hj := diffWays_j1 a0 l1 a2 a3 hn hm
      cases hr : rightB a0 l1 with
      | false =>
        rw [if_neg (by decide)]
        exact hj true ⟨fun _ hc => by rw [hr] at hc; exact absurd hc.1 (by decide), fun _ => rfl⟩
      | true =>
        rw [if_pos rfl]
        by_cases c1 : a2 < 0
        · rw [if_pos c1]
          exact hj true ⟨fun _ hc => by omega, fun _ => rfl⟩
        · rw [if_neg c1]
          by_cases c2 : a2 ≥ a0
          · rw [if_pos c2]
            exact hj true ⟨fun _ hc => by omega, fun _ => rfl⟩
          · rw [if_neg c2]
            by_cases c3 : a3 < 0
            · rw [if_pos c3]
              exact hj true ⟨fun _ hc => by omega, fun _ => rfl⟩
            · rw [if_neg c3]
              refine hj _ ⟨fun h hc => ?_, fun hc => ?_⟩
              · have := of_decide_eq_true h
                omega
              · refine decide_eq_true ?_
                refine Int.not_lt.1 fun h4 => hc ⟨hr, ⟨by omega, by omega⟩, by omega, h4⟩
theorem diffWays_row {p q r s t : Prop} (a0 : Int) (l1 : List S42) (a2 a3 : Int) (_ : p) (_ : q) (_ : r) (_ : s) (_ : t) : ∃ k, jitneylaw07_DiffWays.f k a0 l1 a2 a3 = some true := diffWays_law a0 l1 a2 a3
end Go.Proofs.Ytenjncmljmgcdaa.P
