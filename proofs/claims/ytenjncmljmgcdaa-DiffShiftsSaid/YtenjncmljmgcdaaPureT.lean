/- The law DiffShifts, in plain Lean. -/
import Derived.Test.YtenjncmljmgcdaaRefB
import Derived.Test.YtenjncmljmgcdaaP19
namespace Go.Proofs.Ytenjncmljmgcdaa.P
open Go.Proofs.YtenjncmljmgcdaaR
open Go.RowKit Go.Proofs.YtenjncmljmgcdaaW.PrintWords Go.Proofs.YtenjncmljmgcdaaW.PrintLast Go.Proofs.YtenjncmljmgcdaaW.PrintMore
set_option linter.unusedSimpArgs false
set_option linter.unusedVariables false
theorem solveF_is {n : Int} {es : List S42} {F : Int} (hn : n ≤ 60) (hm : es.length ≤ 300) : diff_Solve.f n es F = some (solveV n es F) := if_pos ⟨hn, hm⟩
theorem solve_bad {n : Int} {es : List S42} {F : Int} (h : ¬ (rightB n es = true ∧ 0 ≤ F ∧ F < n)) : solveV n es F = ([], [], 1) := by
  unfold solveV
  rw [if_neg h]
theorem diffShifts_l0 {es : List S42} {m : Nat} {a b : Int} {d e : Int → Int} {B C : Int} (hm : m ≤ 1000) (hb0 : 0 ≤ b) (hb1 : b < m) (hD : Dist es a d) (hE : Dist es b e) (hB : Bd B d) (hC : Bd C e) (hb : B + 2199023255552 < 1152921504606846976) (hc : C + 2199023255552 < 1152921504606846976) :
    ∀ (k i : Nat), m < i + k → i ≤ m → jitneylaw07_DiffShifts.l0 k b (vec m d) (vec m e) ((vec m d).length : Int) (i : Int) = some true
  | 0, i, h, hi => by omega
  | k + 1, i, h, hi => by
    obtain ⟨t, rfl⟩ : ∃ t : Nat, b = t := ⟨b.toNat, by omega⟩
    have ih := diffShifts_l0 hm hb0 hb1 hD hE hB hC hb hc k (i + 1)
    unfold jitneylaw07_DiffShifts.l0
    rw [vec_length] at ih ⊢
    by_cases c : i < m
    · rw [if_pos (by omega), if_pos hb0, if_pos (by omega), rd_vec d (by omega : t < m), wrap_succ (by omega)]
      by_cases h1 : d (t : Int) = 1152921504606846976
      · rw [if_pos h1]
        exact ih (by omega) (by omega)
      · rw [if_neg h1, if_pos (by omega), if_pos (by rw [vec_length]; omega), rd_vec e c]
        by_cases h2 : e (i : Int) = 1152921504606846976
        · rw [if_pos h2]
          exact ih (by omega) (by omega)
        · rw [if_neg h2, if_pos (by omega), rd_vec d c]
          obtain ⟨l1, w1⟩ := hD.way _ h1
          obtain ⟨l2, w2⟩ := hE.way _ h2
          obtain ⟨g1, g2⟩ := hD.least _ _ _ (w1.trans w2)
          have b1 := (hB (t : Int)).resolve_left h1
          have b2 := (hC (i : Int)).resolve_left h2
          have hw : wrap64 (d (t : Int) + e (i : Int)) = d (t : Int) + e (i : Int) := by unfold wrap64; omega
          rw [if_neg g1, hw, if_neg (by omega)]
          exact ih (by omega) (by omega)
    · rw [if_neg (by omega)]
theorem diffShifts_law (a0 : Int) (l1 : List S42) (a2 a3 : Int) : ∃ k, jitneylaw07_DiffShifts.f k a0 l1 a2 a3 = some true := by
  refine ⟨1003, ?_⟩
  have j0 : ∀ b, jitneylaw07_DiffShifts.j0 1003 a0 l1 a2 a3 b = if b = true then (some true) else ((diff_Solve.f a0 l1 a2).bind fun bt279 => ((diff_Solve.f a0 l1 a3).bind fun bt286 => (if bt279.2.2 = 0 then (if bt286.2.2 = 0 then (if (bt279.2.1.length : Int) > 0 then (jitneylaw07_DiffShifts.j1 1002 a2 a3 bt279.1 bt286.1 true) else (jitneylaw07_DiffShifts.j1 1002 a2 a3 bt279.1 bt286.1 (decide ((bt286.2.1.length : Int) > 0)))) else (jitneylaw07_DiffShifts.j1 1002 a2 a3 bt279.1 bt286.1 true)) else (jitneylaw07_DiffShifts.j1 1002 a2 a3 bt279.1 bt286.1 true)))) := fun _ => rfl
  have j1 : ∀ x9 x12 b, jitneylaw07_DiffShifts.j1 1002 a2 a3 x9 x12 b = if b = true then (some true) else (if 0 ≤ a2 then (if a2 < (x9.length : Int) then (if (rd x9 a2) = 0 then (if 0 ≤ a3 then (if a3 < (x12.length : Int) then (jitneylaw07_DiffShifts.j2 1001 a3 x9 x12 ((rd x12 a3) != 0)) else (none)) else (none)) else (jitneylaw07_DiffShifts.j2 1001 a3 x9 x12 true)) else (none)) else (none)) := fun _ _ _ => rfl
  have j1t : ∀ x9 x12, jitneylaw07_DiffShifts.j1 1002 a2 a3 x9 x12 true = some true := fun x9 x12 => by rw [j1, if_pos rfl]
  unfold jitneylaw07_DiffShifts.f jitneylaw07_alive.f
  rw [Option.bind_some, if_pos rfl]
  by_cases h1 : a0 > 20
  · rw [if_pos h1, j0, if_pos rfl]
  · rw [if_neg h1, j0]
    by_cases h2 : (l1.length : Int) > 200
    · rw [decide_eq_true h2, if_pos rfl]
    · rw [decide_eq_false h2, if_neg (by decide)]
      have hn : a0 ≤ 60 := by omega
      have hm : l1.length ≤ 200 := by omega
      rw [solveF_is hn (by omega), Option.bind_some, solveF_is hn (by omega), Option.bind_some]
      by_cases ga : rightB a0 l1 = true ∧ 0 ≤ a2 ∧ a2 < a0
      · by_cases gb : rightB a0 l1 = true ∧ 0 ≤ a3 ∧ a3 < a0
        · obtain ⟨h0, hR, ca⟩ := both hn (by omega) ga.1 ga.2.1 ga.2.2
          obtain ⟨_, _, cb⟩ := both hn (by omega) gb.1 gb.2.1 gb.2.2
          rcases ca with ⟨d, b, B, la, _, hv, hD, _, hb, hI, _⟩ | ⟨b, v, z, l, s, l0, x, _, hv, _, _, g3, _⟩
          · rcases cb with ⟨e, b', C, la', _, hv', hE, _, hc, hI', _⟩ | ⟨b', v', z', l', s', l0', x', _, hv', _, _, g3', _⟩
            · rw [hv, hv']
              obtain ⟨m, rfl⟩ : ∃ m : Nat, a0 = m := ⟨a0.toNat, by omega⟩
              rw [Int.toNat_natCast]
              show (if (0 : Int) = 0 then (if (0 : Int) = 0 then (if ((([] : List Int).length : Nat) : Int) > 0 then jitneylaw07_DiffShifts.j1 1002 a2 a3 (vec m d) (vec m e) true else jitneylaw07_DiffShifts.j1 1002 a2 a3 (vec m d) (vec m e) (decide ((([] : List Int).length : Int) > 0))) else jitneylaw07_DiffShifts.j1 1002 a2 a3 (vec m d) (vec m e) true) else jitneylaw07_DiffShifts.j1 1002 a2 a3 (vec m d) (vec m e) true) = some true
              rw [if_pos rfl, if_pos rfl, if_neg (by simp), decide_eq_false (by simp), j1, if_neg (by decide), if_pos ga.2.1, if_pos (by rw [vec_length]; exact ga.2.2)]
              obtain ⟨t, rfl⟩ : ∃ t : Nat, a2 = t := ⟨a2.toNat, by omega⟩
              obtain ⟨u, rfl⟩ : ∃ u : Nat, a3 = u := ⟨a3.toNat, by omega⟩
              rw [rd_vec d (by omega : t < m), hD.root, if_pos rfl, if_pos gb.2.1, if_pos (by rw [vec_length]; exact gb.2.2), rd_vec e (by omega : u < m), hE.root]
              have j2 : jitneylaw07_DiffShifts.j2 1001 (u : Int) (vec m d) (vec m e) ((0 : Int) != 0) = jitneylaw07_DiffShifts.l0 1000 (u : Int) (vec m d) (vec m e) ((vec m d).length : Int) 0 := rfl
              rw [j2]
              exact diffShifts_l0 (by omega) gb.2.1 gb.2.2 hD hE hI.bd hI'.bd hb hc 1000 0 (by omega) (by omega)
            · rw [hv, hv']
              show (if (0 : Int) = 0 then (if (0 : Int) = 0 then (if ((([] : List Int).length : Nat) : Int) > 0 then jitneylaw07_DiffShifts.j1 1002 a2 a3 _ _ true else jitneylaw07_DiffShifts.j1 1002 a2 a3 _ _ (decide (((l'.map fun i : Nat => (i : Int)).length : Int) > 0))) else jitneylaw07_DiffShifts.j1 1002 a2 a3 _ _ true) else jitneylaw07_DiffShifts.j1 1002 a2 a3 _ _ true) = some true
              have hl : ((l'.map fun i : Nat => (i : Int)).length : Int) > 0 := by
                rw [List.length_map]
                have := List.length_pos_iff.2 g3'
                omega
              rw [if_pos rfl, if_pos rfl, if_neg (by simp), decide_eq_true hl, j1t]
          · rw [hv]
            have hl : ((l.map fun i : Nat => (i : Int)).length : Int) > 0 := by
              rw [List.length_map]
              have := List.length_pos_iff.2 g3
              omega
            show (if (0 : Int) = 0 then (if (solveV a0 l1 a3).2.2 = 0 then (if ((l.map fun i : Nat => (i : Int)).length : Int) > 0 then jitneylaw07_DiffShifts.j1 1002 a2 a3 _ _ true else _) else jitneylaw07_DiffShifts.j1 1002 a2 a3 _ _ true) else jitneylaw07_DiffShifts.j1 1002 a2 a3 _ _ true) = some true
            rw [if_pos rfl, if_pos hl, j1t]
            split <;> rfl
        · rw [solve_bad gb]
          show (if (solveV a0 l1 a2).2.2 = 0 then (if (1 : Int) = 0 then _ else jitneylaw07_DiffShifts.j1 1002 a2 a3 _ _ true) else jitneylaw07_DiffShifts.j1 1002 a2 a3 _ _ true) = some true
          rw [if_neg (by decide : ¬ (1 : Int) = 0), j1t]
          split <;> rfl
      · rw [solve_bad ga]
        show (if (1 : Int) = 0 then _ else jitneylaw07_DiffShifts.j1 1002 a2 a3 _ _ true) = some true
        rw [if_neg (by decide : ¬ (1 : Int) = 0), j1t]
theorem diffShifts_row {p q r s t : Prop} (a0 : Int) (l1 : List S42) (a2 a3 : Int) (_ : p) (_ : q) (_ : r) (_ : s) (_ : t) : ∃ k, jitneylaw07_DiffShifts.f k a0 l1 a2 a3 = some true := diffShifts_law a0 l1 a2 a3
end Go.Proofs.Ytenjncmljmgcdaa.P
