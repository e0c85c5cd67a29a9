/- The law DiffHolds, in plain Lean. -/
import Derived.Test.YtenjncmljmgcdaaRefB
import Derived.Test.YtenjncmljmgcdaaHolds
import Derived.Test.YtenjncmljmgcdaaP17
namespace Go.Proofs.Ytenjncmljmgcdaa.P
open Go.Proofs.YtenjncmljmgcdaaR
open Go.RowKit Go.Proofs.YtenjncmljmgcdaaW.PrintWords Go.Proofs.YtenjncmljmgcdaaW.PrintLast Go.Proofs.YtenjncmljmgcdaaW.PrintMore
set_option linter.unusedSimpArgs false
set_option linter.unusedVariables false
theorem solveF_is {n : Int} {es : List S42} {F : Int} (hn : n ≤ 60) (hm : es.length ≤ 300) : diff_Solve.f n es F = some (solveV n es F) := if_pos ⟨hn, hm⟩
theorem solve_bad {n : Int} {es : List S42} {F : Int} (h : ¬ (rightB n es = true ∧ 0 ≤ F ∧ F < n)) : solveV n es F = ([], [], 1) := by
  unfold solveV
  rw [if_neg h]
theorem rd_at' {xs : List Int} {i : Nat} (h : i < xs.length) : rd xs (i : Int) = xs[i] := by
  unfold rd
  rw [Int.toNat_natCast, List.getD_eq_getElem?_getD, List.getElem?_eq_getElem h]
  rfl
theorem holds_l1 (es : List S42) (xs : List Int) (hl : es.length ≤ 1000) : ∀ (k i : Nat), es.length < i + k → i ≤ es.length → jitneyref07_Holds.l1 k es xs (i : Int) = some (!(es.drop i).any (badH xs))
  | 0, i, h, hi => by omega
  | k + 1, i, h, hi => by
    unfold jitneyref07_Holds.l1
    by_cases c : i < es.length
    · rw [if_pos (by omega), if_pos (by omega)]
      have he : es[i]? = some es[i] := List.getElem?_eq_getElem c
      rw [rdT_at he, List.drop_eq_getElem_cons c, List.any_cons]
      generalize es[i] = e
      rw [wrap_succ (by omega)]
      have ih := holds_l1 es xs hl k (i + 1) (by omega) (by omega)
      unfold badH
      by_cases h1 : e.f0 < 0
      · rw [if_pos h1]; simp [h1]
      · rw [if_neg h1]
        by_cases h2 : e.f0 ≥ (xs.length : Int)
        · rw [if_pos h2]; simp [h2]
        · rw [if_neg h2]
          by_cases h3 : e.f1 < 0
          · rw [if_pos h3]; simp [h3]
          · rw [if_neg h3]
            by_cases h4 : e.f1 ≥ (xs.length : Int)
            · rw [if_pos h4]; simp [h4]
            · rw [if_neg h4, if_pos (by omega), if_pos (by omega), if_pos (by omega), if_pos (by omega)]
              by_cases h5 : wrap64 (rd xs e.f1 - rd xs e.f0) > e.f2
              · rw [if_pos h5]; simp [h5]
              · rw [if_neg h5, ih]
                have g : (decide (e.f0 < 0) || decide ((xs.length : Int) ≤ e.f0) || decide (e.f1 < 0) || decide ((xs.length : Int) ≤ e.f1) || decide (e.f2 < wrap64 (rd xs e.f1 - rd xs e.f0))) = false := by
                  simp only [Bool.or_eq_false_iff, decide_eq_false_iff_not]
                  omega
                rw [g, Bool.false_or]
                rfl
    · rw [if_neg (by omega), List.drop_eq_nil_of_le (by omega)]
      rfl
theorem holds_l0 (es : List S42) (xs : List Int) (hl : es.length ≤ 1000) (hx : xs.length ≤ 1000) : ∀ (k i : Nat), xs.length + es.length + 1 < i + k → i ≤ xs.length → jitneyref07_Holds.l0 k es xs (i : Int) = some (!(xs.drop i).any outX && !es.any (badH xs))
  | 0, i, h, hi => by omega
  | k + 1, i, h, hi => by
    unfold jitneyref07_Holds.l0
    by_cases c : i < xs.length
    · rw [if_pos (by omega), if_pos (by omega), rd_at' c, List.drop_eq_getElem_cons c, List.any_cons]
      generalize xs[i] = x
      rw [wrap_succ (by omega)]
      have ih := holds_l0 es xs hl hx k (i + 1) (by omega) (by omega)
      unfold outX
      by_cases h1 : x < -1152921504606846976
      · rw [if_pos h1]; simp [h1]
      · rw [if_neg h1]
        by_cases h2 : x > 1152921504606846976
        · rw [if_pos h2]; simp [h2]
        · rw [if_neg h2, ih]
          have g : (decide (x < -1152921504606846976) || decide (1152921504606846976 < x)) = false := by
            simp only [Bool.or_eq_false_iff, decide_eq_false_iff_not]
            omega
          rw [g, Bool.false_or]
          rfl
    · rw [if_neg (by omega), List.drop_eq_nil_of_le (by omega)]
      have h := holds_l1 es xs hl k 0 (by omega) (by omega)
      rw [List.drop_zero] at h
      exact h.trans (by simp)
theorem holds_f (es : List S42) (xs : List Int) (hl : es.length ≤ 200) (hx : xs.length ≤ 60) : jitneyref07_Holds.f 1000 es xs = some (holdsB es xs) := by
  have h := holds_l0 es xs (by omega) (by omega) 1000 0 (by omega) (by omega)
  rw [List.drop_zero] at h
  exact h
/-- Numbers that hold: no way is shorter than they are apart. -/
theorem holds_way {es : List S42} {xs : List Int} (h : holdsB es xs = true) : ∀ {l : List Nat} {u v s : Int}, Way es u l v s → rd xs v - rd xs u ≤ s
  | [], u, v, s, hw => by obtain ⟨rfl, rfl⟩ := hw; omega
  | i :: l, u, v, s, hw => by
    obtain ⟨e, he, rfl, hr⟩ := hw
    have ih := holds_way h hr
    unfold holdsB at h
    rw [Bool.and_eq_true, Bool.not_eq_true', Bool.not_eq_true'] at h
    have hb := List.any_eq_false.1 h.2 e (List.mem_of_getElem? he)
    unfold badH at hb
    simp only [Bool.or_eq_true, decide_eq_true_eq, not_or] at hb
    have hin : ∀ j : Int, 0 ≤ j → j < (xs.length : Int) → -1152921504606846976 ≤ rd xs j ∧ rd xs j ≤ 1152921504606846976 := by
      intro j h0 h1
      obtain ⟨t, rfl⟩ : ∃ t : Nat, j = t := ⟨j.toNat, by omega⟩
      have ht : t < xs.length := by omega
      have := List.any_eq_false.1 h.1 xs[t] (List.getElem_mem ht)
      unfold outX at this
      simp only [Bool.or_eq_true, decide_eq_true_eq, not_or] at this
      rw [rd_at' ht]
      omega
    have b1 := hin e.f0 (by omega) (by omega)
    have b2 := hin e.f1 (by omega) (by omega)
    have hw : wrap64 (rd xs e.f1 - rd xs e.f0) = rd xs e.f1 - rd xs e.f0 := by unfold wrap64; omega
    rw [hw] at hb
    omega
theorem diffHolds_l1 {es : List S42} {m : Nat} {F n : Int} {d : Int → Int} {xs : List Int} (hm : m ≤ 1000) (hnm : n = m) (hD : Dist es F d) (hF0 : 0 ≤ F) (hF1 : F < m) (hx : xs.length ≤ 60) :
    ∀ (k i : Nat), m < i + k → i ≤ m → jitneylaw07_DiffHolds.l1 k n xs F (holdsB es xs) (vec m d) ((vec m d).length : Int) (i : Int) = some true
  | 0, i, h, hi => by omega
  | k + 1, i, h, hi => by
    have ih := diffHolds_l1 hm hnm hD hF0 hF1 hx k (i + 1)
    unfold jitneylaw07_DiffHolds.l1
    rw [vec_length] at ih ⊢
    by_cases c : i < m
    · rw [if_pos (by omega), wrap_succ (by omega)]
      cases hh : holdsB es xs with
      | false =>
        rw [if_neg (by decide)]
        rw [hh] at ih
        exact ih (by omega) (by omega)
      | true =>
        rw [if_pos rfl]
        rw [hh] at ih
        by_cases h1 : (xs.length : Int) ≥ n
        · rw [if_pos h1, if_pos (by omega), if_pos (by omega), rd_vec d c]
          by_cases h2 : d (i : Int) = 1152921504606846976
          · rw [if_pos h2]
            exact ih (by omega) (by omega)
          · rw [if_neg h2, if_pos (by omega), if_pos hF0, if_pos (by omega)]
            obtain ⟨l, hl⟩ := hD.way _ h2
            have hw := holds_way hh hl
            have hin : ∀ j : Int, 0 ≤ j → j < (xs.length : Int) → -1152921504606846976 ≤ rd xs j ∧ rd xs j ≤ 1152921504606846976 := by
              intro j h0 h1
              obtain ⟨t, rfl⟩ : ∃ t : Nat, j = t := ⟨j.toNat, by omega⟩
              have ht : t < xs.length := by omega
              have hh2 := hh
              unfold holdsB at hh2
              rw [Bool.and_eq_true, Bool.not_eq_true', Bool.not_eq_true'] at hh2
              have := List.any_eq_false.1 hh2.1 xs[t] (List.getElem_mem ht)
              unfold outX at this
              simp only [Bool.or_eq_true, decide_eq_true_eq, not_or] at this
              rw [rd_at' ht]
              omega
            have b1 := hin F hF0 (by omega)
            have b2 := hin (i : Int) (by omega) (by omega)
            have hww : wrap64 (rd xs (i : Int) - rd xs F) = rd xs (i : Int) - rd xs F := by unfold wrap64; omega
            rw [hww, if_neg (by omega)]
            exact ih (by omega) (by omega)
        · rw [if_neg h1]
          exact ih (by omega) (by omega)
    · rw [if_neg (by omega)]
theorem diffHolds_l0 {es : List S42} {m : Nat} {F n B : Int} {d : Int → Int} {xs : List Int} (hm : m ≤ 300) (hnm : n = m) (hR : RightE es n) (hl : es.length ≤ 200) (hD : Dist es F d) (hfix : Fix es d) (hB : Bd B d) (hb : B + 2199023255552 < 1152921504606846976) (hF0 : 0 ≤ F) (hF1 : F < m) (hx : xs.length ≤ 60) :
    ∀ (k i : Nat), es.length + m + 1 < i + k → i ≤ es.length → jitneylaw07_DiffHolds.l0 k n xs F (holdsB es xs) (vec m d) es (es.length : Int) (i : Int) = some true
  | 0, i, h, hi => by omega
  | k + 1, i, h, hi => by
    have ih := diffHolds_l0 hm hnm hR hl hD hfix hB hb hF0 hF1 hx k (i + 1)
    unfold jitneylaw07_DiffHolds.l0
    by_cases c : i < es.length
    · rw [if_pos (by omega), if_pos (by omega), if_pos (by omega), wrap_succ (by omega)]
      have he : es[i]? = some es[i] := List.getElem?_eq_getElem c
      have hr := hR _ (List.getElem_mem c)
      have hf := hfix _ (List.getElem_mem c)
      rw [rdT_at he]
      generalize es[i] = e at hr hf
      obtain ⟨f0, f1, w⟩ := e
      obtain ⟨u, rfl⟩ : ∃ u : Nat, f0 = u := ⟨f0.toNat, by have := hr.1; simp only at this; omega⟩
      obtain ⟨v, rfl⟩ : ∃ v : Nat, f1 = v := ⟨f1.toNat, by have := hr.2.2.1; simp only at this; omega⟩
      have hu : u < m := by have := hr.2.1; simp only at this; omega
      have hv : v < m := by have := hr.2.2.2.1; simp only at this; omega
      have hw := hr.2.2.2.2
      simp only at hw hf ⊢
      rw [if_pos (by omega), if_pos (by rw [vec_length]; omega), rd_vec d hu]
      by_cases h1 : d (u : Int) = 1152921504606846976
      · rw [if_pos h1]
        exact ih (by omega) (by omega)
      · have h2 := hf.resolve_left h1
        have b1 := (hB (u : Int)).resolve_left h1
        have h3 : d (v : Int) ≠ 1152921504606846976 := by omega
        have b2 := (hB (v : Int)).resolve_left h3
        have hww : wrap64 (d (v : Int) - d (u : Int)) = d (v : Int) - d (u : Int) := by unfold wrap64; omega
        rw [if_neg h1, if_pos (by omega), if_pos (by rw [vec_length]; omega), rd_vec d hv, if_neg h3, hww, if_neg (by omega)]
        exact ih (by omega) (by omega)
    · rw [if_neg (by omega)]
      exact diffHolds_l1 (by omega) hnm hD hF0 hF1 hx k 0 (by omega) (by omega)
theorem diffHolds_law (a0 : Int) (l1 : List S42) (l2 : List Int) (a3 : Int) : ∃ k, jitneylaw07_DiffHolds.f k a0 l1 l2 a3 = some true := by
  refine ⟨1001, ?_⟩
  have j0 : ∀ b, jitneylaw07_DiffHolds.j0 1001 a0 l1 l2 a3 b = if b = true then (some true) else ((diff_Holds.f l1 l2).bind fun t205 => ((jitneyref07_Holds.f 1000 l1 l2).bind fun t206 => (if (t205 != t206) = true then (some false) else ((diff_Solve.f a0 l1 a3).bind fun bt207 => (if bt207.2.2 = 0 then (if (bt207.2.1.length : Int) > 0 then (if t205 = true then (some (decide ((l2.length : Int) < a0))) else (some true)) else (jitneylaw07_DiffHolds.l0 1000 a0 l2 a3 t205 bt207.1 l1 (l1.length : Int) 0)) else (some true)))))) := fun _ => rfl
  unfold jitneylaw07_DiffHolds.f jitneylaw07_alive.f
  rw [Option.bind_some, if_pos rfl]
  by_cases h1 : a0 > 60
  · rw [if_pos h1, j0, if_pos rfl]
  · rw [if_neg h1]
    by_cases h2 : (l1.length : Int) > 200
    · rw [if_pos h2, j0, if_pos rfl]
    · rw [if_neg h2, j0]
      by_cases h3 : (l2.length : Int) > 60
      · rw [decide_eq_true h3, if_pos rfl]
      · rw [decide_eq_false h3, if_neg (by decide)]
        have hn : a0 ≤ 60 := by omega
        have hm : l1.length ≤ 200 := by omega
        have hx : l2.length ≤ 60 := by omega
        have hH : diff_Holds.f l1 l2 = some (holdsB l1 l2) := rfl
        rw [hH, Option.bind_some, holds_f l1 l2 hm hx, Option.bind_some, if_neg (by simp), solveF_is hn (by omega), Option.bind_some]
        by_cases ga : rightB a0 l1 = true ∧ 0 ≤ a3 ∧ a3 < a0
        · obtain ⟨h0, hR, ca⟩ := both hn (by omega) ga.1 ga.2.1 ga.2.2
          obtain ⟨m, rfl⟩ : ∃ m : Nat, a0 = m := ⟨a0.toNat, by omega⟩
          rw [Int.toNat_natCast] at ca
          rcases ca with ⟨d, b, B, la, _, hv, hD, hfix, hb, hI, _⟩ | ⟨b, v, z, l, s, l0, x, _, hv, g1, g2, g3, _⟩
          · rw [hv]
            show (if (0 : Int) = 0 then (if ((([] : List Int).length : Nat) : Int) > 0 then _ else jitneylaw07_DiffHolds.l0 1000 (m : Int) l2 a3 (holdsB l1 l2) (vec m d) l1 (l1.length : Int) 0) else some true) = some true
            rw [if_pos rfl, if_neg (by simp)]
            exact diffHolds_l0 (by omega) rfl hR hm hD hfix hI.bd hb ga.2.1 ga.2.2 hx 1000 0 (by omega) (by omega)
          · rw [hv]
            have hl : ((l.map fun i : Nat => (i : Int)).length : Int) > 0 := by
              rw [List.length_map]
              have := List.length_pos_iff.2 g3
              omega
            show (if (0 : Int) = 0 then (if ((l.map fun i : Nat => (i : Int)).length : Int) > 0 then (if holdsB l1 l2 = true then some (decide ((l2.length : Int) < (m : Int))) else some true) else _) else some true) = some true
            rw [if_pos rfl, if_pos hl]
            cases hh : holdsB l1 l2 with
            | false => rw [if_neg (by decide)]
            | true =>
              exfalso
              have := holds_way hh g1
              omega
        · rw [solve_bad ga]
          show (if (1 : Int) = 0 then _ else some true) = some true
          rw [if_neg (by decide)]
theorem diffHolds_row {p q r s t u : Prop} (a0 : Int) (l1 : List S42) (l2 : List Int) (a3 : Int) (_ : p) (_ : q) (_ : r) (_ : s) (_ : t) (_ : u) : ∃ k, jitneylaw07_DiffHolds.f k a0 l1 l2 a3 = some true := diffHolds_law a0 l1 l2 a3
end Go.Proofs.Ytenjncmljmgcdaa.P
