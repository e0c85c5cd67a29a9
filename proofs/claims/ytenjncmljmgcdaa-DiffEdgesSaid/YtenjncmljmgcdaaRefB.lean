/- The document's answer of layer 7 beside the program's: sums, and both searches. Plain facts. -/
import Derived.Test.YtenjncmljmgcdaaRefA
import Derived.Test.YtenjncmljmgcdaaP5
namespace Go.Proofs.Ytenjncmljmgcdaa.P
open Go.Proofs.YtenjncmljmgcdaaR
open Go.RowKit Go.Proofs.YtenjncmljmgcdaaW.PrintWords Go.Proofs.YtenjncmljmgcdaaW.PrintLast Go.Proofs.YtenjncmljmgcdaaW.PrintMore
set_option linter.unusedSimpArgs false
set_option linter.unusedVariables false
theorem same_l0 (xs : List Int) (hl : xs.length ≤ 1000) : ∀ (k i : Nat), xs.length < i + k → i ≤ xs.length → jitneyref01_SameLongs.l0 k xs xs (i : Int) = some true
  | 0, i, h, hi => by omega
  | k + 1, i, h, hi => by
    unfold jitneyref01_SameLongs.l0
    by_cases c : i < xs.length
    · rw [if_pos (by omega), if_pos (by omega), if_pos (by omega), if_pos rfl, wrap_succ (by omega)]
      exact same_l0 xs hl k (i + 1) (by omega) (by omega)
    · rw [if_neg (by omega)]
theorem same_f (xs : List Int) (hl : xs.length ≤ 1000) (k : Nat) (hk : xs.length < k) : jitneyref01_SameLongs.f k xs xs = some true := by
  unfold jitneyref01_SameLongs.f
  rw [if_pos rfl]
  exact same_l0 xs hl k 0 (by omega) (by omega)
theorem sum_l0 {es : List S42} {n : Int} (hR : RightE es n) (hl : es.length ≤ 1000) (tgt : Int) (way : List Int) (hw : way.length ≤ 1000) : ∀ (l : List Nat) (k : Nat) (pre : List Int) (sum u v s : Int), way = pre ++ l.map (fun i : Nat => (i : Int)) → l.length < k → -(2199023255552 * (pre.length : Int)) ≤ sum ∧ sum ≤ 2199023255552 * (pre.length : Int) → Way es u l v s →
    jitneyref07_Sum.l0 k es way tgt sum u (pre.length : Int) = some (sum + s, v == tgt)
  | [], 0, pre, sum, u, v, s, hway, hk, hb, h => by simp at hk
  | [], k + 1, pre, sum, u, v, s, hway, hk, hb, h => by
    obtain ⟨rfl, rfl⟩ := h
    unfold jitneyref07_Sum.l0
    rw [if_neg (by rw [hway]; simp), Int.add_zero]
  | i :: l, 0, pre, sum, u, v, s, hway, hk, hb, h => by simp at hk
  | i :: l, k + 1, pre, sum, u, v, s, hway, hk, hb, h => by
    obtain ⟨e, he, hu, hrest⟩ := h
    have hlen : way.length = pre.length + l.length + 1 := by rw [hway, List.length_append, List.length_map, List.length_cons]; omega
    have hre := hR e (List.mem_of_getElem? he)
    have hi := (List.getElem?_eq_some_iff.1 he).1
    have hrd : rd way (pre.length : Int) = (i : Int) := by
      unfold rd
      rw [Int.toNat_natCast, List.getD_eq_getElem?_getD, hway, List.getElem?_append_right (Nat.le_refl _), Nat.sub_self]
      rfl
    unfold jitneyref07_Sum.l0
    rw [hrd, rdT_at he]
    rw [if_pos (by omega), if_pos (by omega), if_neg (by omega), if_neg (by omega), if_pos (by omega), if_pos (by omega), if_pos hu]
    have hwr : wrap64 (sum + e.f2) = sum + e.f2 := by unfold wrap64; omega
    rw [hwr, wrap_succ (by omega)]
    have ih := sum_l0 hR hl tgt way hw l k (pre ++ [(i : Int)]) (sum + e.f2) e.f1 v (s - e.f2) (by rw [hway, List.map_cons, List.append_assoc]; rfl) (by rw [List.length_cons] at hk; omega) (by rw [List.length_append, List.length_singleton]; omega) hrest
    rw [List.length_append, List.length_singleton] at ih
    rw [ih, show sum + e.f2 + (s - e.f2) = sum + s by omega]
theorem sum_f {es : List S42} {n : Int} (hR : RightE es n) (hl : es.length ≤ 1000) {l : List Nat} {u v s : Int} (hw : Way es u l v s) (hll : l.length ≤ 1000) (tgt : Int) (k : Nat) (hk : l.length < k) :
    jitneyref07_Sum.f k es (l.map fun i : Nat => (i : Int)) u tgt = some (s, v == tgt) := by
  have h := sum_l0 hR hl tgt (l.map fun i : Nat => (i : Int)) (by rw [List.length_map]; exact hll) l k [] 0 u v s rfl hk ⟨by simp, by simp⟩ hw
  rw [Int.zero_add] at h
  exact h
theorem circles_f {es : List S42} {n : Int} (hR : RightE es n) (hl : es.length ≤ 1000) {l : List Nat} {z s : Int} (hw : Way es z l z s) (hs : s < 0) (hne : l ≠ []) (hll : l.length ≤ 1000) (k : Nat) (hk : l.length < k) :
    jitneylaw07_circles.f k es (l.map fun i : Nat => (i : Int)) = some true := by
  cases l with
  | nil => exact absurd rfl hne
  | cons i l =>
    obtain ⟨e, he, hu, hrest⟩ := hw
    have hi := (List.getElem?_eq_some_iff.1 he).1
    have hlen : ((i :: l).map fun i : Nat => (i : Int)).length = l.length + 1 := by rw [List.length_map, List.length_cons]
    have hrd : rd ((i :: l).map fun i : Nat => (i : Int)) 0 = (i : Int) := rfl
    have hsum := sum_f hR hl (l := i :: l) (u := z) (v := z) (s := s) ⟨e, he, hu, hrest⟩ hll z k hk
    unfold jitneylaw07_circles.f
    rw [hrd, rdT_at he, hlen, if_neg (by omega), if_pos (by omega), if_neg (by omega), if_neg (by omega), if_pos (by omega), if_pos (by omega), hu, hsum]
    show (if (z == z) = true then some (decide (s < 0)) else some false) = some true
    rw [if_pos (by simp), decide_eq_true hs]
/-- What both searches give. -/
theorem both {n : Int} {es : List S42} {F : Int} (hn : n ≤ 60) (hm : es.length ≤ 300) (hr : rightB n es = true) (hF0 : 0 ≤ F) (hF1 : F < n) :
    0 < n ∧ RightE es n ∧
    ((∃ d b B la, solveR es n.toNat F = .ok d b ∧ solveV n es F = (vec n.toNat d, [], 0) ∧ Dist es F d ∧ Fix es d ∧ B + 2199023255552 < 1152921504606846976 ∧ Inv es F B ⟨d, b, la⟩ ∧ ∀ k, 900 ≤ k → jitneyref07_Solve.f k n es F = some (vec n.toNat d, true)) ∨
     (∃ b v z l s l0 x, solveR es n.toNat F = .cyc b v ∧ solveV n es F = ([], l.map (fun i : Nat => (i : Int)), 0) ∧ Way es z l z s ∧ s < 0 ∧ l ≠ [] ∧ l.length ≤ 60 ∧ Way es F l0 z x ∧ ∀ k, 900 ≤ k → jitneyref07_Solve.f k n es F = some ([], false))) := by
  obtain ⟨h0, _, hR⟩ := right_of hr
  obtain ⟨m, rfl⟩ : ∃ m : Nat, n = m := ⟨n.toNat, by omega⟩
  refine ⟨h0, hR, ?_⟩
  rw [Int.toNat_natCast]
  have hends := solve_ends (F := F) hR (n := m) (by omega) (by omega) (cap_ok (by omega) hm)
  have hV : solveV (m : Int) es F = (match solveR es m F with | .ok d b => (vec m d, [], 0) | .cyc b v => ([], cycR es b m v, 0)) := by
    unfold solveV
    rw [if_pos ⟨hr, hF0, hF1⟩, Int.toNat_natCast]
    rfl
  have hf : ∀ k, 900 ≤ k → jitneyref07_Solve.f k (m : Int) es F = jitneyref07_Solve.l1 (k - m - 1) m es (vec m (start F).d) 0 := fun k hk => by
    unfold jitneyref07_Solve.f
    exact solve_l0 (by omega) hF0 hF1 (k - m - 1) k 0 (by omega) (by omega)
  cases hres : solveR es m F with
  | ok d b =>
    left
    rw [hres] at hends hV
    obtain ⟨B, la, hb, hI, hfix, hdF⟩ := hends
    have hD : Dist es F d := dist_of_fix hR hb hI.bd hfix hdF hI.way
    refine ⟨d, b, B, la, rfl, hV, hD, hfix, hb, hI, fun k hk => ?_⟩
    rw [hf k hk]
    refine ref_ok hR (by omega) (by omega) hD (fun v hv0 hv1 hv => ?_) (k - m - 1) 0 (start F).d (by omega) (by omega) (by omega) start_ref
    obtain ⟨q, hq, _, _, l, hw, hlen, _⟩ := chain_end (s := ⟨d, b, la⟩) hR hI hD hv0 hv1 hv
    exact ⟨l, by omega, hw⟩
  | cyc b v =>
    right
    rw [hres] at hends hV
    obtain ⟨B, d', last, h1, h2, h3, h4, h5⟩ := hends
    obtain ⟨_, _, z, l, s, l0, x, g1, g2, g3, g4, g5, g6⟩ := cycR_way hR h1 h2 h3 h4 h5
    refine ⟨b, v, z, l, s, l0, x, rfl, by rw [hV, g5], g1, g2, g3, by omega, g6, fun k hk => ?_⟩
    rw [hf k hk]
    exact ref_cyc hR (by omega) (by omega) g1 g2 g6 (k - m - 1) 0 (start F).d (by omega) (by omega) start_ref
end Go.Proofs.Ytenjncmljmgcdaa.P
