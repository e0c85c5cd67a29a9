/- The law DiffEdges, in plain Lean. -/
import Derived.Test.YtenjncmljmgcdaaRefB
import Derived.Test.YtenjncmljmgcdaaP18
namespace Go.Proofs.Ytenjncmljmgcdaa.P
open Go.Proofs.YtenjncmljmgcdaaR
open Go.RowKit Go.Proofs.YtenjncmljmgcdaaW.PrintWords Go.Proofs.YtenjncmljmgcdaaW.PrintLast Go.Proofs.YtenjncmljmgcdaaW.PrintMore
set_option linter.unusedSimpArgs false
set_option linter.unusedVariables false
theorem solveF_is {n : Int} {es : List S42} {F : Int} (hn : n ≤ 60) (hm : es.length ≤ 300) : diff_Solve.f n es F = some (solveV n es F) := if_pos ⟨hn, hm⟩
theorem solve_bad {n : Int} {es : List S42} {F : Int} (h : ¬ (rightB n es = true ∧ 0 ≤ F ∧ F < n)) : solveV n es F = ([], [], 1) := by
  unfold solveV
  rw [if_neg h]
theorem Way.mono {es : List S42} {y : S42} : ∀ {l : List Nat} {u v s : Int}, Way es u l v s → Way (es ++ [y]) u l v s
  | [], u, v, s, h => h
  | i :: l, u, v, s, h => by
    obtain ⟨e, he, hu, hr⟩ := h
    exact ⟨e, by rw [List.getElem?_append_left (List.getElem?_eq_some_iff.1 he).1]; exact he, hu, Way.mono hr⟩
theorem right_more {n : Int} {es : List S42} {y : S42} (h : rightB n (es ++ [y]) = true) : rightB n es = true ∧ badE n y = false := by
  unfold rightB at h ⊢
  rw [Bool.and_eq_true, Bool.not_eq_true', Bool.not_eq_true'] at h
  obtain ⟨h1, h2⟩ := h
  rw [List.any_append, Bool.or_eq_false_iff] at h2
  rw [Bool.or_eq_false_iff, Bool.or_eq_false_iff] at h1
  have k3 := of_decide_eq_false h1.2
  rw [List.length_append, List.length_singleton] at k3
  refine ⟨?_, by simpa using h2.2⟩
  rw [h1.1.1, h1.1.2, h2.1, decide_eq_false (by omega : ¬ (65536 : Int) < (es.length : Int))]
  rfl
theorem right_add {n : Int} {es : List S42} {y : S42} (h : rightB n es = true) (hy : badE n y = false) (hl : es.length ≤ 300) : rightB n (es ++ [y]) = true := by
  unfold rightB at h ⊢
  rw [Bool.and_eq_true, Bool.not_eq_true', Bool.not_eq_true'] at h
  obtain ⟨h1, h2⟩ := h
  rw [Bool.or_eq_false_iff, Bool.or_eq_false_iff] at h1
  rw [List.any_append, h2, h1.1.1, h1.1.2, decide_eq_false (by rw [List.length_append, List.length_singleton]; omega : ¬ (65536 : Int) < ((es ++ [y]).length : Int))]
  simp [hy]
theorem edges_j3 (n : Int) (es : List S42) (F : Int) (m : Nat) (d : Int → Int) {B : Int} (hn : n ≤ 60) (hnm : n = m) (hm : es.length ≤ 200) (hr : rightB n es = true) (hF0 : 0 ≤ F) (hF1 : F < n) (hD : Dist es F d) (hfix : Fix es d) (hB : Bd B d) (hb : B + 2199023255552 < 1152921504606846976)
    (a b c : Int) (ha : 0 ≤ a ∧ a < n) (hbb : 0 ≤ b ∧ b < n) (hda : d a ≠ 1152921504606846976) (k : Nat) (hk : 900 ≤ k) (hk2 : k ≤ 2000) : jitneylaw07_DiffEdges.j3 (k + 1) n es F (vec m d) (d b == 1152921504606846976) a b c = some true := by
  have j3 : ∀ x9 t, jitneylaw07_DiffEdges.j3 (k + 1) n es F x9 t a b c = if t = true then (some true) else (if 0 ≤ b then (if b < (x9.length : Int) then (if 0 ≤ a then (if a < (x9.length : Int) then (if (mx (wrap64 ((rd x9 b) - (rd x9 a))) 0) > 2199023255552 then (some true) else ((some (([] : List (S42)) : List (S42))).bind fun y258 => (if y258.length + es.length < 5864062014805 then ((some (y258 ++ es : List (S42))).bind fun y261 => ((some (([(⟨a, b, mx (wrap64 ((rd x9 b) - (rd x9 a))) 0⟩ : S42)] : List (S42)) : List (S42))).bind fun y264 => (if y261.length + y264.length < 5864062014805 then ((diff_Solve.f n (y261 ++ y264) F).bind fun bt270 => ((jitneyref01_SameLongs.f k bt270.1 x9).bind fun t277 => (some t277))) else (none)))) else (none)))) else (none)) else (none)) else (none)) else (none)) := fun _ _ => rfl
  rw [j3]
  cases hfb : (d b == 1152921504606846976) with
  | true => rw [if_pos rfl]
  | false =>
    have hdb : d b ≠ 1152921504606846976 := by simpa using hfb
    rw [if_neg (by decide), if_pos hbb.1, if_pos (by rw [vec_length]; omega), if_pos ha.1, if_pos (by rw [vec_length]; omega)]
    obtain ⟨u, rfl⟩ : ∃ u : Nat, a = u := ⟨a.toNat, by omega⟩
    obtain ⟨v, rfl⟩ : ∃ v : Nat, b = v := ⟨b.toNat, by omega⟩
    rw [rd_vec d (by omega : u < m), rd_vec d (by omega : v < m)]
    have b1 := (hB (u : Int)).resolve_left hda
    have b2 := (hB (v : Int)).resolve_left hdb
    have hww : wrap64 (d (v : Int) - d (u : Int)) = d (v : Int) - d (u : Int) := by unfold wrap64; omega
    rw [hww]
    obtain ⟨w, hw⟩ : ∃ w, w = mx (d (v : Int) - d (u : Int)) 0 := ⟨_, rfl⟩
    have hw0 : 0 ≤ w ∧ d (v : Int) - d (u : Int) ≤ w := by rw [hw]; unfold mx; (repeat' split) <;> omega
    rw [← hw]
    by_cases hg : w > 2199023255552
    · rw [if_pos hg]
    · rw [if_neg hg, Option.bind_some, if_pos (by rw [List.length_nil]; omega), Option.bind_some, Option.bind_some, List.nil_append, if_pos (by rw [List.length_singleton]; omega)]
      have hlen : (es ++ [(⟨(u : Int), (v : Int), w⟩ : S42)]).length ≤ 300 := by rw [List.length_append, List.length_singleton]; omega
      rw [solveF_is hn hlen, Option.bind_some]
      have hbad : badE n (⟨(u : Int), (v : Int), w⟩ : S42) = false := by
        unfold badE
        simp only [Bool.or_eq_false_iff, decide_eq_false_iff_not]
        omega
      obtain ⟨h0, hR, ca⟩ := both hn hlen (right_add hr hbad (by omega)) hF0 hF1
      have hfix2 : Fix (es ++ [(⟨(u : Int), (v : Int), w⟩ : S42)]) d := by
        intro e he
        rcases List.mem_append.1 he with h | h
        · exact hfix e h
        · have : e = ⟨(u : Int), (v : Int), w⟩ := by simpa using h
          subst this
          right
          show d (v : Int) ≤ d (u : Int) + w
          omega
      have hD2 : Dist (es ++ [(⟨(u : Int), (v : Int), w⟩ : S42)]) F d := dist_of_fix hR hb hB hfix2 (Int.le_of_eq hD.root) fun x hx => by
        obtain ⟨l, hl⟩ := hD.way x hx
        exact ⟨l, hl.mono⟩
      rcases ca with ⟨d', b', B', la, _, hv, hD', _⟩ | ⟨b', v', z, l, s, l0, x, _, hv, g1, g2, _, _, g5, _⟩
      · rw [hv, hnm, Int.toNat_natCast]
        have e : vec m d' = vec m d := by
          unfold vec
          exact List.map_congr_left fun i _ => hD'.one hD2 (i : Int)
        show (jitneyref01_SameLongs.f k (vec m d') (vec m d)).bind _ = some true
        rw [e, same_f _ (by rw [vec_length]; omega) k (by rw [vec_length]; omega)]
        rfl
      · exfalso
        have := hD2.no_ring g5 g1
        omega
theorem edges_l0 (n : Int) (es : List S42) (F : Int) (m : Nat) (d d' : Int → Int) {B : Int} {y : S42} (hn : n ≤ 60) (hnm : n = m) (hm : es.length ≤ 200) (hr : rightB n es = true) (hF0 : 0 ≤ F) (hF1 : F < n) (hD : Dist es F d) (hfix : Fix es d) (hB : Bd B d) (hb : B + 2199023255552 < 1152921504606846976)
    {B' : Int} (hD' : Dist (es ++ [y]) F d') (hB' : Bd B' d') (hb' : B' + 2199023255552 < 1152921504606846976) (hy : badE n y = false) :
    ∀ (k i : Nat), m + 902 < i + k → k ≤ 2000 → i ≤ m → jitneylaw07_DiffEdges.l0 k n es F (vec m d) (vec m d') ((vec m d).length : Int) (i : Int) y.f0 y.f1 y.f2 = some true
  | 0, i, h, h2, hi => by omega
  | k + 1, i, h, h2, hi => by
    have ih := edges_l0 n es F m d d' hn hnm hm hr hF0 hF1 hD hfix hB hb hD' hB' hb' hy k (i + 1)
    have l0 : ∀ x9 x13 x74 x75, jitneylaw07_DiffEdges.l0 (k + 1) n es F x9 x13 x74 x75 y.f0 y.f1 y.f2 = if x75 < x74 then (if 0 ≤ x75 then (if x75 < (x13.length : Int) then (if x75 < (x9.length : Int) then (if (rd x13 x75) > (rd x9 x75) then (some false) else (jitneylaw07_DiffEdges.l0 k n es F x9 x13 x74 (wrap64 (x75 + 1)) y.f0 y.f1 y.f2)) else (none)) else (none)) else (none)) else (if 0 ≤ y.f0 then (if y.f0 < (x9.length : Int) then (if (rd x9 y.f0) = 1152921504606846976 then (jitneylaw07_DiffEdges.j3 k n es F x9 true y.f0 y.f1 y.f2) else (if 0 ≤ y.f1 then (if y.f1 < (x9.length : Int) then (jitneylaw07_DiffEdges.j3 k n es F x9 ((rd x9 y.f1) == 1152921504606846976) y.f0 y.f1 y.f2) else (none)) else (none))) else (none)) else (none)) := fun _ _ _ _ => rfl
    rw [l0]
    rw [vec_length] at ih ⊢
    by_cases c : i < m
    · rw [if_pos (by omega), if_pos (by omega), if_pos (by rw [vec_length]; omega), if_pos (by omega), rd_vec d' c, rd_vec d c, wrap_succ (by omega)]
      have hle : d' (i : Int) ≤ d (i : Int) := by
        by_cases hf : d (i : Int) = 1152921504606846976
        · rcases hB' (i : Int) with h | h <;> omega
        · obtain ⟨l, hl⟩ := hD.way _ hf
          exact (hD'.least _ _ _ hl.mono).2
      rw [if_neg (by omega)]
      exact ih (by omega) (by omega) (by omega)
    · rw [if_neg (by omega)]
      have hyy : 0 ≤ y.f0 ∧ y.f0 < n ∧ 0 ≤ y.f1 ∧ y.f1 < n := by
        unfold badE at hy
        simp only [Bool.or_eq_false_iff, decide_eq_false_iff_not] at hy
        omega
      rw [if_pos hyy.1, if_pos (by omega)]
      obtain ⟨k, rfl⟩ : ∃ k', k = k' + 1 := ⟨k - 1, by omega⟩
      have hrd : ∀ j : Int, 0 ≤ j → j < n → rd (vec m d) j = d j := by
        intro j h0 h1
        obtain ⟨t, rfl⟩ : ∃ t : Nat, j = t := ⟨j.toNat, by omega⟩
        exact rd_vec d (by omega)
      rw [hrd _ hyy.1 hyy.2.1]
      by_cases hf : d y.f0 = 1152921504606846976
      · rw [if_pos hf]
        rfl
      · rw [if_neg hf, if_pos hyy.2.2.1, if_pos (by omega), hrd _ hyy.2.2.1 hyy.2.2.2]
        exact edges_j3 n es F m d hn hnm hm hr hF0 hF1 hD hfix hB hb y.f0 y.f1 y.f2 ⟨hyy.1, hyy.2.1⟩ ⟨hyy.2.2.1, hyy.2.2.2⟩ hf k (by omega) (by omega)
theorem diffEdges_law (a0 : Int) (l1 : List S42) (a2 : Int) (y : S42) : ∃ k, jitneylaw07_DiffEdges.f k a0 l1 a2 y.f0 y.f1 y.f2 = some true := by
  refine ⟨1202, ?_⟩
  have j0 : ∀ b, jitneylaw07_DiffEdges.j0 1202 a0 l1 a2 b y.f0 y.f1 y.f2 = if b = true then (some true) else ((diff_Solve.f a0 l1 a2).bind fun bt226 => ((some (([] : List (S42)) : List (S42))).bind fun y233 => (if y233.length + l1.length < 5864062014805 then ((some (y233 ++ l1 : List (S42))).bind fun y236 => ((some (([(⟨y.f0, y.f1, y.f2⟩ : S42)] : List (S42)) : List (S42))).bind fun y239 => (if y236.length + y239.length < 5864062014805 then ((diff_Solve.f a0 (y236 ++ y239) a2).bind fun bt245 => (if bt226.2.2 = 0 then (jitneylaw07_DiffEdges.j1 1201 a0 l1 a2 bt226.1 bt226.2.1 bt226.2.2 bt245.1 bt245.2.1 bt245.2.2 (bt245.2.2 != 0) y.f0 y.f1 y.f2) else (jitneylaw07_DiffEdges.j1 1201 a0 l1 a2 bt226.1 bt226.2.1 bt226.2.2 bt245.1 bt245.2.1 bt245.2.2 true y.f0 y.f1 y.f2))) else (none)))) else (none)))) := fun _ => rfl
  have j1 : ∀ x9 x10 x11 x13 x14 x15 t, jitneylaw07_DiffEdges.j1 1201 a0 l1 a2 x9 x10 x11 x13 x14 x15 t y.f0 y.f1 y.f2 = if t = true then (if x11 = 0 then (some true) else (some (x15 != 0))) else (if (x10.length : Int) > 0 then (some (decide ((x14.length : Int) > 0))) else (if (x14.length : Int) > 0 then (some true) else (jitneylaw07_DiffEdges.l0 1200 a0 l1 a2 x9 x13 (x9.length : Int) 0 y.f0 y.f1 y.f2))) := fun _ _ _ _ _ _ _ => rfl
  unfold jitneylaw07_DiffEdges.f jitneylaw07_alive.f
  rw [Option.bind_some, if_pos rfl]
  by_cases h1 : a0 > 60
  · rw [if_pos h1, j0, if_pos rfl]
  · rw [if_neg h1, j0]
    by_cases h2 : (l1.length : Int) > 200
    · rw [decide_eq_true h2, if_pos rfl]
    · rw [decide_eq_false h2, if_neg (by decide)]
      have hn : a0 ≤ 60 := by omega
      have hm : l1.length ≤ 200 := by omega
      have hlen : (l1 ++ [y]).length ≤ 300 := by rw [List.length_append, List.length_singleton]; omega
      rw [solveF_is hn (by omega), Option.bind_some, Option.bind_some, if_pos (by rw [List.length_nil]; omega), Option.bind_some, Option.bind_some, List.nil_append, if_pos (by rw [List.length_singleton]; omega), solveF_is hn hlen, Option.bind_some]
      by_cases ga : rightB a0 l1 = true ∧ 0 ≤ a2 ∧ a2 < a0
      · by_cases gb : rightB a0 (l1 ++ [y]) = true ∧ 0 ≤ a2 ∧ a2 < a0
        · obtain ⟨h0, hR, ca⟩ := both hn (by omega) ga.1 ga.2.1 ga.2.2
          obtain ⟨_, hR', cb⟩ := both hn hlen gb.1 gb.2.1 gb.2.2
          have hy := (right_more gb.1).2
          obtain ⟨m, rfl⟩ : ∃ m : Nat, a0 = m := ⟨a0.toNat, by omega⟩
          rw [Int.toNat_natCast] at ca cb
          rcases ca with ⟨d, b, B, la, _, hv, hD, hfix, hb, hI, _⟩ | ⟨b, v, z, l, s, l0, x, _, hv, g1, g2, g3, _, g5, _⟩
          · rcases cb with ⟨d', b', B', la', _, hv', hD', _, hb', hI', _⟩ | ⟨b', v', z', l', s', l0', x', _, hv', _, _, g3', _⟩
            · rw [hv, hv']
              show (if (0 : Int) = 0 then jitneylaw07_DiffEdges.j1 1201 (m : Int) l1 a2 (vec m d) [] 0 (vec m d') [] 0 ((0 : Int) != 0) y.f0 y.f1 y.f2 else _) = some true
              rw [if_pos rfl, j1, if_neg (by decide), if_neg (by simp), if_neg (by simp)]
              exact edges_l0 (m : Int) l1 a2 m d d' hn rfl hm ga.1 ga.2.1 ga.2.2 hD hfix hI.bd hb hD' hI'.bd hb' hy 1200 0 (by omega) (by omega) (by omega)
            · rw [hv, hv']
              have hl : ((l'.map fun i : Nat => (i : Int)).length : Int) > 0 := by
                rw [List.length_map]
                have := List.length_pos_iff.2 g3'
                omega
              show (if (0 : Int) = 0 then jitneylaw07_DiffEdges.j1 1201 (m : Int) l1 a2 (vec m d) [] 0 [] (l'.map fun i : Nat => (i : Int)) 0 ((0 : Int) != 0) y.f0 y.f1 y.f2 else _) = some true
              rw [if_pos rfl, j1, if_neg (by decide), if_neg (by simp), if_pos hl]
          · have hl : ((l.map fun i : Nat => (i : Int)).length : Int) > 0 := by
              rw [List.length_map]
              have := List.length_pos_iff.2 g3
              omega
            rcases cb with ⟨d', b', B', la', _, hv', hD', _⟩ | ⟨b', v', z', l', s', l0', x', _, hv', _, _, g3', _⟩
            · exfalso
              have := hD'.no_ring (Way.mono g5) (Way.mono g1)
              omega
            · rw [hv, hv']
              have hl' : ((l'.map fun i : Nat => (i : Int)).length : Int) > 0 := by
                rw [List.length_map]
                have := List.length_pos_iff.2 g3'
                omega
              show (if (0 : Int) = 0 then jitneylaw07_DiffEdges.j1 1201 (m : Int) l1 a2 [] (l.map fun i : Nat => (i : Int)) 0 [] (l'.map fun i : Nat => (i : Int)) 0 ((0 : Int) != 0) y.f0 y.f1 y.f2 else _) = some true
              rw [if_pos rfl, j1, if_neg (by decide), if_pos hl, decide_eq_true hl']
        · rw [solve_bad gb]
          show (if (solveV a0 l1 a2).2.2 = 0 then jitneylaw07_DiffEdges.j1 1201 a0 l1 a2 _ _ (solveV a0 l1 a2).2.2 [] [] 1 ((1 : Int) != 0) y.f0 y.f1 y.f2 else jitneylaw07_DiffEdges.j1 1201 a0 l1 a2 _ _ (solveV a0 l1 a2).2.2 [] [] 1 true y.f0 y.f1 y.f2) = some true
          by_cases hz : (solveV a0 l1 a2).2.2 = 0
          · rw [if_pos hz, j1, if_pos (show ((1 : Int) != 0) = true by decide), if_pos hz]
          · rw [if_neg hz, j1, if_pos rfl, if_neg hz]
            rfl
      · have gb : ¬ (rightB a0 (l1 ++ [y]) = true ∧ 0 ≤ a2 ∧ a2 < a0) := fun h => ga ⟨(right_more h.1).1, h.2⟩
        rw [solve_bad ga, solve_bad gb]
        show (if (1 : Int) = 0 then _ else jitneylaw07_DiffEdges.j1 1201 a0 l1 a2 [] [] 1 [] [] 1 true y.f0 y.f1 y.f2) = some true
        rw [if_neg (by decide), j1, if_pos rfl, if_neg (by decide)]
        rfl
theorem diffEdges_row {p q r s t : Prop} (a0 : Int) (l1 : List S42) (a2 : Int) (y : S42) (_ : p) (_ : q) (_ : r) (_ : s) (_ : t) : ∃ k, jitneylaw07_DiffEdges.f k a0 l1 a2 y.f0 y.f1 y.f2 = some true := diffEdges_law a0 l1 a2 y
end Go.Proofs.Ytenjncmljmgcdaa.P
