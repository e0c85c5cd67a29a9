/- The document's answer of layer 7 is the program's. Plain facts. -/
import Derived.Test.YtenjncmljmgcdaaSolve
import Derived.Test.YtenjncmljmgcdaaP11
import Derived.Test.YtenjncmljmgcdaaP13
namespace Go.Proofs.Ytenjncmljmgcdaa.P
open Go.Proofs.YtenjncmljmgcdaaR
open Go.RowKit Go.Proofs.YtenjncmljmgcdaaW.PrintWords Go.Proofs.YtenjncmljmgcdaaW.PrintLast Go.Proofs.YtenjncmljmgcdaaW.PrintMore
set_option linter.unusedSimpArgs false
set_option linter.unusedVariables false
theorem rdT_at {es : List S42} {i : Nat} {e : S42} (h : es[i]? = some e) : rd_T42 es (i : Int) = e := by
  unfold rd_T42
  rw [Int.toNat_natCast, List.getD_eq_getElem?_getD, h]
  rfl
theorem wrap_succ {i : Nat} (h : i ≤ 1000000) : wrap64 ((i : Int) + 1) = ((i + 1 : Nat) : Int) := by unfold wrap64; omega
theorem right_l0 (n : Int) (es : List S42) (hl : es.length ≤ 1000) : ∀ (k i : Nat), es.length < i + k → i ≤ es.length → jitneyref07_Right.l0 k n es (i : Int) = some (!(es.drop i).any (badE n))
  | 0, i, h, hi => by omega
  | k + 1, i, h, hi => by
    unfold jitneyref07_Right.l0
    by_cases c : i < es.length
    · rw [if_pos (by omega), if_pos (by omega)]
      have he : es[i]? = some es[i] := List.getElem?_eq_getElem c
      rw [rdT_at he, List.drop_eq_getElem_cons c, List.any_cons]
      generalize es[i] = e
      rw [wrap_succ (by omega)]
      have ih := right_l0 n es hl k (i + 1) (by omega) (by omega)
      unfold badE
      by_cases h1 : e.f0 < 0
      · rw [if_pos h1, decide_eq_true h1]; simp
      · rw [if_neg h1]
        by_cases h2 : e.f0 ≥ n
        · rw [if_pos h2]; simp [h2]
        · rw [if_neg h2]
          by_cases h3 : e.f1 < 0
          · rw [if_pos h3]; simp [h3]
          · rw [if_neg h3]
            by_cases h4 : e.f1 ≥ n
            · rw [if_pos h4]; simp [h4]
            · rw [if_neg h4]
              by_cases h5 : e.f2 < -2199023255552
              · rw [if_pos h5]; simp [h5]
              · rw [if_neg h5]
                by_cases h6 : e.f2 > 2199023255552
                · rw [if_pos h6]; simp [h6]
                · rw [if_neg h6, ih]
                  have g : (decide (e.f0 < 0) || decide (n ≤ e.f0) || decide (e.f1 < 0) || decide (n ≤ e.f1) || decide (e.f2 < -2199023255552) || decide (2199023255552 < e.f2)) = false := by
                    simp only [Bool.or_eq_false_iff, decide_eq_false_iff_not]
                    omega
                  rw [g, Bool.false_or]
                  rfl
    · rw [if_neg (by omega), List.drop_eq_nil_of_le (by omega)]
      rfl
theorem right_f (n : Int) (es : List S42) (hl : es.length ≤ 1000) (k : Nat) (hk : es.length + 2 ≤ k) : jitneyref07_Right.f k n es = some (rightB n es) := by
  obtain ⟨k, rfl⟩ : ∃ k', k = k' + 1 := ⟨k - 1, by omega⟩
  have h := right_l0 n es hl k 0 (by omega) (by omega)
  rw [List.drop_zero] at h
  have j0 : ∀ b, jitneyref07_Right.j0 (k + 1) n es b = if b = true then some false else jitneyref07_Right.l0 k n es 0 := fun _ => rfl
  unfold jitneyref07_Right.f rightB
  by_cases h1 : n < 1
  · rw [if_pos h1, j0]; simp [h1]
  · rw [if_neg h1]
    by_cases h2 : n > 4098
    · rw [if_pos h2, j0]; simp [h2]
    · rw [if_neg h2, j0]
      have h3 : decide ((es.length : Int) > 65536) = false := decide_eq_false (by omega)
      have h4 : decide ((65536 : Int) < (es.length : Int)) = false := decide_eq_false (by omega)
      have h5 : decide ((4098 : Int) < n) = false := decide_eq_false h2
      rw [h3, if_neg (by decide), h5, decide_eq_false h1]
      exact h
/-- One step of the document: the least sums of ways of one edge more. -/
def rst (d : Int → Int) : List S42 → (Int → Int) → Bool → (Int → Int) × Bool
  | [], o, b => (o, b)
  | e :: r, o, b => if d e.f0 ≠ 1152921504606846976 ∧ d e.f0 + e.f2 < o e.f1 then rst d r (put o e.f1 (d e.f0 + e.f2)) true else rst d r o b
theorem rst_le (d : Int → Int) : ∀ (r : List S42) (o : Int → Int) (b : Bool) (v : Int), (rst d r o b).1 v ≤ o v
  | [], o, b, v => Int.le_refl _
  | e :: r, o, b, v => by
    unfold rst
    by_cases h : d e.f0 ≠ 1152921504606846976 ∧ d e.f0 + e.f2 < o e.f1
    · rw [if_pos h]
      refine Int.le_trans (rst_le d r _ true v) ?_
      by_cases hv : v = e.f1
      · subst hv; rw [put_same]; omega
      · rw [put_ne _ _ hv]; exact Int.le_refl _
    · rw [if_neg h]; exact rst_le d r o b v
theorem rst_edge (d : Int → Int) : ∀ (r : List S42) (o : Int → Int) (b : Bool) (e : S42), e ∈ r → d e.f0 = 1152921504606846976 ∨ (rst d r o b).1 e.f1 ≤ d e.f0 + e.f2
  | [], o, b, e, he => by cases he
  | e' :: r, o, b, e, he => by
    unfold rst
    by_cases h : d e'.f0 ≠ 1152921504606846976 ∧ d e'.f0 + e'.f2 < o e'.f1
    · rw [if_pos h]
      rcases List.mem_cons.1 he with rfl | he
      · refine .inr (Int.le_trans (rst_le d r _ true _) ?_)
        rw [put_same]
        exact Int.le_refl _
      · exact rst_edge d r _ true e he
    · rw [if_neg h]
      rcases List.mem_cons.1 he with rfl | he
      · by_cases hf : d e.f0 = 1152921504606846976
        · exact .inl hf
        · refine .inr (Int.le_trans (rst_le d r o b _) ?_)
          have := fun hc => h ⟨hf, hc⟩
          omega
      · exact rst_edge d r o b e he
theorem rst_from (d : Int → Int) : ∀ (r : List S42) (o : Int → Int) (b : Bool) (v : Int), (rst d r o b).1 v = o v ∨ ∃ e ∈ r, e.f1 = v ∧ d e.f0 ≠ 1152921504606846976 ∧ (rst d r o b).1 v = d e.f0 + e.f2
  | [], o, b, v => .inl rfl
  | e :: r, o, b, v => by
    unfold rst
    by_cases h : d e.f0 ≠ 1152921504606846976 ∧ d e.f0 + e.f2 < o e.f1
    · rw [if_pos h]
      rcases rst_from d r (put o e.f1 (d e.f0 + e.f2)) true v with h1 | ⟨e', h1, h2⟩
      · by_cases hv : v = e.f1
        · subst hv
          rw [put_same] at h1
          exact .inr ⟨e, List.mem_cons_self, rfl, h.1, h1⟩
        · rw [put_ne _ _ hv] at h1
          exact .inl h1
      · exact .inr ⟨e', List.mem_cons_of_mem _ h1, h2⟩
    · rw [if_neg h]
      rcases rst_from d r o b v with h1 | ⟨e', h1, h2⟩
      · exact .inl h1
      · exact .inr ⟨e', List.mem_cons_of_mem _ h1, h2⟩
theorem rst_less (d : Int → Int) : ∀ (r : List S42) (o : Int → Int) (b : Bool), (rst d r o b = (o, b)) ∨ ((rst d r o b).2 = true ∧ ∃ e ∈ r, (rst d r o b).1 e.f1 < o e.f1)
  | [], o, b => .inl rfl
  | e :: r, o, b => by
    unfold rst
    by_cases h : d e.f0 ≠ 1152921504606846976 ∧ d e.f0 + e.f2 < o e.f1
    · rw [if_pos h]
      right
      rcases rst_less d r (put o e.f1 (d e.f0 + e.f2)) true with h1 | ⟨h1, e', h2, h3⟩
      · rw [h1]
        exact ⟨rfl, e, List.mem_cons_self, by show put o e.f1 (d e.f0 + e.f2) e.f1 < _; rw [put_same]; exact h.2⟩
      · refine ⟨h1, e', List.mem_cons_of_mem _ h2, Int.lt_of_lt_of_le h3 ?_⟩
        by_cases hv : e'.f1 = e.f1
        · rw [hv, put_same]; omega
        · rw [put_ne _ _ hv]; exact Int.le_refl _
    · rw [if_neg h]
      rcases rst_less d r o b with h1 | ⟨h1, e', h2, h3⟩
      · exact .inl h1
      · exact .inr ⟨h1, e', List.mem_cons_of_mem _ h2, h3⟩
theorem vec_set {n : Nat} (d : Int → Int) {j : Nat} (h : j < n) (x : Int) : (vec n d).set j x = vec n (put d (j : Int) x) := by
  refine List.ext_getElem? fun i => ?_
  by_cases hi : i < n
  · rw [vec_at _ hi]
    by_cases e : i = j
    · subst e; rw [put_same, List.getElem?_set_self (by rw [vec_length]; exact hi)]
    · rw [put_ne _ _ (by omega), List.getElem?_set_ne (Ne.symm e), vec_at _ hi]
  · rw [List.getElem?_eq_none (by rw [List.length_set, vec_length]; omega), List.getElem?_eq_none (by rw [vec_length]; omega)]
theorem step_l0 {n : Nat} {es : List S42} {B : Int} (hR : RightE es n) (hl : es.length ≤ 1000) (d : Int → Int) (hB : Bd B d) (hb : B + 2199023255552 < 1152921504606846976) :
    ∀ (k i : Nat) (o : Int → Int) (b : Bool), es.length < i + k → i ≤ es.length → jitneyref07_step.l0 k es (vec n d) (vec n o) b (i : Int) = some (vec n (rst d (es.drop i) o b).1, (rst d (es.drop i) o b).2)
  | 0, i, o, b, h, hi => by omega
  | k + 1, i, o, b, h, hi => by
    unfold jitneyref07_step.l0
    by_cases c : i < es.length
    · rw [if_pos (by omega), if_pos (by omega)]
      have he : es[i]? = some es[i] := List.getElem?_eq_getElem c
      have hr := hR _ (List.getElem_mem c)
      rw [rdT_at he, List.drop_eq_getElem_cons c]
      generalize es[i] = e at hr ⊢
      rw [wrap_succ (by omega)]
      obtain ⟨f0, f1, x⟩ := e
      obtain ⟨u, rfl⟩ : ∃ u : Nat, f0 = u := ⟨f0.toNat, by have := hr.1; simp only at this; omega⟩
      obtain ⟨v, rfl⟩ : ∃ v : Nat, f1 = v := ⟨f1.toNat, by have := hr.2.2.1; simp only at this; omega⟩
      have hu : u < n := by have := hr.2.1; simp only at this; omega
      have hv : v < n := by have := hr.2.2.2.1; simp only at this; omega
      have hx := hr.2.2.2.2
      simp only at hx
      have ih := step_l0 hR hl d hB hb k (i + 1)
      unfold rst
      simp only
      rw [if_pos (by omega), if_pos (by rw [vec_length]; omega), rd_vec d hu]
      by_cases hf : d (u : Int) = 1152921504606846976
      · rw [if_pos hf, if_neg (fun hc => hc.1 hf)]
        exact ih o b (by omega) (by omega)
      · have hub := (hB (u : Int)).resolve_left hf
        have hw : wrap64 (d (u : Int) + x) = d (u : Int) + x := by unfold wrap64; omega
        rw [if_neg hf, if_pos (by omega), if_pos (by rw [vec_length]; omega), rd_vec o hv, hw]
        by_cases hlt : d (u : Int) + x < o (v : Int)
        · rw [if_pos hlt, if_pos ⟨hf, hlt⟩, Int.toNat_natCast, vec_set o hv]
          exact ih _ true (by omega) (by omega)
        · rw [if_neg hlt, if_neg (fun hc => hlt hc.2)]
          exact ih o b (by omega) (by omega)
    · rw [if_neg (by omega), List.drop_eq_nil_of_le (by omega)]
      rfl
theorem step_f {n : Nat} {es : List S42} {B : Int} (hR : RightE es n) (hl : es.length ≤ 1000) (hn : n ≤ 100000) (d : Int → Int) (hB : Bd B d) (hb : B + 2199023255552 < 1152921504606846976) (k : Nat) (hk : es.length < k) :
    jitneyref07_step.f k es (vec n d) = some (vec n (rst d es d false).1, (rst d es d false).2) := by
  have h := step_l0 hR hl d hB hb k 0 d false (by omega) (by omega)
  unfold jitneyref07_step.f
  rw [List.drop_zero] at h
  show (if ([] : List Int).length + (vec n d).length < 17592186044416 then jitneyref07_step.l0 k es (vec n d) ([] ++ vec n d) false 0 else none) = _
  rw [if_pos (by rw [vec_length, List.length_nil]; omega), List.nil_append]
  exact h
/-- What the document's sums are, after r steps. -/
structure Ref (es : List S42) (F : Int) (r : Nat) (D : Int → Int) : Prop where
  comp : ∀ v l x, Way es F l v x → l.length ≤ r → D v ≤ x
  way : ∀ v, D v ≠ 1152921504606846976 → ∃ l, l.length ≤ r ∧ Way es F l v (D v)
  bd : Bd (2199023255552 * (r : Int)) D
theorem Ref.next {es : List S42} {n : Int} {F : Int} {r : Nat} {D : Int → Int} (hR : RightE es n) (hr : 2199023255552 * (r : Int) + 2199023255552 < 1152921504606846976) (h : Ref es F r D) : Ref es F (r + 1) (rst D es D false).1 := by
  refine ⟨fun v l x hw hl => ?_, fun v hv => ?_, fun v => ?_⟩
  · by_cases hc : l.length ≤ r
    · exact Int.le_trans (rst_le D es D false v) (h.comp v l x hw hc)
    · have hne : l ≠ [] := by
        intro h0
        rw [h0] at hc
        simp at hc
      obtain ⟨l', i, rfl⟩ : ∃ l' i, l = l' ++ [i] := ⟨l.dropLast, l.getLast hne, (List.dropLast_concat_getLast hne).symm⟩
      obtain ⟨e, he, rfl, hw'⟩ := hw.snoc_inv
      rw [List.length_append, List.length_singleton] at hl
      have h1 := h.comp _ l' _ hw' (by omega)
      have h2 := Way.high hR hw'
      rcases rst_edge D es D false e (List.mem_of_getElem? he) with h3 | h3
      · omega
      · omega
  · rcases rst_from D es D false v with h1 | ⟨e, he, rfl, h2, h3⟩
    · rw [h1] at hv ⊢
      obtain ⟨l, h4, h5⟩ := h.way v hv
      exact ⟨l, by omega, h5⟩
    · obtain ⟨l, h4, h5⟩ := h.way e.f0 h2
      obtain ⟨i, hi⟩ := List.mem_iff_getElem?.1 he
      rw [h3]
      exact ⟨l ++ [i], by rw [List.length_append, List.length_singleton]; omega, h5.snoc hi rfl⟩
  · rcases rst_from D es D false v with h1 | ⟨e, he, rfl, h2, h3⟩
    · rw [h1]
      rcases h.bd v with h | h
      · exact .inl h
      · exact .inr (by omega)
    · have := (h.bd e.f0).resolve_left h2
      have := hR e he
      rw [h3]
      exact .inr (by omega)
theorem Ref.fix {es : List S42} {n : Int} {F : Int} {r : Nat} {D : Int → Int} (hR : RightE es n) (hr : 2199023255552 * (r : Int) + 2199023255552 < 1152921504606846976) (h : Ref es F r D) (hs : (rst D es D false).2 = false) : Dist es F D := by
  have hfix : Fix es D := by
    rcases rst_less D es D false with h1 | ⟨h1, _⟩
    · intro e he
      have := rst_edge D es D false e he
      rw [h1] at this
      exact this
    · rw [h1] at hs
      cases hs
  exact dist_of_fix hR hr h.bd hfix (h.comp F [] 0 ⟨rfl, rfl⟩ (Nat.zero_le _)) fun v hv => by
    obtain ⟨l, _, hl⟩ := h.way v hv
    exact ⟨l, hl⟩
theorem ref_ok {es : List S42} {n : Nat} {F : Int} {d : Int → Int} (hR : RightE es n) (hl : es.length ≤ 1000) (hn : n ≤ 1000) (hD : Dist es F d) (hshort : ∀ v : Int, 0 ≤ v → v < n → d v ≠ 1152921504606846976 → ∃ l, l.length < n ∧ Way es F l v (d v)) :
    ∀ (k r : Nat) (D : Int → Int), r < n → n < r + k → es.length + n + 2 ≤ k + r → Ref es F r D → jitneyref07_Solve.l1 k n es (vec n D) (r : Int) = some (vec n d, true)
  | 0, r, D, h1, h2, h4, h => by omega
  | k + 1, r, D, h1, h2, h4, h => by
    unfold jitneyref07_Solve.l1
    rw [if_pos (by omega), step_f hR hl (by omega) D h.bd (by omega) k (by omega)]
    show (if (rst D es D false).2 = true then jitneyref07_Solve.l1 k n es (vec n (rst D es D false).1) (wrap64 ((r : Int) + 1)) else some (vec n D, true)) = _
    cases hs : (rst D es D false).2 with
    | false =>
      rw [if_neg (by decide)]
      have hD2 := h.fix hR (by omega) hs
      have e : vec n D = vec n d := by
        unfold vec
        exact List.map_congr_left fun i _ => hD2.one hD (i : Int)
      rw [e]
    | true =>
      rw [if_pos rfl, wrap_succ (by omega)]
      have hnx := h.next hR (by omega)
      by_cases hc : r + 1 < n
      · exact ref_ok hR hl hn hD hshort k (r + 1) _ hc (by omega) (by omega) hnx
      · exfalso
        rcases rst_less D es D false with g | ⟨_, e, he, g⟩
        · rw [g] at hs; cases hs
        · have hre := hR e he
          have hbv := h.bd e.f1
          have hne : (rst D es D false).1 e.f1 ≠ 1152921504606846976 := by omega
          obtain ⟨l, _, hw⟩ := hnx.way e.f1 hne
          obtain ⟨g1, g2⟩ := hD.least l e.f1 _ hw
          obtain ⟨l2, g3, g4⟩ := hshort e.f1 hre.2.2.1 hre.2.2.2.1 g1
          have := h.comp e.f1 l2 _ g4 (by omega)
          omega
theorem ref_cyc {es : List S42} {n : Nat} {F : Int} (hR : RightE es n) (hl : es.length ≤ 1000) (hn : n ≤ 1000) {z s x : Int} {l l0 : List Nat} (hz : Way es z l z s) (hs : s < 0) (h0 : Way es F l0 z x) :
    ∀ (k r : Nat) (D : Int → Int), r ≤ n → es.length + n + 2 ≤ k + r → Ref es F r D → jitneyref07_Solve.l1 k n es (vec n D) (r : Int) = some ([], false)
  | 0, r, D, h1, h4, h => by omega
  | k + 1, r, D, h1, h4, h => by
    unfold jitneyref07_Solve.l1
    by_cases hc : r < n
    · rw [if_pos (by omega), step_f hR hl (by omega) D h.bd (by omega) k (by omega)]
      show (if (rst D es D false).2 = true then jitneyref07_Solve.l1 k n es (vec n (rst D es D false).1) (wrap64 ((r : Int) + 1)) else some (vec n D, true)) = _
      cases hs2 : (rst D es D false).2 with
      | false =>
        exfalso
        have := (h.fix hR (by omega) hs2).no_ring h0 hz
        omega
      | true =>
        rw [if_pos rfl, wrap_succ (by omega)]
        exact ref_cyc hR hl hn hz hs h0 k (r + 1) _ (by omega) (by omega) (h.next hR (by omega))
    · rw [if_neg (by omega)]
theorem vec_succ (n : Nat) (d : Int → Int) : vec (n + 1) d = vec n d ++ [d (n : Int)] := by unfold vec; rw [List.range_succ, List.map_append]; rfl
theorem solve_l0 {es : List S42} {n : Nat} {F : Int} (hn : n ≤ 1000) (hF0 : 0 ≤ F) (hF1 : F < n) (K : Nat) : ∀ (k i : Nat), i ≤ n → k + i = K + n + 1 → jitneyref07_Solve.l0 k n es F (vec i fun _ => 1152921504606846976) (i : Int) = jitneyref07_Solve.l1 K n es (vec n (start F).d) 0
  | 0, i, hi, hk => by omega
  | k + 1, i, hi, hk => by
    unfold jitneyref07_Solve.l0
    by_cases c : i < n
    · rw [if_pos (by omega), if_pos (by rw [vec_length]; omega), wrap_succ (by omega)]
      have := solve_l0 (es := es) hn hF0 hF1 K k (i + 1) (by omega) (by omega)
      rw [vec_succ] at this
      exact this
    · have hin : i = n := by omega
      subst hin
      rw [if_neg (by omega), if_pos hF0, if_pos (by rw [vec_length]; exact hF1)]
      obtain ⟨f, rfl⟩ : ∃ f : Nat, F = f := ⟨F.toNat, by omega⟩
      rw [Int.toNat_natCast, vec_set _ (by omega)]
      have hk2 : k = K := by omega
      rw [hk2]
      have e : vec i (put (fun _ => 1152921504606846976) (f : Int) 0) = vec i (start (f : Int)).d := rfl
      rw [e]
theorem start_ref {es : List S42} {F : Int} : Ref es F 0 (start F).d := by
  have hI := start_inv (es := es) (F := F)
  refine ⟨fun v l x hw hl => ?_, fun v hv => ?_, hI.bd⟩
  · have : l = [] := List.length_eq_zero_iff.1 (by omega)
    subst this
    obtain ⟨rfl, rfl⟩ := hw
    show (if F = F then (0 : Int) else 1152921504606846976) ≤ 0
    rw [if_pos rfl]
    exact Int.le_refl 0
  · have hv' : (if v = F then (0 : Int) else 1152921504606846976) ≠ 1152921504606846976 := hv
    by_cases h : v = F
    · refine ⟨[], Nat.le_refl _, h.symm, ?_⟩
      show (if v = F then (0 : Int) else 1152921504606846976) = 0
      rw [if_pos h]
    · rw [if_neg h] at hv'
      exact absurd rfl hv'
end Go.Proofs.Ytenjncmljmgcdaa.P
