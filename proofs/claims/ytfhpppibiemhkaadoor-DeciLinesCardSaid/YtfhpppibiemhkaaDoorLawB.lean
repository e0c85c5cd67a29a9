/- Scales, reading back, lines put together: the plain laws. -/
import Derived.Test.YtfhpppibiemhkaaDoorAlive
import Derived.Test.YtfhpppibiemhkaaDoorP15
import Derived.Test.YtfhpppibiemhkaaDoorP16
namespace Go.Proofs.YtfhpppibiemhkaaDoor.P
open Go Go.Proofs.YtfhpppibiemhkaaDoorR
open Go.RowKit Go.Proofs.YtfhpppibiemhkaaDoorW.PrintWords Go.Proofs.YtfhpppibiemhkaaDoorW.PrintLast Go.Proofs.YtfhpppibiemhkaaDoorW.PrintMore
set_option linter.unusedVariables false
/-! ### what is written is read again; lines and words put together -/
theorem dec_head (u : Nat) : ∃ x t, dec u = x :: t ∧ x ≠ 45 := by
  have h1 := dec_len_pos u
  have h2 := dec_dig u
  cases h : dec u with
  | nil => rw [h] at h1; simp at h1
  | cons x t =>
    refine ⟨x, t, rfl, ?_⟩
    rintro rfl
    rw [h, List.all_cons] at h2
    have : isDig 45 = false := by decide
    rw [this] at h2
    cases h2
theorem neg_wr (n : Int) (s : Nat) : neg (wr n s) = decide (n < 0) ∧ body (wr n s) = dec (n.natAbs / 10 ^ s) ++ frac (trm (dgs s (n.natAbs % 10 ^ s))) := by
  obtain ⟨x, t, e, hx⟩ := dec_head (n.natAbs / 10 ^ s)
  unfold wr sgn
  by_cases h : n < 0
  · have hn : neg ([45] ++ dec (n.natAbs / 10 ^ s) ++ frac (trm (dgs s (n.natAbs % 10 ^ s)))) = true := rfl
    rw [if_pos h]
    refine ⟨by rw [hn, decide_eq_true h], ?_⟩
    unfold body
    rw [if_pos hn]
    rfl
  · have hn : neg ([] ++ dec (n.natAbs / 10 ^ s) ++ frac (trm (dgs s (n.natAbs % 10 ^ s)))) = false := by
      rw [List.nil_append, e]
      show (some x == some 45) = false
      exact beq_eq_false_iff_ne.2 (fun h => hx (Option.some.inj h))
    rw [if_neg h]
    refine ⟨by rw [hn, decide_eq_false h], ?_⟩
    unfold body
    rw [hn, if_neg (by decide), List.nil_append]
theorem dig_ne46 {x : UInt8} (h : isDig x = true) : x ≠ 46 := by
  rintro rfl
  revert h; decide
theorem spt_dig (l r : List UInt8) (h : l.all isDig = true) : spt (l ++ r) = (l ++ (spt r).1, (spt r).2) := by
  induction l with
  | nil => rfl
  | cons x t ih =>
    rw [List.all_cons, Bool.and_eq_true] at h
    rw [List.cons_append, spt, if_neg (dig_ne46 h.1), ih h.2]
    rfl
theorem spt_frac (t : List UInt8) : spt (frac t) = ([], if t = [] then none else some t) := by
  cases t with
  | nil => rfl
  | cons x t => rw [frac, spt, if_pos rfl, if_neg (by simp)]
theorem spt_glue (b : List UInt8) : b = (spt b).1 ++ (match (spt b).2 with | none => [] | some f => 46 :: f) := by
  induction b with
  | nil => rfl
  | cons x t ih =>
    by_cases h : x = 46
    · rw [spt, if_pos h, h]; rfl
    · rw [spt, if_neg h]
      show x :: t = x :: ((spt t).1 ++ _)
      rw [← ih]
theorem body_glue (l : List UInt8) : l = (if neg l = true then [45] else []) ++ body l := by
  unfold body
  by_cases h : neg l = true
  · rw [if_pos h, if_pos h]
    cases l with
    | nil => cases h
    | cons x t =>
      have : x = 45 := Option.some.inj (eq_of_beq h)
      rw [this]; rfl
  · rw [if_neg h, if_neg h]; rfl
theorem trm_dgs_len (s r : Nat) : (trm (dgs s r)).length ≤ s := by
  have := trm_len (dgs s r); rw [dgs_len] at this; exact this
theorem trm_dgs_val (s s' r : Nat) (hs : s ≤ s') (hr : r < 10 ^ s) : val (trm (dgs s r)) * 10 ^ (s' - (trm (dgs s r)).length) = r * 10 ^ (s' - s) := by
  have h1 := trm_val (dgs s r)
  have h2 := trm_dgs_len s r
  rw [dgs_val s r hr, dgs_len] at h1
  have e : s' - (trm (dgs s r)).length = (s - (trm (dgs s r)).length) + (s' - s) := by omega
  rw [e, Nat.pow_add, ← Nat.mul_assoc, h1]
theorem readL_wr (n : Int) (s s' : Nat) (hs : s ≤ s') (h6 : s' ≤ 6) (hn : n.natAbs * 10 ^ (s' - s) ≤ 1099511627776) : readL (wr n s) (s' : Int) = (n * ((10 ^ (s' - s) : Nat) : Int), 0) := by
  obtain ⟨e1, e2⟩ := neg_wr n s
  have hp : 1 ≤ 10 ^ s := Nat.pow_pos (by decide)
  have hp' : 1 ≤ 10 ^ (s' - s) := Nat.pow_pos (by decide)
  have hle : n.natAbs ≤ 1099511627776 := Nat.le_trans (Nat.le_mul_of_pos_right _ hp') hn
  have hq : n.natAbs / 10 ^ s ≤ 1099511627776 := Nat.le_trans (Nat.div_le_self _ _) hle
  have hr : n.natAbs % 10 ^ s < 10 ^ s := Nat.mod_lt _ hp
  have es : spt (body (wr n s)) = (dec (n.natAbs / 10 ^ s), if trm (dgs s (n.natAbs % 10 ^ s)) = [] then none else some (trm (dgs s (n.natAbs % 10 ^ s)))) := by
    rw [e2, spt_dig _ _ (dec_dig _), spt_frac]
    simp
  have hok1 : okd (dec (n.natAbs / 10 ^ s)) 13 = true := by
    unfold okd
    rw [dec_dig, decide_eq_true (dec_len_pos _), decide_eq_true (dec_len_le 13 _ (by decide) (by omega))]
    rfl
  have htl := trm_dgs_len s (n.natAbs % 10 ^ s)
  have hta := trm_all _ (dgs_dig s (n.natAbs % 10 ^ s))
  have hok2 : okp (if trm (dgs s (n.natAbs % 10 ^ s)) = [] then none else some (trm (dgs s (n.natAbs % 10 ^ s)))) s' = true := by
    by_cases h : trm (dgs s (n.natAbs % 10 ^ s)) = []
    · rw [if_pos h]; rfl
    · rw [if_neg h]
      show okd _ s' = true
      unfold okd
      have h1 : 1 ≤ (trm (dgs s (n.natAbs % 10 ^ s))).length := List.length_pos_iff.2 h
      have h2 : (trm (dgs s (n.natAbs % 10 ^ s))).length ≤ s' := by omega
      rw [hta, decide_eq_true h1, decide_eq_true h2]
      rfl
  have hgd : (if trm (dgs s (n.natAbs % 10 ^ s)) = [] then none else some (trm (dgs s (n.natAbs % 10 ^ s)))).getD [] = trm (dgs s (n.natAbs % 10 ^ s)) := by
    by_cases h : trm (dgs s (n.natAbs % 10 ^ s)) = []
    · rw [if_pos h, h]; rfl
    · rw [if_neg h]; rfl
  have hnum : num (wr n s) s' = n.natAbs * 10 ^ (s' - s) := by
    unfold num
    rw [es]
    show val (dec _) * 10 ^ s' + val (Option.getD _ []) * 10 ^ (s' - (Option.getD _ []).length) = _
    rw [hgd, dec_val, trm_dgs_val s s' _ hs hr]
    have e : 10 ^ s' = 10 ^ s * 10 ^ (s' - s) := by rw [← Nat.pow_add]; congr 1; omega
    rw [e, ← Nat.mul_assoc, ← Nat.add_mul]
    congr 1
    rw [Nat.mul_comm]
    exact Nat.div_add_mod _ _
  unfold readL
  rw [if_neg (by omega), Int.toNat_natCast, es]
  show (if (okd (dec (n.natAbs / 10 ^ s)) 13 && okp _ s') = true then _ else _) = _
  rw [hok1, hok2, if_pos (by rfl), e1, hnum]
  unfold told
  rw [if_neg (by omega)]
  congr 1
  rw [Int.natCast_mul]
  by_cases h : n < 0
  · rw [decide_eq_true h, if_pos rfl]
    have : ((n.natAbs : Nat) : Int) = -n := by omega
    rw [this, Int.neg_mul, Int.neg_neg]
  · rw [decide_eq_false h, if_neg (by decide)]
    have : ((n.natAbs : Nat) : Int) = n := by omega
    rw [this]
theorem wr_more (n : Int) (s j : Nat) : wr (n * ((10 ^ j : Nat) : Int)) (s + j) = wr n s := by
  have hp : 1 ≤ 10 ^ j := Nat.pow_pos (by decide)
  unfold wr sgn
  have e1 : (n * ((10 ^ j : Nat) : Int)).natAbs = n.natAbs * 10 ^ j := by rw [Int.natAbs_mul, Int.natAbs_natCast]
  have e2 : n.natAbs * 10 ^ j / 10 ^ (s + j) = n.natAbs / 10 ^ s := by rw [Nat.pow_add, Nat.mul_div_mul_right _ _ hp]
  have e3 : n.natAbs * 10 ^ j % 10 ^ (s + j) = n.natAbs % 10 ^ s * 10 ^ j := by rw [Nat.pow_add, Nat.mul_mod_mul_right]
  have e4 : (n * ((10 ^ j : Nat) : Int) < 0) = (n < 0) := by
    apply propext
    constructor
    · intro h
      by_cases c : n < 0
      · exact c
      · have := Int.mul_nonneg (Int.not_lt.1 c) (Int.natCast_nonneg (10 ^ j)); omega
    · intro h
      exact Int.mul_neg_of_neg_of_pos h (by omega)
  rw [e1, e2, e3, dgs_more, trm_zeros]
  simp only [e4]
theorem frac_len (t : List UInt8) : (frac t).length ≤ t.length + 1 ∧ (t = [] → (frac t).length = 0) := by
  cases t with
  | nil => exact ⟨Nat.zero_le _, fun _ => rfl⟩
  | cons x t => exact ⟨Nat.le_refl _, fun h => by cases h⟩
theorem wr_short (l : List UInt8) (s : Nat) (m : Int) (hs : s ≤ 6) (h : readL l (s : Int) = (m, 0)) : (wr m s).length ≤ l.length := by
  unfold readL at h
  rw [if_neg (by omega), Int.toNat_natCast] at h
  by_cases ho : (okd (spt (body l)).1 13 && okp (spt (body l)).2 s) = true
  · rw [if_pos ho] at h
    rw [Bool.and_eq_true] at ho
    obtain ⟨w1, w2, w3⟩ := okd_all ho.1
    have hl := congrArg List.length (body_glue l)
    have hb := congrArg List.length (spt_glue (body l))
    rw [List.length_append] at hl hb
    unfold told num at h
    have hf : ((spt (body l)).2.getD []).all isDig = true ∧ ((spt (body l)).2.getD []).length ≤ s := by
      cases hp : (spt (body l)).2 with
      | none => exact ⟨rfl, Nat.zero_le _⟩
      | some f =>
        have h2 := ho.2
        rw [hp] at h2
        obtain ⟨f1, f2, f3⟩ := okd_all h2
        exact ⟨f1, f3⟩
    have hfr : (frac ((spt (body l)).2.getD [])).length ≤ (match (spt (body l)).2 with | none => ([] : List UInt8) | some f => 46 :: f).length := by
      cases (spt (body l)).2 with
      | none => exact Nat.le_refl _
      | some f => exact (frac_len f).1
    generalize (match (spt (body l)).2 with | none => ([] : List UInt8) | some f => 46 :: f) = tl at hb hfr
    generalize (spt (body l)).2.getD [] = f at h hf hfr
    generalize (spt (body l)).1 = w at h w1 w2 w3 hb
    by_cases c : val w * 10 ^ s + val f * 10 ^ (s - f.length) > 1099511627776
    · rw [if_pos c] at h
      cases (Prod.mk.inj h).2
    · rw [if_neg c] at h
      have hm := (Prod.mk.inj h).1
      have hF : val f * 10 ^ (s - f.length) < 10 ^ s := by
        have : 10 ^ f.length * 10 ^ (s - f.length) = 10 ^ s := by rw [← Nat.pow_add]; congr 1; omega
        rw [← this]
        exact Nat.mul_lt_mul_of_pos_right (val_lt f hf.1) (Nat.pow_pos (by decide))
      have hab : m.natAbs = val w * 10 ^ s + val f * 10 ^ (s - f.length) := by
        rw [← hm]; split <;> omega
      have hq : m.natAbs / 10 ^ s = val w := by
        rw [hab, Nat.mul_comm, Nat.mul_add_div (Nat.pow_pos (by decide)), Nat.div_eq_of_lt hF, Nat.add_zero]
      have hr : m.natAbs % 10 ^ s = val f * 10 ^ (s - f.length) := by
        rw [hab, Nat.mul_comm, Nat.mul_add_mod, Nat.mod_eq_of_lt hF]
      have hdg : trm (dgs s (m.natAbs % 10 ^ s)) = trm f := by
        have h1 := dgs_more f.length (val f) (s - f.length)
        rw [show f.length + (s - f.length) = s by omega, dgs_of_val f hf.1] at h1
        rw [hr, h1, trm_zeros]
      have hft : (frac (trm f)).length ≤ (frac f).length := by
        have h1 := trm_len f
        cases hf0 : f with
        | nil => exact Nat.le_refl _
        | cons x t =>
          have h2 := (frac_len (trm f)).1
          rw [hf0] at h1 h2
          rw [frac]
          simp only [List.length_cons] at h1 h2 ⊢
          omega
      have hw : (dec (val w)).length ≤ w.length := dec_len_le w.length (val w) w2 (val_lt w w1)
      unfold wr
      rw [List.length_append, List.length_append, hq, hdg]
      have hsg : (sgn m).length ≤ (if neg l = true then [45] else ([] : List UInt8)).length := by
        unfold sgn
        by_cases c2 : m < 0
        · rw [if_pos c2]
          by_cases c3 : neg l = true
          · rw [if_pos c3]; exact Nat.le_refl _
          · rw [if_neg c3] at hm; omega
        · rw [if_neg c2]; exact Nat.zero_le _
      omega
  · rw [if_neg ho] at h
    cases (Prod.mk.inj h).2
/-! ### lines and words of texts put together -/
theorem lines_join (l : List UInt8) (ls : List (List UInt8)) (hl : l.length ≤ 1048576) (h : linesL l = (ls, 0)) : ls.flatMap (fun p => p ++ [10]) = l := by
  rcases snoc_or l with rfl | ⟨m, x, rfl⟩
  · rw [linesL_nil] at h
    have := (Prod.mk.inj h).1
    subst this
    rfl
  · rw [List.length_append, List.length_singleton] at hl
    by_cases hx : x = 10
    · subst hx
      rw [linesL_ends m hl] at h
      have := (Prod.mk.inj h).1
      subst this
      exact pcs_join 10 m
    · rw [linesL_short m x hx hl] at h
      have := (Prod.mk.inj h).2
      omega
theorem linesL_bad (l : List UInt8) (h : (linesL l).2 ≠ 0) : (linesL l).1 = [] := by
  unfold linesL at h ⊢
  split at h
  · rename_i c; rw [if_pos c]
  · rename_i c
    rw [if_neg c]
    split at h
    · exact absurd rfl h
    · rename_i c2; rw [if_neg c2]
theorem words_join (l : List UInt8) (ws : List (List UInt8)) (h : wordsL l = (ws, 0)) : ws.headD [] ++ ws.tail.flatMap (fun p => 32 :: p) = l := by
  unfold wordsL at h
  by_cases c : l = []
  · rw [if_pos c] at h
    have := (Prod.mk.inj h).1
    subst this
    rw [c]; rfl
  · rw [if_neg c] at h
    split at h
    · have := (Prod.mk.inj h).1
      subst this
      obtain ⟨x, q, e⟩ := pcs_cons 32 l
      rw [e]
      exact pcs_glue 32 l x q e
    · have := (Prod.mk.inj h).2
      omega
theorem lines_app (a b : List UInt8) (ha : a.length ≤ 1000) (hb : b.length ≤ 1000) (h : (linesL a).2 = 0) : linesL (a ++ b) = if (linesL b).2 = 0 then ((linesL a).1 ++ (linesL b).1, 0) else ([], (linesL b).2) := by
  have hself : linesL b = if (linesL b).2 = 0 then ((linesL b).1, 0) else ([], (linesL b).2) := by
    by_cases c : (linesL b).2 = 0
    · rw [if_pos c]
      exact Prod.ext rfl c
    · rw [if_neg c]
      exact Prod.ext (linesL_bad b c) rfl
  rcases snoc_or a with rfl | ⟨m, x, rfl⟩
  · rw [linesL_nil]
    exact hself
  · rw [List.length_append, List.length_singleton] at ha
    by_cases hx : x = 10
    · subst hx
      have hlen : ¬ (m ++ [10] ++ b).length > 1048576 := by simp only [List.length_append, List.length_singleton]; omega
      have e : pcs 10 (m ++ [10] ++ b) = pcs 10 m ++ pcs 10 b := by
        rw [List.append_assoc]
        exact pcs_app 10 m b
      rw [linesL_ends m (by omega)]
      obtain ⟨x, q, eb⟩ := pcs_cons 10 b
      unfold linesL
      rw [if_neg hlen, e, if_neg (show ¬ b.length > 1048576 by omega), eb]
      have hne : (x :: q) ≠ [] := by simp
      have h1 : (pcs 10 m ++ x :: q).getLastD [] = (x :: q).getLastD [] := by
        rw [List.getLastD_eq_getLast?, List.getLastD_eq_getLast?, List.getLast?_append]
        rw [List.getLast?_eq_some_getLast hne]
        rfl
      rw [h1, List.dropLast_append_of_ne_nil hne]
      by_cases c : (x :: q).getLastD [] = []
      · rw [if_pos c, if_pos c, if_pos rfl]
      · rw [if_neg c, if_neg c, if_neg (by decide)]
    · rw [linesL_short m x hx (by omega)] at h
      exact absurd h (by decide)
theorem words_app (a b : List UInt8) : wordsL (a ++ 32 :: b) = if (wordsL a).2 = 0 ∧ (wordsL b).2 = 0 ∧ (wordsL a).1 ≠ [] ∧ (wordsL b).1 ≠ [] then ((wordsL a).1 ++ (wordsL b).1, 0) else ([], 21) := by
  have hL : wordsL (a ++ 32 :: b) = if ((pcs 32 a).all wordB && (pcs 32 b).all wordB) = true then (pcs 32 a ++ pcs 32 b, 0) else ([], 21) := by
    unfold wordsL
    rw [if_neg (by simp), pcs_app, List.all_append]
  rw [hL]
  have key : ∀ l : List UInt8, (((pcs 32 l).all wordB = true) ↔ ((wordsL l).2 = 0 ∧ (wordsL l).1 ≠ [])) ∧ ((pcs 32 l).all wordB = true → (wordsL l).1 = pcs 32 l) := by
    intro l
    unfold wordsL
    by_cases c : l = []
    · subst c
      refine ⟨⟨fun h => by revert h; decide, fun h => absurd rfl h.2⟩, fun h => by revert h; decide⟩
    · rw [if_neg c]
      by_cases c2 : (pcs 32 l).all wordB = true
      · rw [if_pos c2]
        obtain ⟨x, q, e⟩ := pcs_cons 32 l
        exact ⟨⟨fun _ => ⟨rfl, by rw [e]; simp⟩, fun _ => c2⟩, fun _ => rfl⟩
      · rw [if_neg c2]
        exact ⟨⟨fun h => absurd h c2, fun h => absurd h.1 (by decide)⟩, fun h => absurd h c2⟩
  by_cases c : ((pcs 32 a).all wordB && (pcs 32 b).all wordB) = true
  · rw [if_pos c]
    rw [Bool.and_eq_true] at c
    obtain ⟨h1, h2⟩ := (key a).1.1 c.1
    obtain ⟨h3, h4⟩ := (key b).1.1 c.2
    rw [if_pos ⟨h1, h3, h2, h4⟩, (key a).2 c.1, (key b).2 c.2]
  · rw [if_neg c, if_neg]
    rintro ⟨h1, h3, h2, h4⟩
    exact c (by rw [Bool.and_eq_true]; exact ⟨(key a).1.2 ⟨h1, h2⟩, (key b).1.2 ⟨h3, h4⟩⟩)
/-! ### scales -/
theorem and7 (n : Int) (h0 : -9223372036854775808 ≤ n) (h1 : n ≤ 9223372036854775807) : 0 ≤ Go.bits .and .i64 n 7 ∧ Go.bits .and .i64 n 7 ≤ 7 := by
  have hm : (BitVec.ofInt 64 7).toNat = 2 ^ 3 - 1 := by decide
  have key : (BitVec.ofInt 64 n &&& BitVec.ofInt 64 7).toNat ≤ 7 := by
    rw [BitVec.toNat_and, hm, Nat.and_two_pow_sub_one_eq_mod]
    omega
  show 0 ≤ IntKind.i64.wrap ((BitVec.ofInt 64 n &&& BitVec.ofInt 64 7).toNat : Nat) ∧ IntKind.i64.wrap ((BitVec.ofInt 64 n &&& BitVec.ofInt 64 7).toNat : Nat) ≤ 7
  obtain ⟨m, hm⟩ : ∃ m, m = (BitVec.ofInt 64 n &&& BitVec.ofInt 64 7).toNat := ⟨_, rfl⟩
  rw [← hm] at key ⊢
  have h64 : (2 ^ IntKind.i64.bits : Int) = 18446744073709551616 := by decide
  have h63 : (2 ^ (IntKind.i64.bits - 1) : Int) = 9223372036854775808 := by decide
  have e : IntKind.i64.wrap (m : Int) = (m : Int) := by
    unfold IntKind.wrap
    simp only [h64, h63]
    rw [Int.emod_eq_of_lt (by omega) (by omega), if_neg]
    simp
    omega
  rw [e]
  omega
theorem cl_nat (s : Nat) (h : s ≤ 6) : cl (s : Int) = s := by
  unfold cl
  rw [if_neg (by omega), if_neg (by omega), Int.toNat_natCast]
theorem scales_loop (s : Nat) (w : Int) (hs : s ≤ 5) (hw : -1000 ≤ w ∧ w ≤ 1000) : ∀ (d k i : Nat), i + d = s → d + 30 < k → jitneylaw03_DeciScales.l0 k (s : Int) w (w * ((10 ^ i : Nat) : Int)) (s : Int) (i : Int) = some true := by
  intro d
  induction d with
  | zero =>
    intro k i h hk
    obtain ⟨k, rfl⟩ : ∃ m, k = m + 1 := ⟨k - 1, by omega⟩
    obtain rfl : i = s := by omega
    have hp : 10 ^ i ≤ 100000 := Nat.le_trans (Nat.pow_le_pow_right (by decide) hs) (by decide)
    have hp0 : 1 ≤ 10 ^ i := Nat.pow_pos (by decide)
    have hb : -9223372036854775808 ≤ w * ((10 ^ i : Nat) : Int) ∧ w * ((10 ^ i : Nat) : Int) ≤ 9223372036854775807 := by
      have e := wr_more w 0 i
      have e2 : (w * ((10 ^ i : Nat) : Int)).natAbs = w.natAbs * 10 ^ i := by rw [Int.natAbs_mul, Int.natAbs_natCast]
      have h3 : w.natAbs * 10 ^ i ≤ 1000 * 100000 := Nat.mul_le_mul (by omega) hp
      omega
    rw [jitneylaw03_DeciScales.l0, if_neg (by omega), write_is k _ _ hb.1 hb.2 (by omega), write_is k w 0 (by omega) (by omega) (by omega)]
    simp only [Option.bind_some, Option.some.injEq]
    have c0 : cl 0 = 0 := rfl
    have e := wr_more w 0 i
    rw [Nat.zero_add] at e
    rw [cl_nat i (by omega), c0, e]
    exact beq_self_eq_true _
  | succ d ih =>
    intro k i h hk
    obtain ⟨k, rfl⟩ : ∃ m, k = m + 1 := ⟨k - 1, by omega⟩
    have hi5 : i ≤ 5 := by omega
    have hp : 10 ^ i ≤ 100000 := Nat.le_trans (Nat.pow_le_pow_right (by decide) hi5) (by decide)
    have e2 : (w * ((10 ^ i : Nat) : Int)).natAbs = w.natAbs * 10 ^ i := by rw [Int.natAbs_mul, Int.natAbs_natCast]
    have h3 : w.natAbs * 10 ^ i ≤ 1000 * 100000 := Nat.mul_le_mul (by omega) hp
    rw [jitneylaw03_DeciScales.l0, if_pos (by omega), wrap_nat (i := i) (by omega), wrap_id (x := w * ((10 ^ i : Nat) : Int) * 10) (by omega) (by omega)]
    have e : w * ((10 ^ i : Nat) : Int) * 10 = w * ((10 ^ (i + 1) : Nat) : Int) := by
      rw [Nat.pow_succ, Int.natCast_mul, ← Int.mul_assoc]; rfl
    rw [e]
    exact ih k (i + 1) (by omega) (by omega)
theorem tmod_bound (n m : Int) (hm : 0 < m) : -m < Int.tmod n m ∧ Int.tmod n m < m := by
  refine ⟨?_, Int.tmod_lt_of_pos n hm⟩
  have h1 := Int.tmod_lt_of_pos (-n) hm
  rw [Int.neg_tmod] at h1
  omega
theorem deciScales_k (k : Nat) (hk : 1000 ≤ k) (n scale : Int) (h2 : -9223372036854775808 ≤ scale) (h3 : scale ≤ 9223372036854775807) : jitneylaw03_DeciScales.f k n scale = some true := by
  unfold jitneylaw03_DeciScales.f
  rw [alive_is _ (by omega)]
  simp only [Option.bind_some, if_true]
  obtain ⟨s0, s7⟩ := and7 scale h2 h3
  generalize Go.bits .and .i64 scale 7 = s at s0 s7
  by_cases c : s > 5
  · rw [if_pos c]
  · obtain ⟨t, rfl⟩ : ∃ t : Nat, s = t := ⟨s.toNat, by omega⟩
    obtain ⟨b0, b1⟩ := tmod_bound n 68719476736 (by decide)
    generalize Int.tmod n 68719476736 = m at b0 b1
    have hw : wrap64 ((t : Int) + 1) = ((t + 1 : Nat) : Int) := wrap_nat (by omega)
    have hl : (wr m t).length ≤ 40 := by
      have h1 := trm_dgs_len t (m.natAbs % 10 ^ t)
      have h2 := (frac_len (trm (dgs t (m.natAbs % 10 ^ t)))).1
      have h3 := dec_le20 (m.natAbs / 10 ^ t) (by have := Nat.div_le_self m.natAbs (10 ^ t); omega)
      unfold wr sgn
      rw [List.length_append, List.length_append]
      split <;> simp only [List.length_cons, List.length_nil] <;> omega
    rw [if_neg c, hw, write_is k m t (by omega) (by omega) (by omega)]
    simp only [Option.bind_some]
    rw [cl_nat t (by omega), read_is k _ _ (by rw [mkB_size]; omega) (by rw [mkB_size]; omega), mkB_data, readL_wr m t (t + 1) (by omega) (by omega) (by rw [show t + 1 - t = 1 by omega]; omega)]
    simp only [Option.bind_some, if_true]
    have h10 : ((10 ^ 1 : Nat) : Int) = 10 := by decide
    have e1 : m * ((10 ^ (t + 1 - t) : Nat) : Int) = 10 * m := by rw [show t + 1 - t = 1 by omega, h10, Int.mul_comm]
    have e2 : wr (10 * m) (t + 1) = wr m t := by
      have := wr_more m t 1
      rw [h10, Int.mul_comm] at this
      exact this
    rw [e1, if_pos (wrap_id (by omega) (by omega)).symm, write_is k (10 * m) _ (by omega) (by omega) (by omega)]
    simp only [Option.bind_some]
    rw [cl_nat (t + 1) (by omega), e2]
    have hne : ((mkB (wr m t)).toList != (mkB (wr m t)).toList) = false := by simp
    rw [hne]
    obtain ⟨k, rfl⟩ : ∃ j, k = j + 1 := ⟨k - 1, by omega⟩
    rw [jitneylaw03_DeciScales.j0, if_neg (by decide)]
    obtain ⟨d0, d1⟩ := tmod_bound m 1000 (by decide)
    have := scales_loop t (Int.tmod m 1000) (by omega) (by omega) t k 0 (by omega) (by omega)
    have e0 : Int.tmod m 1000 * ((10 ^ 0 : Nat) : Int) = Int.tmod m 1000 := by rw [Nat.pow_zero]; exact Int.mul_one _
    have h0 : ((0 : Nat) : Int) = 0 := rfl
    rw [e0, h0] at this
    exact this
theorem deciScales_law (n scale : Int) (h2 : -9223372036854775808 ≤ scale) (h3 : scale ≤ 9223372036854775807) : ∃ k, jitneylaw03_DeciScales.f k n scale = some true := ⟨1000, deciScales_k 1000 (Nat.le_refl _) n scale h2 h3⟩
/-! ### lines put together -/
theorem same_self (k : Nat) (xs ys : List ByteArray) (h : xs = ys) (hn : xs.length ≤ 1000000000) (hk : xs.length < k) : jitneyref03_Same.f k xs ys = some true := by
  subst h; exact same_is k xs hn hk
theorem wordsL_bad (l : List UInt8) (h : (wordsL l).2 ≠ 0) : (wordsL l).1 = [] := by
  unfold wordsL at h ⊢
  split at h
  · rename_i c; rw [if_pos c]
  · rename_i c
    rw [if_neg c]
    split at h
    · exact absurd rfl h
    · rename_i c2; rw [if_neg c2]
theorem lines_j1 (a b : ByteArray) (ha : a.size ≤ 1000) (hb : b.size ≤ 1000) (k : Nat) (hk : 6000 < k) : jitneylaw03_DeciLines.j1 k a b false = some true := by
  obtain ⟨k, rfl⟩ : ∃ m, k = m + 1 := ⟨k - 1, by omega⟩
  have hsa := Lib.size_eq a
  have hsb := Lib.size_eq b
  have e32 : (⟨#[32]⟩ : ByteArray).size = 1 := rfl
  have hd : ((a ++ (⟨#[32]⟩ : ByteArray)) ++ b).data.toList = a.data.toList ++ 32 :: b.data.toList := by
    have h1 : a = mkB a.data.toList := (mkB_of a).symm
    have h2 : b = mkB b.data.toList := (mkB_of b).symm
    have h3 : (⟨#[32]⟩ : ByteArray) = mkB [32] := rfl
    conv => lhs; rw [h1, h2, h3, mkB_append, mkB_append, mkB_data]
    rw [List.append_assoc]; rfl
  have hsz : ((a ++ (⟨#[32]⟩ : ByteArray)) ++ b).size = a.size + 1 + b.size := by rw [ByteArray.size_append, ByteArray.size_append, e32]
  rw [jitneylaw03_DeciLines.j1, if_neg (by decide), words_is k a (by omega) (by omega), words_is k b (by omega) (by omega)]
  simp only [Option.bind_some]
  rw [if_pos (by omega), if_pos (by rw [ByteArray.size_append, e32]; omega), words_is k _ (by rw [hsz]; omega) (by rw [hsz]; omega), hd, words_app]
  simp only [Option.bind_some]
  have la := wordsL_len a.data.toList
  have lb := wordsL_len b.data.toList
  generalize wordsL a.data.toList = u at la
  generalize wordsL b.data.toList = v at lb
  obtain ⟨u1, u2⟩ := u
  obtain ⟨v1, v2⟩ := v
  have q1 : (outB (u1, u2)).2 = u2 := rfl
  have q2 : (outB (u1, u2)).1 = u1.map mkB := rfl
  have q3 : (outB (v1, v2)).2 = v2 := rfl
  have q4 : (outB (v1, v2)).1 = v1.map mkB := rfl
  have q5 : ((u1, u2) : List (List UInt8) × Int).2 = u2 := rfl
  have q6 : ((u1, u2) : List (List UInt8) × Int).1 = u1 := rfl
  have q7 : ((v1, v2) : List (List UInt8) × Int).2 = v2 := rfl
  have q8 : ((v1, v2) : List (List UInt8) × Int).1 = v1 := rfl
  rw [q1, q2, q3, q4, q5, q6, q7, q8]
  rw [q6] at la
  rw [q8] at lb
  by_cases c1 : u2 = 0
  · rw [if_pos c1]
    by_cases c2 : v2 = 0
    · rw [if_pos c2]
      cases u1 with
      | nil =>
        rw [if_pos (by rfl), if_neg (by rintro ⟨_, _, h, _⟩; exact h rfl)]; rfl
      | cons x q =>
        rw [if_neg (by simp only [List.map_cons, List.length_cons]; omega)]
        cases v1 with
        | nil => rw [if_pos (by rfl), if_neg (by rintro ⟨_, _, _, h⟩; exact h rfl)]; rfl
        | cons y r =>
          have hc : u2 = 0 ∧ v2 = 0 ∧ (x :: q) ≠ [] ∧ (y :: r) ≠ [] := ⟨c1, c2, by simp, by simp⟩
          rw [if_neg (by simp only [List.map_cons, List.length_cons]; omega), if_pos hc]
          have r1 : (outB (x :: q ++ y :: r, 0)).2 = 0 := rfl
          have r2 : (outB (x :: q ++ y :: r, 0)).1 = (x :: q ++ y :: r).map mkB := rfl
          rw [if_pos r1, r2, if_pos (by simp only [List.length_map]; omega)]
          rw [same_self k _ _ (by rw [List.map_append]) (by simp only [List.length_map, List.length_append]; omega) (by simp only [List.length_map, List.length_append]; omega)]
          rfl
    · rw [if_neg c2, if_neg (by rintro ⟨_, h, _⟩; exact c2 h)]; rfl
  · rw [if_neg c1, if_neg (by rintro ⟨h, _⟩; exact c1 h)]; rfl
theorem deciLines_law (a b : ByteArray) : ∃ k, jitneylaw03_DeciLines.f k a b = some true := by
  refine ⟨20000, ?_⟩
  unfold jitneylaw03_DeciLines.f
  rw [alive_is _ (by decide)]
  simp only [Option.bind_some, if_true]
  by_cases c1 : (a.size : Int) > 1000
  · rw [if_pos c1, show (20000 : Nat) = 19999 + 1 from rfl, jitneylaw03_DeciLines.j0, if_pos rfl]
  · rw [if_neg c1]
    by_cases c2 : (b.size : Int) > 1000
    · rw [decide_eq_true c2, show (20000 : Nat) = 19999 + 1 from rfl, jitneylaw03_DeciLines.j0, if_pos rfl]
    · have ha : a.size ≤ 1000 := by omega
      have hb : b.size ≤ 1000 := by omega
      have hsa := Lib.size_eq a
      have hsb := Lib.size_eq b
      have hj := lines_j1 a b ha hb 19999 (by decide)
      have hd : (a ++ b).data.toList = a.data.toList ++ b.data.toList := by
        have h1 : a = mkB a.data.toList := (mkB_of a).symm
        have h2 : b = mkB b.data.toList := (mkB_of b).symm
        conv => lhs; rw [h1, h2, mkB_append, mkB_data]
      rw [decide_eq_false c2, show (20000 : Nat) = 19999 + 1 from rfl, jitneylaw03_DeciLines.j0, if_neg (by decide), lines_is, lines_is, lines_is, hd]
      simp only [Option.bind_some]
      rw [if_pos (by omega)]
      have la := (linesL_len a.data.toList).1
      have lb := (linesL_len b.data.toList).1
      have key := lines_app a.data.toList b.data.toList (by omega) (by omega)
      generalize linesL (a.data.toList ++ b.data.toList) = z at key
      generalize linesL a.data.toList = u at key la
      generalize linesL b.data.toList = v at key lb
      obtain ⟨u1, u2⟩ := u
      obtain ⟨v1, v2⟩ := v
      have q1 : (outB (u1, u2)).2 = u2 := rfl
      have q2 : (outB (u1, u2)).1 = u1.map mkB := rfl
      have q3 : (outB (v1, v2)).2 = v2 := rfl
      have q4 : (outB (v1, v2)).1 = v1.map mkB := rfl
      have q5 : (outB z).2 = z.2 := rfl
      have q6 : (outB z).1 = z.1.map mkB := rfl
      rw [q1, q2, q3, q4, q5, q6]
      replace la : u1.length ≤ a.data.toList.length + 1 := la
      replace lb : v1.length ≤ b.data.toList.length + 1 := lb
      by_cases c3 : u2 = 0
      · have kz := key c3
        rw [if_pos c3]
        by_cases c4 : v2 = 0
        · have kz2 : z = (u1 ++ v1, 0) := by rw [kz]; exact if_pos c4
          have z1 : z.1 = u1 ++ v1 := by rw [kz2]
          have z2 : z.2 = 0 := by rw [kz2]
          rw [z1, z2, c4, if_pos rfl, if_pos rfl, if_pos (by simp only [List.length_map]; omega), same_self 19999 _ _ (by rw [List.map_append]) (by simp only [List.length_map, List.length_append]; omega) (by simp only [List.length_map, List.length_append]; omega)]
          exact hj
        · have kz2 : z = ([], v2) := by rw [kz]; exact if_neg c4
          have z2 : z.2 = v2 := by rw [kz2]
          rw [z2, if_pos rfl, if_neg c4]
          exact hj
      · rw [if_neg c3]
        exact hj
/-! ### read back -/
theorem back_l1 (x2 x14 x16 : ByteArray) (e : Int) (x80 : List ByteArray) (n i : Int) (ws : List (List UInt8)) (hn : ws.length ≤ 100000) (hb : ∀ p ∈ ws, p.length ≤ 100000) :
    ∀ (d k j : Nat) (acc : List UInt8), j + d = ws.length → d < k → acc.length ≤ 100001 * j → (j = 0 → acc = []) →
      jitneylaw03_DeciBack.l1 k x2 x14 x16 e (mkB acc) x80 n i (ws.map mkB) (ws.length : Int) (j : Int) =
        (let line := if j = 0 then ws.headD [] ++ ws.tail.flatMap (fun p => 32 :: p) else acc ++ (ws.drop j).flatMap (fun p => 32 :: p)
         if e = 0 then (if line = x16.toList then jitneylaw03_DeciBack.l0 (k - d - 1) x2 x14 x80 n (wrap64 (i + 1)) else some false) else jitneylaw03_DeciBack.l0 (k - d - 1) x2 x14 x80 n (wrap64 (i + 1))) := by
  intro d
  induction d with
  | zero =>
    intro k j acc h hk ha h0
    obtain ⟨k, rfl⟩ : ∃ m, k = m + 1 := ⟨k - 1, by omega⟩
    rw [jitneylaw03_DeciBack.l1, if_neg (by omega), mkB_toList]
    have hd : ws.drop j = [] := List.drop_eq_nil_of_le (by omega)
    have hline : (if j = 0 then ws.headD [] ++ ws.tail.flatMap (fun p => 32 :: p) else acc ++ (ws.drop j).flatMap (fun p => 32 :: p)) = acc := by
      by_cases c : j = 0
      · have : ws = [] := List.length_eq_zero_iff.1 (by omega)
        rw [if_pos c, h0 c, this]; rfl
      · rw [if_neg c, hd]; simp
    simp only [hline]
    rfl
  | succ d ih =>
    intro k j acc h hk ha h0
    obtain ⟨k, rfl⟩ : ∃ m, k = m + 1 := ⟨k - 1, by omega⟩
    have hj : j < ws.length := by omega
    have hdr : ws.drop j = ws[j] :: ws.drop (j + 1) := List.drop_eq_getElem_cons hj
    have hrd : rdOf ByteArray.empty (ws.map mkB) (j : Int) = mkB ws[j] := by
      unfold rdOf
      simp [hj]
    have hp := hb ws[j] (List.getElem_mem hj)
    have e32 : (⟨#[32]⟩ : ByteArray) = mkB [32] := rfl
    have hm : 100001 * (j + 1) ≤ 100001 * 100000 := Nat.mul_le_mul_left _ (by omega)
    rw [jitneylaw03_DeciBack.l1, if_pos (by omega), if_pos (by omega), if_pos (by simp only [List.length_map]; omega), hrd, wrap_nat (by omega)]
    by_cases c : j = 0
    · subst c
      rw [if_neg (by decide), h0 rfl, mkB_append, List.nil_append]
      have hs0 : (mkB ([] : List UInt8)).size + (mkB ws[0]).size ≤ 9223372036854775807 := by rw [mkB_size, mkB_size]; simp only [List.length_nil]; omega
      rw [if_pos hs0, ih k 1 ws[0] (by omega) (by omega) (by omega) (by omega)]
      have hl : (if (1 : Nat) = 0 then ws.headD [] ++ ws.tail.flatMap (fun p => 32 :: p) else ws[0] ++ (ws.drop 1).flatMap (fun p => 32 :: p)) = (if (0 : Nat) = 0 then ws.headD [] ++ ws.tail.flatMap (fun p => 32 :: p) else [] ++ (ws.drop 0).flatMap (fun p => 32 :: p)) := by
        rw [if_neg (by decide), if_pos rfl]
        cases ws with
        | nil => simp at hj
        | cons x q => rfl
      simp only [hl]
      rw [show k + 1 - (d + 1) - 1 = k - d - 1 by omega]
    · rw [if_pos (by omega), e32, mkB_append, mkB_append]
      have hs1 : (mkB acc).size + 1 ≤ 9223372036854775807 := by rw [mkB_size]; omega
      have hs2 : (mkB (acc ++ [32])).size + (mkB ws[j]).size ≤ 9223372036854775807 := by rw [mkB_size, mkB_size, List.length_append, List.length_singleton]; omega
      rw [if_pos hs1, if_pos hs2, ih k (j + 1) _ (by omega) (by omega) (by simp only [List.length_append, List.length_singleton]; omega) (by omega)]
      have hl : (if j + 1 = 0 then ws.headD [] ++ ws.tail.flatMap (fun p => 32 :: p) else (acc ++ [32] ++ ws[j]) ++ (ws.drop (j + 1)).flatMap (fun p => 32 :: p)) = (if j = 0 then ws.headD [] ++ ws.tail.flatMap (fun p => 32 :: p) else acc ++ (ws.drop j).flatMap (fun p => 32 :: p)) := by
        rw [if_neg (by omega), if_neg c, hdr, List.flatMap_cons]
        simp only [List.append_assoc, List.cons_append, List.nil_append]
      simp only [hl]
      rw [show k + 1 - (d + 1) - 1 = k - d - 1 by omega]
theorem back_l0 (x2 : ByteArray) (ls : List (List UInt8)) (hn : ls.length ≤ 2001) (hb : ∀ p ∈ ls, p.length ≤ 2000) (hx : x2.toList = ls.flatMap (fun p => p ++ [10])) (hx2 : x2.size ≤ 2000) :
    ∀ (d k j : Nat) (acc : List UInt8), j + d = ls.length → 5000 * d + 10 ≤ k → acc ++ (ls.drop j).flatMap (fun p => p ++ [10]) = x2.toList →
      jitneylaw03_DeciBack.l0 k x2 (mkB acc) (ls.map mkB) (ls.length : Int) (j : Int) = some true := by
  intro d
  induction d with
  | zero =>
    intro k j acc h hk ha
    obtain ⟨k, rfl⟩ : ∃ m, k = m + 1 := ⟨k - 1, by omega⟩
    rw [List.drop_eq_nil_of_le (by omega)] at ha
    simp only [List.flatMap_nil, List.append_nil] at ha
    rw [jitneylaw03_DeciBack.l0, if_neg (by omega), mkB_toList, ha, beq_self_eq_true]
  | succ d ih =>
    intro k j acc h hk ha
    obtain ⟨k, rfl⟩ : ∃ m, k = m + 1 := ⟨k - 1, by omega⟩
    have hj : j < ls.length := by omega
    have hdr : ls.drop j = ls[j] :: ls.drop (j + 1) := List.drop_eq_getElem_cons hj
    have hrd : rdOf ByteArray.empty (ls.map mkB) (j : Int) = mkB ls[j] := by
      unfold rdOf
      simp [hj]
    have hp := hb ls[j] (List.getElem_mem hj)
    have e10 : (⟨#[10]⟩ : ByteArray) = mkB [10] := rfl
    have hal : acc.length ≤ 2000 := by
      have := congrArg List.length ha
      rw [List.length_append, Lib.toList_data, ← Lib.size_eq] at this
      omega
    have hwl := wordsL_len ls[j]
    have hs1 : (mkB ls[j]).size + 1 ≤ 9223372036854775807 := by rw [mkB_size]; omega
    have hs2 : (mkB acc).size + (mkB (ls[j] ++ [10])).size ≤ 9223372036854775807 := by rw [mkB_size, mkB_size, List.length_append, List.length_singleton]; omega
    rw [jitneylaw03_DeciBack.l0, if_pos (by omega), if_pos (by omega), if_pos (by simp only [List.length_map]; omega), hrd, if_pos hs1, e10, mkB_append, if_pos hs2, words_is k _ (by rw [mkB_size]; omega) (by rw [mkB_size]; omega), mkB_data]
    simp only [Option.bind_some, outB, List.length_map]
    have hpb : ∀ p ∈ (wordsL ls[j]).1, p.length ≤ 100000 := by
      intro p hpp
      unfold wordsL at hpp
      split at hpp
      · simp at hpp
      · split at hpp
        · have := (pcs_len 32 ls[j]).2 p hpp; omega
        · simp at hpp
    have hE : (⟨#[]⟩ : ByteArray) = mkB [] := rfl
    rw [hE, mkB_append]
    have h0 : ((0 : Nat) : Int) = 0 := rfl
    have hL1 := back_l1 x2 (mkB (acc ++ (ls[j] ++ [10]))) (mkB ls[j]) (wordsL ls[j]).2 (ls.map mkB) (ls.length : Int) (j : Int) (wordsL ls[j]).1 (by omega) hpb (wordsL ls[j]).1.length k 0 [] (by omega) (by omega) (by simp) (fun _ => rfl)
    rw [h0] at hL1
    rw [hL1]
    have hnext := ih (k - (wordsL ls[j]).1.length - 1) (j + 1) (acc ++ (ls[j] ++ [10])) (by omega) (by omega) (by rw [← ha, hdr, List.flatMap_cons, List.append_assoc])
    rw [wrap_nat (by omega)]
    by_cases c : (wordsL ls[j]).2 = 0
    · have hj2 := words_join ls[j] (wordsL ls[j]).1 (Prod.ext rfl c)
      simp only [if_pos c, if_true]
      rw [if_pos (by rw [hj2, mkB_toList])]
      exact hnext
    · simp only [if_neg c]
      exact hnext
theorem deciBack_law (n scale : Int) (a : ByteArray) : ∃ k, jitneylaw03_DeciBack.f k n scale a = some true := by
  refine ⟨20000000, ?_⟩
  unfold jitneylaw03_DeciBack.f
  rw [alive_is _ (by decide)]
  simp only [Option.bind_some, if_true]
  have e0 : ∀ b : Bool, b = true → jitneylaw03_DeciBack.j0 20000000 n scale a b = some true := by
    intro b hb
    rw [show (20000000 : Nat) = 19999999 + 1 from rfl, jitneylaw03_DeciBack.j0, if_pos hb]
  by_cases c1 : scale < 0
  · rw [if_pos c1]; exact e0 _ rfl
  · rw [if_neg c1]
    by_cases c2 : scale > 6
    · rw [if_pos c2]; exact e0 _ rfl
    · rw [if_neg c2]
      by_cases c3 : (a.size : Int) > 2000
      · rw [decide_eq_true c3]; exact e0 _ rfl
      · obtain ⟨t, rfl⟩ : ∃ t : Nat, scale = t := ⟨scale.toNat, by omega⟩
        have ha : a.size ≤ 2000 := by omega
        have hsa := Lib.size_eq a
        obtain ⟨b0, b1⟩ := tmod_bound n 1099511627777 (by decide)
        generalize hm : Int.tmod n 1099511627777 = m at b0 b1
        have hl : (wr m t).length ≤ 40 := by
          have h1 := trm_dgs_len t (m.natAbs % 10 ^ t)
          have h2 := (frac_len (trm (dgs t (m.natAbs % 10 ^ t)))).1
          have h3 := dec_le20 (m.natAbs / 10 ^ t) (by have := Nat.div_le_self m.natAbs (10 ^ t); omega)
          unfold wr sgn
          rw [List.length_append, List.length_append]
          split <;> simp only [List.length_cons, List.length_nil] <;> omega
        rw [decide_eq_false c3, show (20000000 : Nat) = 19999999 + 1 from rfl, jitneylaw03_DeciBack.j0, if_neg (by decide), hm, write_is _ m t (by omega) (by omega) (by decide)]
        simp only [Option.bind_some]
        rw [cl_nat t (by omega), read_is _ _ _ (by rw [mkB_size]; omega) (by rw [mkB_size]; omega), mkB_data, readL_wr m t t (Nat.le_refl _) (by omega) (by rw [Nat.sub_self]; omega), Nat.sub_self]
        simp only [Option.bind_some, Nat.pow_zero]
        have e1 : m * ((1 : Nat) : Int) = m := Int.mul_one m
        rw [e1, if_pos rfl, show (19999999 : Nat) = 19999998 + 1 from rfl, jitneylaw03_DeciBack.j1, if_neg (by decide), read_is _ a _ (by omega) (by omega)]
        simp only [Option.bind_some]
        have fin : jitneylaw03_DeciBack.j2 19999998 a false = some true := by
          rw [show (19999998 : Nat) = 19999997 + 1 from rfl, jitneylaw03_DeciBack.j2, if_neg (by decide), lines_is]
          simp only [Option.bind_some, outB, List.length_map]
          by_cases c5 : (linesL a.data.toList).2 = 0
          · rw [if_pos c5]
            have hj := lines_join a.data.toList (linesL a.data.toList).1 (by omega) (Prod.ext rfl c5)
            have hlen := (linesL_len a.data.toList).1
            have hE : (⟨#[]⟩ : ByteArray) = mkB [] := rfl
            have h0 : ((0 : Nat) : Int) = 0 := rfl
            have hpb : ∀ p ∈ (linesL a.data.toList).1, p.length ≤ 2000 := by
              intro p hp
              have : p.length + 1 ≤ ((linesL a.data.toList).1.flatMap (fun p => p ++ [10])).length := by
                have hsub : (p ++ [10]).length ≤ ((linesL a.data.toList).1.flatMap (fun p => p ++ [10])).length := by
                  have := List.Sublist.length_le (List.sublist_flatten_of_mem (List.mem_map_of_mem (f := fun p => p ++ [10]) hp))
                  rw [List.flatMap_def]; exact this
                rw [List.length_append, List.length_singleton] at hsub
                exact hsub
              rw [hj] at this
              omega
            have := back_l0 a (linesL a.data.toList).1 (by omega) hpb (by rw [hj, Lib.toList_data]) (by omega) (linesL a.data.toList).1.length 19999997 0 [] (by omega) (by omega) (by rw [List.drop_zero, List.nil_append, hj, Lib.toList_data])
            rw [hE]
            exact this
          · rw [if_neg c5, linesL_bad _ c5]; rfl
        by_cases c4 : (readL a.data.toList (t : Int)).2 = 0
        · have hsh := wr_short a.data.toList t (readL a.data.toList (t : Int)).1 (by omega) (Prod.ext rfl c4)
          have hbd : -9223372036854775808 ≤ (readL a.data.toList (t : Int)).1 ∧ (readL a.data.toList (t : Int)).1 ≤ 9223372036854775807 := by
            unfold readL told
            split
            · exact ⟨by decide, by decide⟩
            · split
              · split
                · exact ⟨by decide, by decide⟩
                · split <;> constructor <;> simp only <;> omega
              · exact ⟨by decide, by decide⟩
          rw [if_pos c4, write_is _ _ _ hbd.1 hbd.2 (by decide)]
          simp only [Option.bind_some]
          rw [cl_nat t (by omega), decide_eq_false (by rw [mkB_size]; omega)]
          exact fin
        · rw [if_neg c4]
          exact fin
/-! ### as the rows ask -/
theorem linesLaw (a b : ByteArray) (_ : a.size ≤ maxLen) (_ : b.size ≤ maxLen) : ∃ k, jitneylaw03_DeciLines.f k a b = some true := deciLines_law a b
theorem scalesLaw (n s : Int) (_ : (Lit.int .i64 n).wf = true) (h : (Lit.int .i64 s).wf = true) : ∃ k, jitneylaw03_DeciScales.f k n s = some true := deciScales_law n s (wfA h).1 (wfA h).2
theorem backLaw (n s : Int) (a : ByteArray) (_ : (Lit.int .i64 n).wf = true) (_ : (Lit.int .i64 s).wf = true) (_ : a.size ≤ maxLen) : ∃ k, jitneylaw03_DeciBack.f k n s a = some true := deciBack_law n s a
end Go.Proofs.YtfhpppibiemhkaaDoor.P
