/- The pieces of a text between bytes of one kind; words and lines: what the program and the document's loops tell. -/
import Derived.Test.YtfhpppibiemhkaaDoorBase
import Derived.Test.YtfhpppibiemhkaaDoorP13
import Derived.Test.YtfhpppibiemhkaaDoorP14
namespace Go.Proofs.YtfhpppibiemhkaaDoor.P
open Go Go.Proofs.YtfhpppibiemhkaaDoorR
open Go.RowKit Go.Proofs.YtfhpppibiemhkaaDoorW.PrintWords Go.Proofs.YtfhpppibiemhkaaDoorW.PrintLast Go.Proofs.YtfhpppibiemhkaaDoorW.PrintMore
def pcs (c : UInt8) : List UInt8 → List (List UInt8)
  | [] => [[]]
  | x :: t => if x = c then [] :: pcs c t else (x :: (pcs c t).headD []) :: (pcs c t).tail
theorem pcs_cons (c : UInt8) (l : List UInt8) : ∃ h q, pcs c l = h :: q := by
  cases l with
  | nil => exact ⟨[], [], rfl⟩
  | cons x t => unfold pcs; split <;> exact ⟨_, _, rfl⟩
theorem pcs_ne {c x : UInt8} (hx : x ≠ c) (t h : List UInt8) (q : List (List UInt8)) (e : pcs c t = h :: q) : pcs c (x :: t) = (x :: h) :: q := by
  unfold pcs
  rw [if_neg hx, e]; rfl
theorem pcs_eq (c : UInt8) (t : List UInt8) : pcs c (c :: t) = [] :: pcs c t := by
  rw [pcs, if_pos rfl]
theorem pcs_index (c : UInt8) : ∀ l : List UInt8, (Lib.indexByte l c = -1 ∧ pcs c l = [l] ∧ l.count c = 0) ∨ ∃ i : Nat, Lib.indexByte l c = i ∧ pcs c l = l.take i :: pcs c (l.drop (i + 1)) ∧ l.count c = (l.drop (i + 1)).count c + 1 := by
  intro l
  induction l with
  | nil => left; exact ⟨rfl, rfl, rfl⟩
  | cons x t ih =>
    by_cases hx : x = c
    · right
      subst hx
      exact ⟨0, by simp [Lib.indexByte], by rw [pcs_eq]; rfl, by simp⟩
    · have hb : (x == c) = false := beq_eq_false_iff_ne.2 hx
      rcases ih with ⟨h1, h2, h3⟩ | ⟨i, h1, h2, h3⟩
      · left
        exact ⟨by simp [Lib.indexByte, hb, h1], pcs_ne hx t t [] h2, by rw [List.count_cons_of_ne (by exact hx)]; exact h3⟩
      · right
        refine ⟨i + 1, ?_, ?_, ?_⟩
        · rw [Lib.indexByte, hb, if_neg (by decide), h1, if_neg (by simp)]; simp
        · exact pcs_ne hx t _ _ h2
        · rw [List.count_cons_of_ne (by exact hx)]; exact h3
theorem splitK_pcs (c : UInt8) : ∀ (k : Nat) (l : List UInt8), l.count c = k → Lib.splitK [c] 0 k l = pcs c l := by
  intro k
  induction k with
  | zero =>
    intro l h
    rcases pcs_index c l with ⟨_, h2, _⟩ | ⟨i, _, _, h3⟩
    · rw [h2]; rfl
    · omega
  | succ k ih =>
    intro l h
    rcases pcs_index c l with ⟨_, _, h3⟩ | ⟨i, h1, h2, h3⟩
    · omega
    · have hi : Lib.index l [c] = (i : Int) := by rw [Lib.index_one]; exact h1
      unfold Lib.splitK
      rw [hi, if_neg (by simp), h2, ← ih (l.drop (i + 1)) (by omega)]
      simp
theorem split_is (a : ByteArray) (c : UInt8) (ha : a.size < 4294967281) : strings_Split.f a (⟨#[c]⟩ : ByteArray) = some ((pcs c a.data.toList).map mkB) := by
  unfold strings_Split.f
  rw [if_pos ⟨rfl, ha⟩]
  congr 1
  have h := Lib.splitB_data (⟨#[c]⟩ : ByteArray) 0 (Lib.countB a ⟨#[c]⟩) a
  have e : (⟨#[c]⟩ : ByteArray).data.toList = [c] := rfl
  rw [e, splitK_pcs c _ _ (by rw [countB_one]; rfl)] at h
  rw [← h, List.map_map]
  symm
  have : (mkB ∘ fun x : ByteArray => x.data.toList) = id := by funext x; exact mkB_of x
  rw [this, List.map_id]
theorem pcs_len (c : UInt8) (l : List UInt8) : (pcs c l).length ≤ l.length + 1 ∧ ∀ p ∈ pcs c l, p.length ≤ l.length := by
  induction l with
  | nil => exact ⟨Nat.le_refl _, by intro p hp; simp [pcs] at hp; subst hp; exact Nat.le_refl _⟩
  | cons x t ih =>
    obtain ⟨h, q, e⟩ := pcs_cons c t
    by_cases hx : x = c
    · subst hx
      rw [pcs_eq]
      refine ⟨by simp only [List.length_cons]; omega, ?_⟩
      intro p hp
      rcases List.mem_cons.1 hp with rfl | hp
      · exact Nat.zero_le _
      · have := ih.2 p hp; simp only [List.length_cons]; omega
    · rw [pcs_ne hx t h q e]
      rw [e] at ih
      refine ⟨by have := ih.1; simp only [List.length_cons] at this ⊢; omega, ?_⟩
      intro p hp
      rcases List.mem_cons.1 hp with rfl | hp
      · have := ih.2 h (List.mem_cons_self ..); simp only [List.length_cons]; omega
      · have := ih.2 p (List.mem_cons_of_mem _ hp); simp only [List.length_cons]; omega
theorem pcs_app (c : UInt8) (m t : List UInt8) : pcs c (m ++ c :: t) = pcs c m ++ pcs c t := by
  induction m with
  | nil => rw [List.nil_append, pcs_eq]; rfl
  | cons x m ih =>
    obtain ⟨h, q, e⟩ := pcs_cons c m
    by_cases hx : x = c
    · subst hx
      rw [List.cons_append, pcs_eq, pcs_eq, ih]; rfl
    · rw [List.cons_append, pcs_ne hx _ h (q ++ pcs c t) (by rw [ih, e]; rfl), pcs_ne hx m h q e]; rfl
theorem pcs_join (c : UInt8) (m : List UInt8) : (pcs c m).flatMap (fun p => p ++ [c]) = m ++ [c] := by
  induction m with
  | nil => rfl
  | cons x m ih =>
    obtain ⟨h, q, e⟩ := pcs_cons c m
    rw [e] at ih
    by_cases hx : x = c
    · subst hx
      rw [pcs_eq, e, List.flatMap_cons, ih]; rfl
    · rw [pcs_ne hx m h q e]
      rw [List.flatMap_cons] at ih ⊢
      rw [List.cons_append, List.cons_append, ih]; rfl
theorem pcs_glue (c : UInt8) : ∀ (m h : List UInt8) (q : List (List UInt8)), pcs c m = h :: q → h ++ q.flatMap (fun p => c :: p) = m := by
  intro m
  induction m with
  | nil => intro h q e; cases e; rfl
  | cons x m ih =>
    intro h q e
    obtain ⟨h', q', e'⟩ := pcs_cons c m
    have := ih h' q' e'
    by_cases hx : x = c
    · subst hx
      rw [pcs_eq, e'] at e
      cases e
      rw [List.nil_append, List.flatMap_cons, List.cons_append, this]
    · rw [pcs_ne hx m h' q' e'] at e
      cases e
      rw [List.cons_append, this]
theorem pcs_last (c x : UInt8) (hx : x ≠ c) (m : List UInt8) : ∃ i z, pcs c (m ++ [x]) = i ++ [z] ∧ z ≠ [] := by
  induction m with
  | nil => exact ⟨[], [x], by rw [List.nil_append, pcs_ne hx [] [] [] rfl]; rfl, by simp⟩
  | cons y m ih =>
    obtain ⟨i, z, e, hz⟩ := ih
    by_cases hy : y = c
    · subst hy
      exact ⟨[] :: i, z, by rw [List.cons_append, pcs_eq, e]; rfl, hz⟩
    · cases i with
      | nil => exact ⟨[], y :: z, by rw [List.cons_append, pcs_ne hy _ z [] e]; rfl, by simp⟩
      | cons h i => exact ⟨(y :: h) :: i, z, by rw [List.cons_append, pcs_ne hy _ h (i ++ [z]) e]; rfl, hz⟩
/-! ### words -/
def wordsL (l : List UInt8) : List (List UInt8) × Int := if l = [] then ([], 0) else if (pcs 32 l).all wordB = true then (pcs 32 l, 0) else ([], 21)
theorem words_loop (x4 : List ByteArray) (ps : List (List UInt8)) (n : Nat) (hn : n ≤ 1000000) (hp : ps.length ≤ 2000000) (hb : ∀ p ∈ ps, p.length ≤ n) : ∀ (d k i : Nat), i + d = ps.length → d + n + 1 < k → deci_Words.l0 k x4 (ps.map mkB) (ps.length : Int) (i : Int) = some (if (ps.drop i).all wordB = true then (x4, 0) else ([], 21)) := by
  intro d
  induction d with
  | zero =>
    intro k i h hk
    obtain ⟨k, rfl⟩ : ∃ m, k = m + 1 := ⟨k - 1, by omega⟩
    rw [deci_Words.l0, if_neg (by omega), List.drop_eq_nil_of_le (by omega), List.all_nil, if_pos rfl]
  | succ d ih =>
    intro k i h hk
    obtain ⟨k, rfl⟩ : ∃ m, k = m + 1 := ⟨k - 1, by omega⟩
    have hi : i < ps.length := by omega
    have hrd : rdOf ByteArray.empty (ps.map mkB) (i : Int) = mkB ps[i] := by
      unfold rdOf
      rw [Int.toNat_natCast, List.getD_eq_getElem?_getD, List.getElem?_map, List.getElem?_eq_getElem hi]; rfl
    have hlen := hb ps[i] (List.getElem_mem hi)
    rw [deci_Words.l0, if_pos (by omega), if_pos (by omega), if_pos (by rw [List.length_map]; omega), hrd, word_is k _ (by rw [mkB_size]; omega) (by rw [mkB_size]; omega), mkB_data]
    simp only [Option.bind_some]
    rw [wrap_nat (by omega), ih k (i + 1) (by omega) (by omega), List.drop_eq_getElem_cons hi, List.all_cons]
    cases wordB ps[i]
    · rfl
    · rw [if_pos rfl, Bool.true_and]
def outB (r : List (List UInt8) × Int) : List ByteArray × Int := (r.1.map mkB, r.2)
theorem words_is (k : Nat) (a : ByteArray) (ha : a.size ≤ 100000) (hk : 2 * a.size + 10 < k) : deci_Words.f k a = some (outB (wordsL a.data.toList)) := by
  have hsz := Lib.size_eq a
  unfold deci_Words.f wordsL
  rw [Lib.toList_data]
  by_cases c : a.data.toList = []
  · rw [if_pos c, if_pos c]; rfl
  · rw [if_neg c, if_neg c, split_is a 32 (by omega)]
    simp only [Option.bind_some]
    obtain ⟨p1, p2⟩ := pcs_len 32 a.data.toList
    rw [List.length_map]
    have := words_loop ((pcs 32 a.data.toList).map mkB) (pcs 32 a.data.toList) a.data.toList.length (by omega) (by omega) p2 (pcs 32 a.data.toList).length k 0 (by omega) (by omega)
    rw [List.drop_zero] at this
    have h0 : ((0 : Nat) : Int) = 0 := rfl
    rw [h0] at this
    rw [this]
    split <;> rfl
theorem cur_step (l : List UInt8) (f i : Nat) (x : UInt8) (hf : f ≤ i) (h : l.drop i = x :: l.drop (i + 1)) : (l.drop f).take (i + 1 - f) = (l.drop f).take (i - f) ++ [x] := by
  have hl : i < l.length := by
    rcases Nat.lt_or_ge i l.length with h1 | h1
    · exact h1
    · rw [List.drop_eq_nil_of_le h1] at h; cases h
  have hx : (l.drop f)[i - f]'(by rw [List.length_drop]; omega) = x := by
    rw [List.getElem_drop]
    have : l.drop i = l[i] :: l.drop (i + 1) := List.drop_eq_getElem_cons hl
    rw [this] at h
    have := (List.cons.inj h).1
    simp only [show f + (i - f) = i by omega]
    exact this
  rw [show i + 1 - f = (i - f) + 1 by omega, List.take_succ_eq_append_getElem (by rw [List.length_drop]; omega), hx]
theorem ext_cur (a : ByteArray) (f i : Nat) : a.extract ((f : Int)).toNat ((i : Int)).toNat = mkB ((a.data.toList.drop f).take (i - f)) := by
  rw [Lib.extract_eq]; rfl
def pre (cur : List UInt8) (ps : List (List UInt8)) : List (List UInt8) := (cur ++ ps.headD []) :: ps.tail
theorem pre_cons (cur h : List UInt8) (q : List (List UInt8)) : pre cur (h :: q) = (cur ++ h) :: q := rfl
def finW (out : List ByteArray) (r : List (List UInt8)) : List ByteArray × Int := if r.all wordB = true then (out ++ r.map mkB, 0) else ([], 21)
theorem finW_good (out : List ByteArray) (h : List UInt8) (q : List (List UInt8)) (hw : wordB h = true) : finW out (h :: q) = finW (out ++ [mkB h]) q := by
  unfold finW
  rw [List.all_cons, hw, Bool.true_and, List.map_cons, List.append_assoc]; rfl
theorem finW_bad (out : List ByteArray) (h : List UInt8) (q : List (List UInt8)) (hw : wordB h = false) : finW out (h :: q) = ([], 21) := by
  unfold finW
  rw [List.all_cons, hw, Bool.false_and, if_neg (by decide)]
theorem refWords_loop (a : ByteArray) (ha : a.size ≤ 100000) : ∀ (d k i f : Nat) (out : List ByteArray), i + d = a.size → f ≤ i → out.length ≤ i → 3 * d + 10 ≤ k → ((a.data.toList.drop f).take (i - f)).all isChr = true →
    jitneyref03_Words.l0 k a out (f : Int) (i : Int) = some (finW out (pre ((a.data.toList.drop f).take (i - f)) (pcs 32 (a.data.toList.drop i)))) := by
  have hsz := Lib.size_eq a
  have hcl : ∀ f i : Nat, f ≤ i → i ≤ a.size → ((a.data.toList.drop f).take (i - f)).length = i - f := by
    intro f i h1 h2
    rw [List.length_take, List.length_drop]; omega
  intro d
  induction d with
  | zero =>
    intro k i f out h hf ho hk hc
    obtain ⟨k, rfl⟩ : ∃ m, k = m + 3 := ⟨k - 3, by omega⟩
    rw [jitneyref03_Words.l0, if_pos (by omega), if_neg (by omega), drop_end a i (by omega), jitneyref03_Words.j1, if_neg (by decide)]
    have hp : pcs 32 ([] : List UInt8) = [[]] := rfl
    have hlen := hcl f i hf (by omega)
    rw [hp, pre_cons, List.append_nil]
    by_cases c : i = f
    · subst c
      rw [if_pos rfl, Nat.sub_self, List.take_zero, finW_bad _ _ _ (by decide)]
    · have hw : wordB ((a.data.toList.drop f).take (i - f)) = true := by
        unfold wordB
        rw [hc, Bool.true_and]
        exact decide_eq_true (fun e => by rw [e] at hlen; simp at hlen; omega)
      rw [if_neg (by omega), if_pos (by omega), if_pos (by omega), if_pos (by omega), if_pos (by omega), wrap_nat (by omega), jitneyref03_Words.l0, if_neg (by omega), finW_good _ _ _ hw, ext_cur]
      unfold finW
      simp
  | succ d ih =>
    intro k i f out h hf ho hk hc
    obtain ⟨k, rfl⟩ : ∃ m, k = m + 3 := ⟨k - 3, by omega⟩
    obtain ⟨x, hx, hb⟩ := bt_drop a i (by omega)
    have hcs := cur_step a.data.toList f i x hf hx
    have hlen := hcl f i hf (by omega)
    obtain ⟨h', q', e'⟩ := pcs_cons 32 (a.data.toList.drop (i + 1))
    rw [jitneyref03_Words.l0, if_pos (by omega), if_pos (by omega), if_pos (by omega), hb, hx]
    by_cases c : x = 32
    · have hcx : ((x.toNat : Int) != 32) = false := by rw [c]; rfl
      rw [hcx, jitneyref03_Words.j1, if_neg (by decide), c, pcs_eq, pre_cons, List.append_nil]
      by_cases c2 : i = f
      · subst c2
        rw [if_pos rfl, Nat.sub_self, List.take_zero, finW_bad _ _ _ (by decide)]
      · have hw : wordB ((a.data.toList.drop f).take (i - f)) = true := by
          unfold wordB
          rw [hc, Bool.true_and]
          exact decide_eq_true (fun e => by rw [e] at hlen; simp at hlen; omega)
        rw [if_neg (by omega), if_pos (by omega), if_pos (by omega), if_pos (by omega), if_pos (by omega), wrap_nat (by omega), ext_cur, finW_good _ _ _ hw]
        have := ih (k + 1) (i + 1) (i + 1) (out ++ [mkB ((a.data.toList.drop f).take (i - f))]) (by omega) (Nat.le_refl _) (by rw [List.length_append, List.length_singleton]; omega) (by omega) (by rw [Nat.sub_self]; rfl)
        rw [this, Nat.sub_self, List.take_zero, e', pre_cons, List.nil_append]
    · have hcx : ((x.toNat : Int) != 32) = true := by
        rw [bne_iff_ne]
        intro h
        apply c
        apply UInt8.toNat_inj.1
        have : x.toNat = 32 := by omega
        rw [this]; rfl
      rw [hcx, jitneyref03_Words.j1, if_pos rfl, if_pos (by omega), if_pos (by omega), pcs_ne c _ h' q' e', hb, pre_cons]
      have hbad : isChr x = false → wordB ((a.data.toList.drop f).take (i - f) ++ x :: h') = false := by
        intro hx0
        unfold wordB
        rw [List.all_append, List.all_cons, hx0, Bool.false_and, Bool.and_false, Bool.false_and]
      by_cases c1 : (x.toNat : Int) < 33
      · have e : isChr x = false := decide_eq_false (by omega)
        rw [if_pos c1, jitneyref03_Words.j2, if_pos rfl, finW_bad _ _ _ (hbad e)]
      · rw [if_neg c1]
        by_cases c2 : (x.toNat : Int) > 126
        · have e : isChr x = false := decide_eq_false (by omega)
          rw [decide_eq_true c2, jitneyref03_Words.j2, if_pos rfl, finW_bad _ _ _ (hbad e)]
        · have e : isChr x = true := decide_eq_true (by omega)
          rw [decide_eq_false c2, jitneyref03_Words.j2, if_neg (by decide), wrap_nat (by omega)]
          have := ih k (i + 1) f out (by omega) (by omega) (by omega) (by omega) (by rw [hcs, List.all_append, hc]; simp [e])
          rw [this, hcs, e', pre_cons, List.append_assoc]; rfl
theorem refWords_is (k : Nat) (a : ByteArray) (ha : a.size ≤ 100000) (hk : 3 * a.size + 20 < k) : jitneyref03_Words.f k a = some (outB (wordsL a.data.toList)) := by
  unfold jitneyref03_Words.f wordsL
  simp only [Option.bind_some]
  rw [Lib.toList_data]
  by_cases c : a.data.toList = []
  · rw [if_pos c, if_pos c]; rfl
  · rw [if_neg c, if_neg c]
    have := refWords_loop a ha a.size k 0 0 [] (by omega) (Nat.le_refl _) (Nat.zero_le _) (by omega) rfl
    obtain ⟨h', q', e'⟩ := pcs_cons 32 a.data.toList
    rw [Nat.sub_self, List.take_zero, List.drop_zero, e', pre_cons, List.nil_append] at this
    have h0 : ((0 : Nat) : Int) = 0 := rfl
    rw [h0] at this
    rw [this, e']
    unfold finW
    split
    · rw [List.nil_append]; rfl
    · rfl
/-! ### lines -/
def linesL (l : List UInt8) : List (List UInt8) × Int := if l.length > 1048576 then ([], 2) else if (pcs 10 l).getLastD [] = [] then ((pcs 10 l).dropLast, 0) else ([], 20)
theorem linesL_nil : linesL [] = ([], 0) := rfl
theorem linesL_ends (m : List UInt8) (h : m.length + 1 ≤ 1048576) : linesL (m ++ [10]) = (pcs 10 m, 0) := by
  unfold linesL
  rw [if_neg (by rw [List.length_append, List.length_singleton]; omega), pcs_app]
  have e : pcs 10 ([] : List UInt8) = [[]] := rfl
  rw [e, if_pos (by simp)]
  simp
theorem linesL_short (m : List UInt8) (x : UInt8) (hx : x ≠ 10) (h : m.length + 1 ≤ 1048576) : linesL (m ++ [x]) = ([], 20) := by
  unfold linesL
  obtain ⟨i, z, e, hz⟩ := pcs_last 10 x hx m
  rw [if_neg (by rw [List.length_append, List.length_singleton]; omega), e, if_neg (by simp [hz])]
theorem snoc_or (l : List UInt8) : l = [] ∨ ∃ i x, l = i ++ [x] := by
  rcases List.eq_nil_or_concat l with h | ⟨i, x, h⟩
  · exact .inl h
  · exact .inr ⟨i, x, by rw [h]; simp⟩
theorem cutSuffix_is (a : ByteArray) (ha : a.size ≤ 1048576) : (a.data.toList = [] ∧ strings_CutSuffix.f a (⟨#[10]⟩ : ByteArray) = some (a, false)) ∨ (∃ m, a.data.toList = m ++ [10] ∧ strings_CutSuffix.f a (⟨#[10]⟩ : ByteArray) = some (mkB m, true)) ∨ (∃ m x, x ≠ 10 ∧ a.data.toList = m ++ [x] ∧ strings_CutSuffix.f a (⟨#[10]⟩ : ByteArray) = some (a, false)) := by
  have hsz := Lib.size_eq a
  have e1 : ((⟨#[10]⟩ : ByteArray).size : Int) = 1 := rfl
  have e2 : (⟨#[10]⟩ : ByteArray).toList = [10] := by rw [Lib.toList_data]
  unfold strings_CutSuffix.f stringslite_CutSuffix.f stringslite_HasSuffix.f
  rw [e1, e2]
  rcases snoc_or a.data.toList with h | ⟨m, x, h⟩
  · left
    refine ⟨h, ?_⟩
    rw [h] at hsz
    have h0 : a.size = 0 := hsz
    rw [if_neg (by omega)]
    rfl
  · right
    rw [h, List.length_append, List.length_singleton] at hsz
    have hw : wrap64 ((a.size : Int) - 1) = (m.length : Int) := by unfold wrap64; omega
    rw [hw, if_pos (by omega), if_pos (by omega), if_pos (by omega)]
    have hx : (a.extract ((m.length : Int)).toNat a.size).toList = [x] := by
      rw [Lib.toList_data, Lib.extract_data, h, Int.toNat_natCast, List.drop_left', List.take_of_length_le (by simp; omega)]
      rfl
    rw [hx]
    simp only [Option.bind_some]
    by_cases c : x = 10
    · left
      refine ⟨m, by rw [h, c], ?_⟩
      rw [c, if_pos (by decide), if_pos (by omega), if_pos (by omega)]
      simp only [Option.bind_some]
      congr 2
      rw [Lib.extract_eq, h]
      simp [mkB]
    · right
      refine ⟨m, x, c, h, ?_⟩
      rw [if_neg (by simpa using c)]
      rfl
theorem lines_is (a : ByteArray) : deci_Lines.f a = some (outB (linesL a.data.toList)) := by
  have hsz := Lib.size_eq a
  unfold deci_Lines.f
  by_cases c : (a.size : Int) > 1048576
  · rw [if_pos c]
    unfold linesL
    rw [if_pos (by omega)]; rfl
  · rw [if_neg c, Lib.toList_data]
    rcases cutSuffix_is a (by omega) with ⟨h, e⟩ | ⟨m, h, e⟩ | ⟨m, x, hx, h, e⟩
    · rw [e]
      simp only [Option.bind_some]
      rw [if_pos h, h]; rfl
    · rw [e]
      simp only [Option.bind_some]
      rw [h, List.length_append, List.length_singleton] at hsz
      rw [h, if_neg (by simp)]
      simp only [if_true]
      rw [split_is _ 10 (by rw [mkB_size]; omega), mkB_data, linesL_ends m (by omega)]
      rfl
    · rw [e]
      simp only [Option.bind_some]
      rw [h, List.length_append, List.length_singleton] at hsz
      rw [h, if_neg (by simp), if_neg (by decide), linesL_short m x hx (by omega)]
      rfl
def finL (out : List ByteArray) (r : List (List UInt8)) : List ByteArray × Int := if r.getLastD [] = [] then (out ++ (r.dropLast).map mkB, 0) else ([], 20)
theorem finL_one (out : List ByteArray) (h : List UInt8) : finL out [h] = if h = [] then (out, 0) else ([], 20) := by
  unfold finL
  rw [show [h].getLastD [] = h from rfl, List.dropLast_singleton, List.map_nil, List.append_nil]
theorem finL_more (out : List ByteArray) (h g : List UInt8) (q : List (List UInt8)) : finL out (h :: g :: q) = finL (out ++ [mkB h]) (g :: q) := by
  unfold finL
  rw [show (h :: g :: q).getLastD [] = (g :: q).getLastD [] from rfl, List.dropLast_cons_of_ne_nil (by simp), List.map_cons, List.append_assoc]; rfl
theorem refLines_loop (a : ByteArray) (ha : a.size ≤ 1048576) : ∀ (d k i f : Nat) (out : List ByteArray), i + d = a.size → f ≤ i → out.length ≤ i → d + 10 ≤ k →
    jitneyref03_Lines.l0 k a out (f : Int) (i : Int) = some (finL out (pre ((a.data.toList.drop f).take (i - f)) (pcs 10 (a.data.toList.drop i)))) := by
  have hsz := Lib.size_eq a
  have hcl : ∀ f i : Nat, f ≤ i → i ≤ a.size → ((a.data.toList.drop f).take (i - f)).length = i - f := by
    intro f i h1 h2
    rw [List.length_take, List.length_drop]; omega
  intro d
  induction d with
  | zero =>
    intro k i f out h hf ho hk
    obtain ⟨k, rfl⟩ : ∃ m, k = m + 1 := ⟨k - 1, by omega⟩
    have hp : pcs 10 ([] : List UInt8) = [[]] := rfl
    rw [jitneyref03_Lines.l0, if_neg (by omega), drop_end a i (by omega), hp, pre_cons, List.append_nil, finL_one]
    have hlen := hcl f i hf (by omega)
    by_cases c : (f : Int) < (a.size : Int)
    · rw [if_pos c, if_neg (fun e => by rw [e] at hlen; simp at hlen; omega)]
    · rw [if_neg c, show i - f = 0 by omega, List.take_zero, if_pos rfl]
  | succ d ih =>
    intro k i f out h hf ho hk
    obtain ⟨k, rfl⟩ : ∃ m, k = m + 1 := ⟨k - 1, by omega⟩
    obtain ⟨x, hx, hb⟩ := bt_drop a i (by omega)
    have hcs := cur_step a.data.toList f i x hf hx
    obtain ⟨h', q', e'⟩ := pcs_cons 10 (a.data.toList.drop (i + 1))
    rw [jitneyref03_Lines.l0, if_pos (by omega), if_pos (by omega), hb, hx]
    by_cases c : x = 10
    · have hcx : (x.toNat : Int) = 10 := by rw [c]; rfl
      rw [if_pos hcx, c, pcs_eq, if_pos (by omega), if_pos (by omega), if_pos (by omega), if_pos (by omega), wrap_nat (by omega), ext_cur]
      have := ih k (i + 1) (i + 1) (out ++ [mkB ((a.data.toList.drop f).take (i - f))]) (by omega) (Nat.le_refl _) (by rw [List.length_append, List.length_singleton]; omega) (by omega)
      rw [this, Nat.sub_self, List.take_zero, e', pre_cons, pre_cons, List.append_nil, List.nil_append, finL_more]
    · have hcx : ¬ (x.toNat : Int) = 10 := by
        intro h
        apply c
        apply UInt8.toNat_inj.1
        have : x.toNat = 10 := by omega
        rw [this]; rfl
      rw [if_neg hcx, pcs_ne c _ h' q' e', wrap_nat (by omega)]
      have := ih k (i + 1) f out (by omega) (by omega) (by omega) (by omega)
      rw [this, hcs, e', pre_cons, pre_cons, List.append_assoc]; rfl
theorem refLines_is (k : Nat) (a : ByteArray) (hk : a.size + 20 < k ∨ a.size > 1048576) : jitneyref03_Lines.f k a = some (outB (linesL a.data.toList)) := by
  have hsz := Lib.size_eq a
  unfold jitneyref03_Lines.f linesL
  by_cases c : (a.size : Int) > 1048576
  · rw [if_pos c, if_pos (by omega)]; rfl
  · rw [if_neg c, if_neg (by omega)]
    have := refLines_loop a (by omega) a.size k 0 0 [] (by omega) (Nat.le_refl _) (Nat.zero_le _) (by omega)
    obtain ⟨h', q', e'⟩ := pcs_cons 10 a.data.toList
    rw [Nat.sub_self, List.take_zero, List.drop_zero, e', pre_cons, List.nil_append] at this
    have h0 : ((0 : Nat) : Int) = 0 := rfl
    rw [h0] at this
    rw [this, e']
    unfold finL
    split
    · rw [List.nil_append]; rfl
    · rfl
/-! ### the same texts -/
theorem same_loop (xs : List ByteArray) (hn : xs.length ≤ 1000000000) : ∀ (d k i : Nat), i + d = xs.length → d < k → jitneyref03_Same.l0 k xs xs (i : Int) = some true := by
  intro d
  induction d with
  | zero =>
    intro k i h hk
    obtain ⟨k, rfl⟩ : ∃ m, k = m + 1 := ⟨k - 1, by omega⟩
    rw [jitneyref03_Same.l0, if_neg (by omega)]
  | succ d ih =>
    intro k i h hk
    obtain ⟨k, rfl⟩ : ∃ m, k = m + 1 := ⟨k - 1, by omega⟩
    rw [jitneyref03_Same.l0, if_pos (by omega), if_pos (by omega), if_pos (by omega), if_pos rfl, wrap_nat (by omega), ih k (i + 1) (by omega) (by omega)]
theorem same_is (k : Nat) (xs : List ByteArray) (hn : xs.length ≤ 1000000000) (hk : xs.length < k) : jitneyref03_Same.f k xs xs = some true := by
  unfold jitneyref03_Same.f
  rw [if_pos rfl]
  exact same_loop xs hn xs.length k 0 (by omega) hk
theorem outB_len (r : List (List UInt8) × Int) : (outB r).1.length = r.1.length := by simp [outB]
theorem wordsL_len (l : List UInt8) : (wordsL l).1.length ≤ l.length + 1 := by
  unfold wordsL
  split
  · exact Nat.zero_le _
  · split
    · exact (pcs_len 32 l).1
    · exact Nat.zero_le _
theorem linesL_len (l : List UInt8) : (linesL l).1.length ≤ l.length + 1 ∧ (l.length > 1048576 → (linesL l).1.length = 0) := by
  unfold linesL
  split
  · exact ⟨Nat.zero_le _, fun _ => rfl⟩
  · split
    · refine ⟨?_, fun h => absurd h (by omega)⟩
      rw [List.length_dropLast]
      have := (pcs_len 10 l).1
      omega
    · exact ⟨Nat.zero_le _, fun _ => rfl⟩
end Go.Proofs.YtfhpppibiemhkaaDoor.P
