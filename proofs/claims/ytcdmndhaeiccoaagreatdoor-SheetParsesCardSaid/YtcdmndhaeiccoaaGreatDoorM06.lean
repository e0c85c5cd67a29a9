/- The pieces of a text between bytes of one kind; words and lines: what the program and the document's loops tell. Whole numbers: both readings (seat 03's text). How great the float root of a whole number up to 2^60 is: cut towards zero it is at most 2^31. Plain facts on Ieee. Floats that stand for whole numbers below 2^53: their arithmetic is exact. Plain facts on Ieee. What the functions of the package spot give, for words of float64 that stand for whole numbers (seat 02's text, turned to this seat's numbers); the document's Of and spotOf. The reader of a sheet: what each of its methods gives back, or gives up with. -/
import Derived.Test.YtcdmndhaeiccoaaGreatDoorMkit
import Derived.Test.YtcdmndhaeiccoaaGreatDoorM05
import Derived.Laws.FloatArith
import Derived.Laws.Externs
import Derived.Laws.ComplexArith
import Derived.Laws.BitsAllLaws
import Derived.Test.YtcdmndhaeiccoaaGreatDoorM00
import Derived.WalkLawsBesides
import Derived.Recover
namespace Go.Proofs.YtcdmndhaeiccoaaGreatDoor.P
open Go Go.Proofs.YtcdmndhaeiccoaaGreatDoorR
open Go.RowKit Go.Proofs.YtcdmndhaeiccoaaGreatDoorW.PrintWords Go.Proofs.YtcdmndhaeiccoaaGreatDoorW.PrintLast
def pcs (c : UInt8) : List UInt8 → List (List UInt8)
  | [] => [[]]
  | x :: t => if x = c then [] :: pcs c t else (x :: (pcs c t).headD []) :: (pcs c t).tail
theorem pcs_cons (c : UInt8) (l : List UInt8) : ∃ h q, pcs c l = h :: q := by
  cases l with
  | nil => exact ⟨[], [], rfl⟩
  | cons x t => unfold pcs; split <;> exact ⟨_, _, rfl⟩
theorem pcs_ne {c x : UInt8} (hx : x ≠ c) (t h : List UInt8) (q : List (List UInt8)) (e : pcs c t = h :: q) : pcs c (x :: t) = (x :: h) :: q := by
  unfold pcs
  rw [if_neg hx, e]; rfl
theorem pcs_eq (c : UInt8) (t : List UInt8) : pcs c (c :: t) = [] :: pcs c t := by
  rw [pcs, if_pos rfl]
theorem pcs_index (c : UInt8) : ∀ l : List UInt8, (Lib.indexByte l c = -1 ∧ pcs c l = [l] ∧ l.count c = 0) ∨ ∃ i : Nat, Lib.indexByte l c = i ∧ pcs c l = l.take i :: pcs c (l.drop (i + 1)) ∧ l.count c = (l.drop (i + 1)).count c + 1 := by
  intro l
  induction l with
  | nil => left; exact ⟨rfl, rfl, rfl⟩
  | cons x t ih =>
    by_cases hx : x = c
    · right
      subst hx
      exact ⟨0, by simp [Lib.indexByte], by rw [pcs_eq]; rfl, by simp⟩
    · have hb : (x == c) = false := beq_eq_false_iff_ne.2 hx
      rcases ih with ⟨h1, h2, h3⟩ | ⟨i, h1, h2, h3⟩
      · left
        exact ⟨by simp [Lib.indexByte, hb, h1], pcs_ne hx t t [] h2, by rw [List.count_cons_of_ne (by exact hx)]; exact h3⟩
      · right
        refine ⟨i + 1, ?_, ?_, ?_⟩
        · rw [Lib.indexByte, hb, if_neg (by decide), h1, if_neg (by simp)]; simp
        · exact pcs_ne hx t _ _ h2
        · rw [List.count_cons_of_ne (by exact hx)]; exact h3
theorem splitK_pcs (c : UInt8) : ∀ (k : Nat) (l : List UInt8), l.count c = k → Lib.splitK [c] 0 k l = pcs c l := by
  intro k
  induction k with
  | zero =>
    intro l h
    rcases pcs_index c l with ⟨_, h2, _⟩ | ⟨i, _, _, h3⟩
    · rw [h2]; rfl
    · omega
  | succ k ih =>
    intro l h
    rcases pcs_index c l with ⟨_, _, h3⟩ | ⟨i, h1, h2, h3⟩
    · omega
    · have hi : Lib.index l [c] = (i : Int) := by rw [Lib.index_one]; exact h1
      unfold Lib.splitK
      rw [hi, if_neg (by simp), h2, ← ih (l.drop (i + 1)) (by omega)]
      simp
theorem split_is (a : ByteArray) (c : UInt8) (ha : a.size < 4294967281) : strings_Split.f a (⟨#[c]⟩ : ByteArray) = some ((pcs c a.data.toList).map mkB) := by
  unfold strings_Split.f
  rw [if_pos ⟨rfl, ha⟩]
  congr 1
  have h := Lib.splitB_data (⟨#[c]⟩ : ByteArray) 0 (Lib.countB a ⟨#[c]⟩) a
  have e : (⟨#[c]⟩ : ByteArray).data.toList = [c] := rfl
  rw [e, splitK_pcs c _ _ (by rw [countB_one]; rfl)] at h
  rw [← h, List.map_map]
  symm
  have : (mkB ∘ fun x : ByteArray => x.data.toList) = id := by funext x; exact mkB_of x
  rw [this, List.map_id]
theorem pcs_len (c : UInt8) (l : List UInt8) : (pcs c l).length ≤ l.length + 1 ∧ ∀ p ∈ pcs c l, p.length ≤ l.length := by
  induction l with
  | nil => exact ⟨Nat.le_refl _, by intro p hp; simp [pcs] at hp; subst hp; exact Nat.le_refl _⟩
  | cons x t ih =>
    obtain ⟨h, q, e⟩ := pcs_cons c t
    by_cases hx : x = c
    · subst hx
      rw [pcs_eq]
      refine ⟨by simp only [List.length_cons]; omega, ?_⟩
      intro p hp
      rcases List.mem_cons.1 hp with rfl | hp
      · exact Nat.zero_le _
      · have := ih.2 p hp; simp only [List.length_cons]; omega
    · rw [pcs_ne hx t h q e]
      rw [e] at ih
      refine ⟨by have := ih.1; simp only [List.length_cons] at this ⊢; omega, ?_⟩
      intro p hp
      rcases List.mem_cons.1 hp with rfl | hp
      · have := ih.2 h (List.mem_cons_self ..); simp only [List.length_cons]; omega
      · have := ih.2 p (List.mem_cons_of_mem _ hp); simp only [List.length_cons]; omega
theorem pcs_app (c : UInt8) (m t : List UInt8) : pcs c (m ++ c :: t) = pcs c m ++ pcs c t := by
  induction m with
  | nil => rw [List.nil_append, pcs_eq]; rfl
  | cons x m ih =>
    obtain ⟨h, q, e⟩ := pcs_cons c m
    by_cases hx : x = c
    · subst hx
      rw [List.cons_append, pcs_eq, pcs_eq, ih]; rfl
    · rw [List.cons_append, pcs_ne hx _ h (q ++ pcs c t) (by rw [ih, e]; rfl), pcs_ne hx m h q e]; rfl
theorem pcs_last (c x : UInt8) (hx : x ≠ c) (m : List UInt8) : ∃ i z, pcs c (m ++ [x]) = i ++ [z] ∧ z ≠ [] := by
  induction m with
  | nil => exact ⟨[], [x], by rw [List.nil_append, pcs_ne hx [] [] [] rfl]; rfl, by simp⟩
  | cons y m ih =>
    obtain ⟨i, z, e, hz⟩ := ih
    by_cases hy : y = c
    · subst hy
      exact ⟨[] :: i, z, by rw [List.cons_append, pcs_eq, e]; rfl, hz⟩
    · cases i with
      | nil => exact ⟨[], y :: z, by rw [List.cons_append, pcs_ne hy _ z [] e]; rfl, by simp⟩
      | cons h i => exact ⟨(y :: h) :: i, z, by rw [List.cons_append, pcs_ne hy _ h (i ++ [z]) e]; rfl, hz⟩
/-! ### words -/
def wordsL (l : List UInt8) : List (List UInt8) × Int := if l = [] then ([], 0) else if (pcs 32 l).all wordB = true then (pcs 32 l, 0) else ([], 21)
theorem words_loop (x4 : List ByteArray) (ps : List (List UInt8)) (n : Nat) (hn : n ≤ 1000000) (hp : ps.length ≤ 2000000) (hb : ∀ p ∈ ps, p.length ≤ n) : ∀ (d k i : Nat), i + d = ps.length → d + n + 1 < k → deci_Words.l0 k x4 (ps.map mkB) (ps.length : Int) (i : Int) = some (if (ps.drop i).all wordB = true then (x4, 0) else ([], 21)) := by
  intro d
  induction d with
  | zero =>
    intro k i h hk
    obtain ⟨k, rfl⟩ : ∃ m, k = m + 1 := ⟨k - 1, by omega⟩
    rw [deci_Words.l0, if_neg (by omega), List.drop_eq_nil_of_le (by omega), List.all_nil, if_pos rfl]
  | succ d ih =>
    intro k i h hk
    obtain ⟨k, rfl⟩ : ∃ m, k = m + 1 := ⟨k - 1, by omega⟩
    have hi : i < ps.length := by omega
    have hrd : rdOf ByteArray.empty (ps.map mkB) (i : Int) = mkB ps[i] := by
      unfold rdOf
      rw [Int.toNat_natCast, List.getD_eq_getElem?_getD, List.getElem?_map, List.getElem?_eq_getElem hi]; rfl
    have hlen := hb ps[i] (List.getElem_mem hi)
    rw [deci_Words.l0, if_pos (by omega), if_pos (by omega), if_pos (by rw [List.length_map]; omega), hrd, word_is k _ (by rw [mkB_size]; omega) (by rw [mkB_size]; omega), mkB_data]
    simp only [Option.bind_some]
    rw [wrap_nat (by omega), ih k (i + 1) (by omega) (by omega), List.drop_eq_getElem_cons hi, List.all_cons]
    cases wordB ps[i]
    · rfl
    · rw [if_pos rfl, Bool.true_and]
def outB (r : List (List UInt8) × Int) : List ByteArray × Int := (r.1.map mkB, r.2)
theorem words_is (k : Nat) (a : ByteArray) (ha : a.size ≤ 100000) (hk : 2 * a.size + 10 < k) : deci_Words.f k a = some (outB (wordsL a.data.toList)) := by
  have hsz := Lib.size_eq a
  unfold deci_Words.f wordsL
  rw [Lib.toList_data]
  by_cases c : a.data.toList = []
  · rw [if_pos c, if_pos c]; rfl
  · rw [if_neg c, if_neg c, split_is a 32 (by omega)]
    simp only [Option.bind_some]
    obtain ⟨p1, p2⟩ := pcs_len 32 a.data.toList
    rw [List.length_map]
    have := words_loop ((pcs 32 a.data.toList).map mkB) (pcs 32 a.data.toList) a.data.toList.length (by omega) (by omega) p2 (pcs 32 a.data.toList).length k 0 (by omega) (by omega)
    rw [List.drop_zero] at this
    have h0 : ((0 : Nat) : Int) = 0 := rfl
    rw [h0] at this
    rw [this]
    split <;> rfl
theorem cur_step (l : List UInt8) (f i : Nat) (x : UInt8) (hf : f ≤ i) (h : l.drop i = x :: l.drop (i + 1)) : (l.drop f).take (i + 1 - f) = (l.drop f).take (i - f) ++ [x] := by
  have hl : i < l.length := by
    rcases Nat.lt_or_ge i l.length with h1 | h1
    · exact h1
    · rw [List.drop_eq_nil_of_le h1] at h; cases h
  have hx : (l.drop f)[i - f]'(by rw [List.length_drop]; omega) = x := by
    rw [List.getElem_drop]
    have : l.drop i = l[i] :: l.drop (i + 1) := List.drop_eq_getElem_cons hl
    rw [this] at h
    have := (List.cons.inj h).1
    simp only [show f + (i - f) = i by omega]
    exact this
  rw [show i + 1 - f = (i - f) + 1 by omega, List.take_succ_eq_append_getElem (by rw [List.length_drop]; omega), hx]
theorem ext_cur (a : ByteArray) (f i : Nat) : a.extract ((f : Int)).toNat ((i : Int)).toNat = mkB ((a.data.toList.drop f).take (i - f)) := by
  rw [Lib.extract_eq]; rfl
def pre (cur : List UInt8) (ps : List (List UInt8)) : List (List UInt8) := (cur ++ ps.headD []) :: ps.tail
theorem pre_cons (cur h : List UInt8) (q : List (List UInt8)) : pre cur (h :: q) = (cur ++ h) :: q := rfl
def finW (out : List ByteArray) (r : List (List UInt8)) : List ByteArray × Int := if r.all wordB = true then (out ++ r.map mkB, 0) else ([], 21)
theorem finW_good (out : List ByteArray) (h : List UInt8) (q : List (List UInt8)) (hw : wordB h = true) : finW out (h :: q) = finW (out ++ [mkB h]) q := by
  unfold finW
  rw [List.all_cons, hw, Bool.true_and, List.map_cons, List.append_assoc]; rfl
theorem finW_bad (out : List ByteArray) (h : List UInt8) (q : List (List UInt8)) (hw : wordB h = false) : finW out (h :: q) = ([], 21) := by
  unfold finW
  rw [List.all_cons, hw, Bool.false_and, if_neg (by decide)]
theorem refWords_loop (a : ByteArray) (ha : a.size ≤ 100000) : ∀ (d k i f : Nat) (out : List ByteArray), i + d = a.size → f ≤ i → out.length ≤ i → 3 * d + 10 ≤ k → ((a.data.toList.drop f).take (i - f)).all isChr = true →
    jitneyref03_Words.l0 k a out (f : Int) (i : Int) = some (finW out (pre ((a.data.toList.drop f).take (i - f)) (pcs 32 (a.data.toList.drop i)))) := by
  have hsz := Lib.size_eq a
  have hcl : ∀ f i : Nat, f ≤ i → i ≤ a.size → ((a.data.toList.drop f).take (i - f)).length = i - f := by
    intro f i h1 h2
    rw [List.length_take, List.length_drop]; omega
  intro d
  induction d with
  | zero =>
    intro k i f out h hf ho hk hc
    obtain ⟨k, rfl⟩ : ∃ m, k = m + 3 := ⟨k - 3, by omega⟩
    rw [jitneyref03_Words.l0, if_pos (by omega), if_neg (by omega), drop_end a i (by omega), jitneyref03_Words.j1, if_neg (by decide)]
    have hp : pcs 32 ([] : List UInt8) = [[]] := rfl
    have hlen := hcl f i hf (by omega)
    rw [hp, pre_cons, List.append_nil]
    by_cases c : i = f
    · subst c
      rw [if_pos rfl, Nat.sub_self, List.take_zero, finW_bad _ _ _ (by decide)]
    · have hw : wordB ((a.data.toList.drop f).take (i - f)) = true := by
        unfold wordB
        rw [hc, Bool.true_and]
        exact decide_eq_true (fun e => by rw [e] at hlen; simp at hlen; omega)
      rw [if_neg (by omega), if_pos (by omega), if_pos (by omega), if_pos (by omega), if_pos (by omega), wrap_nat (by omega), jitneyref03_Words.l0, if_neg (by omega), finW_good _ _ _ hw, ext_cur]
      unfold finW
      simp
  | succ d ih =>
    intro k i f out h hf ho hk hc
    obtain ⟨k, rfl⟩ : ∃ m, k = m + 3 := ⟨k - 3, by omega⟩
    obtain ⟨x, hx, hb⟩ := bt_drop a i (by omega)
    have hcs := cur_step a.data.toList f i x hf hx
    have hlen := hcl f i hf (by omega)
    obtain ⟨h', q', e'⟩ := pcs_cons 32 (a.data.toList.drop (i + 1))
    rw [jitneyref03_Words.l0, if_pos (by omega), if_pos (by omega), if_pos (by omega), hb, hx]
    by_cases c : x = 32
    · have hcx : ((x.toNat : Int) != 32) = false := by rw [c]; rfl
      rw [hcx, jitneyref03_Words.j1, if_neg (by decide), c, pcs_eq, pre_cons, List.append_nil]
      by_cases c2 : i = f
      · subst c2
        rw [if_pos rfl, Nat.sub_self, List.take_zero, finW_bad _ _ _ (by decide)]
      · have hw : wordB ((a.data.toList.drop f).take (i - f)) = true := by
          unfold wordB
          rw [hc, Bool.true_and]
          exact decide_eq_true (fun e => by rw [e] at hlen; simp at hlen; omega)
        rw [if_neg (by omega), if_pos (by omega), if_pos (by omega), if_pos (by omega), if_pos (by omega), wrap_nat (by omega), ext_cur, finW_good _ _ _ hw]
        have := ih (k + 1) (i + 1) (i + 1) (out ++ [mkB ((a.data.toList.drop f).take (i - f))]) (by omega) (Nat.le_refl _) (by rw [List.length_append, List.length_singleton]; omega) (by omega) (by rw [Nat.sub_self]; rfl)
        rw [this, Nat.sub_self, List.take_zero, e', pre_cons, List.nil_append]
    · have hcx : ((x.toNat : Int) != 32) = true := by
        rw [bne_iff_ne]
        intro h
        apply c
        apply UInt8.toNat_inj.1
        have : x.toNat = 32 := by omega
        rw [this]; rfl
      rw [hcx, jitneyref03_Words.j1, if_pos rfl, if_pos (by omega), if_pos (by omega), pcs_ne c _ h' q' e', hb, pre_cons]
      have hbad : isChr x = false → wordB ((a.data.toList.drop f).take (i - f) ++ x :: h') = false := by
        intro hx0
        unfold wordB
        rw [List.all_append, List.all_cons, hx0, Bool.false_and, Bool.and_false, Bool.false_and]
      by_cases c1 : (x.toNat : Int) < 33
      · have e : isChr x = false := decide_eq_false (by omega)
        rw [if_pos c1, jitneyref03_Words.j2, if_pos rfl, finW_bad _ _ _ (hbad e)]
      · rw [if_neg c1]
        by_cases c2 : (x.toNat : Int) > 126
        · have e : isChr x = false := decide_eq_false (by omega)
          rw [decide_eq_true c2, jitneyref03_Words.j2, if_pos rfl, finW_bad _ _ _ (hbad e)]
        · have e : isChr x = true := decide_eq_true (by omega)
          rw [decide_eq_false c2, jitneyref03_Words.j2, if_neg (by decide), wrap_nat (by omega)]
          have := ih k (i + 1) f out (by omega) (by omega) (by omega) (by omega) (by rw [hcs, List.all_append, hc]; simp [e])
          rw [this, hcs, e', pre_cons, List.append_assoc]; rfl
theorem refWords_is (k : Nat) (a : ByteArray) (ha : a.size ≤ 100000) (hk : 3 * a.size + 20 < k) : jitneyref03_Words.f k a = some (outB (wordsL a.data.toList)) := by
  unfold jitneyref03_Words.f wordsL
  simp only [Option.bind_some]
  rw [Lib.toList_data]
  by_cases c : a.data.toList = []
  · rw [if_pos c, if_pos c]; rfl
  · rw [if_neg c, if_neg c]
    have := refWords_loop a ha a.size k 0 0 [] (by omega) (Nat.le_refl _) (Nat.zero_le _) (by omega) rfl
    obtain ⟨h', q', e'⟩ := pcs_cons 32 a.data.toList
    rw [Nat.sub_self, List.take_zero, List.drop_zero, e', pre_cons, List.nil_append] at this
    have h0 : ((0 : Nat) : Int) = 0 := rfl
    rw [h0] at this
    rw [this, e']
    unfold finW
    split
    · rw [List.nil_append]; rfl
    · rfl
/-! ### lines -/
def linesL (l : List UInt8) : List (List UInt8) × Int := if l.length > 1048576 then ([], 2) else if (pcs 10 l).getLastD [] = [] then ((pcs 10 l).dropLast, 0) else ([], 20)
theorem linesL_nil : linesL [] = ([], 0) := rfl
theorem linesL_ends (m : List UInt8) (h : m.length + 1 ≤ 1048576) : linesL (m ++ [10]) = (pcs 10 m, 0) := by
  unfold linesL
  rw [if_neg (by rw [List.length_append, List.length_singleton]; omega), pcs_app]
  have e : pcs 10 ([] : List UInt8) = [[]] := rfl
  rw [e, if_pos (by simp)]
  simp
theorem linesL_short (m : List UInt8) (x : UInt8) (hx : x ≠ 10) (h : m.length + 1 ≤ 1048576) : linesL (m ++ [x]) = ([], 20) := by
  unfold linesL
  obtain ⟨i, z, e, hz⟩ := pcs_last 10 x hx m
  rw [if_neg (by rw [List.length_append, List.length_singleton]; omega), e, if_neg (by simp [hz])]
theorem snoc_or (l : List UInt8) : l = [] ∨ ∃ i x, l = i ++ [x] := by
  rcases List.eq_nil_or_concat l with h | ⟨i, x, h⟩
  · exact .inl h
  · exact .inr ⟨i, x, by rw [h]; simp⟩
theorem cutSuffix_is (a : ByteArray) (ha : a.size ≤ 1048576) : (a.data.toList = [] ∧ strings_CutSuffix.f a (⟨#[10]⟩ : ByteArray) = some (a, false)) ∨ (∃ m, a.data.toList = m ++ [10] ∧ strings_CutSuffix.f a (⟨#[10]⟩ : ByteArray) = some (mkB m, true)) ∨ (∃ m x, x ≠ 10 ∧ a.data.toList = m ++ [x] ∧ strings_CutSuffix.f a (⟨#[10]⟩ : ByteArray) = some (a, false)) := by
  have hsz := Lib.size_eq a
  have e1 : ((⟨#[10]⟩ : ByteArray).size : Int) = 1 := rfl
  have e2 : (⟨#[10]⟩ : ByteArray).toList = [10] := by rw [Lib.toList_data]
  unfold strings_CutSuffix.f stringslite_CutSuffix.f stringslite_HasSuffix.f
  rw [e1, e2]
  rcases snoc_or a.data.toList with h | ⟨m, x, h⟩
  · left
    refine ⟨h, ?_⟩
    rw [h] at hsz
    have h0 : a.size = 0 := hsz
    rw [if_neg (by omega)]
    rfl
  · right
    rw [h, List.length_append, List.length_singleton] at hsz
    have hw : wrap64 ((a.size : Int) - 1) = (m.length : Int) := by unfold wrap64; omega
    rw [hw, if_pos (by omega), if_pos (by omega), if_pos (by omega)]
    have hx : (a.extract ((m.length : Int)).toNat a.size).toList = [x] := by
      rw [Lib.toList_data, Lib.extract_data, h, Int.toNat_natCast, List.drop_left', List.take_of_length_le (by simp; omega)]
      rfl
    rw [hx]
    simp only [Option.bind_some]
    by_cases c : x = 10
    · left
      refine ⟨m, by rw [h, c], ?_⟩
      rw [c, if_pos (by decide), if_pos (by omega), if_pos (by omega)]
      simp only [Option.bind_some]
      congr 2
      rw [Lib.extract_eq, h]
      simp [mkB]
    · right
      refine ⟨m, x, c, h, ?_⟩
      rw [if_neg (by simpa using c)]
      rfl
theorem lines_is (a : ByteArray) : deci_Lines.f a = some (outB (linesL a.data.toList)) := by
  have hsz := Lib.size_eq a
  unfold deci_Lines.f
  by_cases c : (a.size : Int) > 1048576
  · rw [if_pos c]
    unfold linesL
    rw [if_pos (by omega)]; rfl
  · rw [if_neg c, Lib.toList_data]
    rcases cutSuffix_is a (by omega) with ⟨h, e⟩ | ⟨m, h, e⟩ | ⟨m, x, hx, h, e⟩
    · rw [e]
      simp only [Option.bind_some]
      rw [if_pos h, h]; rfl
    · rw [e]
      simp only [Option.bind_some]
      rw [h, List.length_append, List.length_singleton] at hsz
      rw [h, if_neg (by simp)]
      simp only [if_true]
      rw [split_is _ 10 (by rw [mkB_size]; omega), mkB_data, linesL_ends m (by omega)]
      rfl
    · rw [e]
      simp only [Option.bind_some]
      rw [h, List.length_append, List.length_singleton] at hsz
      rw [h, if_neg (by simp), if_neg (by decide), linesL_short m x hx (by omega)]
      rfl
def finL (out : List ByteArray) (r : List (List UInt8)) : List ByteArray × Int := if r.getLastD [] = [] then (out ++ (r.dropLast).map mkB, 0) else ([], 20)
theorem finL_one (out : List ByteArray) (h : List UInt8) : finL out [h] = if h = [] then (out, 0) else ([], 20) := by
  unfold finL
  rw [show [h].getLastD [] = h from rfl, List.dropLast_singleton, List.map_nil, List.append_nil]
theorem finL_more (out : List ByteArray) (h g : List UInt8) (q : List (List UInt8)) : finL out (h :: g :: q) = finL (out ++ [mkB h]) (g :: q) := by
  unfold finL
  rw [show (h :: g :: q).getLastD [] = (g :: q).getLastD [] from rfl, List.dropLast_cons_of_ne_nil (by simp), List.map_cons, List.append_assoc]; rfl
theorem refLines_loop (a : ByteArray) (ha : a.size ≤ 1048576) : ∀ (d k i f : Nat) (out : List ByteArray), i + d = a.size → f ≤ i → out.length ≤ i → d + 10 ≤ k →
    jitneyref03_Lines.l0 k a out (f : Int) (i : Int) = some (finL out (pre ((a.data.toList.drop f).take (i - f)) (pcs 10 (a.data.toList.drop i)))) := by
  have hsz := Lib.size_eq a
  have hcl : ∀ f i : Nat, f ≤ i → i ≤ a.size → ((a.data.toList.drop f).take (i - f)).length = i - f := by
    intro f i h1 h2
    rw [List.length_take, List.length_drop]; omega
  intro d
  induction d with
  | zero =>
    intro k i f out h hf ho hk
    obtain ⟨k, rfl⟩ : ∃ m, k = m + 1 := ⟨k - 1, by omega⟩
    have hp : pcs 10 ([] : List UInt8) = [[]] := rfl
    rw [jitneyref03_Lines.l0, if_neg (by omega), drop_end a i (by omega), hp, pre_cons, List.append_nil, finL_one]
    have hlen := hcl f i hf (by omega)
    by_cases c : (f : Int) < (a.size : Int)
    · rw [if_pos c, if_neg (fun e => by rw [e] at hlen; simp at hlen; omega)]
    · rw [if_neg c, show i - f = 0 by omega, List.take_zero, if_pos rfl]
  | succ d ih =>
    intro k i f out h hf ho hk
    obtain ⟨k, rfl⟩ : ∃ m, k = m + 1 := ⟨k - 1, by omega⟩
    obtain ⟨x, hx, hb⟩ := bt_drop a i (by omega)
    have hcs := cur_step a.data.toList f i x hf hx
    obtain ⟨h', q', e'⟩ := pcs_cons 10 (a.data.toList.drop (i + 1))
    rw [jitneyref03_Lines.l0, if_pos (by omega), if_pos (by omega), hb, hx]
    by_cases c : x = 10
    · have hcx : (x.toNat : Int) = 10 := by rw [c]; rfl
      rw [if_pos hcx, c, pcs_eq, if_pos (by omega), if_pos (by omega), if_pos (by omega), if_pos (by omega), wrap_nat (by omega), ext_cur]
      have := ih k (i + 1) (i + 1) (out ++ [mkB ((a.data.toList.drop f).take (i - f))]) (by omega) (Nat.le_refl _) (by rw [List.length_append, List.length_singleton]; omega) (by omega)
      rw [this, Nat.sub_self, List.take_zero, e', pre_cons, pre_cons, List.append_nil, List.nil_append, finL_more]
    · have hcx : ¬ (x.toNat : Int) = 10 := by
        intro h
        apply c
        apply UInt8.toNat_inj.1
        have : x.toNat = 10 := by omega
        rw [this]; rfl
      rw [if_neg hcx, pcs_ne c _ h' q' e', wrap_nat (by omega)]
      have := ih k (i + 1) f out (by omega) (by omega) (by omega) (by omega)
      rw [this, hcs, e', pre_cons, pre_cons, List.append_assoc]; rfl
theorem refLines_is (k : Nat) (a : ByteArray) (hk : a.size + 20 < k ∨ a.size > 1048576) : jitneyref03_Lines.f k a = some (outB (linesL a.data.toList)) := by
  have hsz := Lib.size_eq a
  unfold jitneyref03_Lines.f linesL
  by_cases c : (a.size : Int) > 1048576
  · rw [if_pos c, if_pos (by omega)]; rfl
  · rw [if_neg c, if_neg (by omega)]
    have := refLines_loop a (by omega) a.size k 0 0 [] (by omega) (Nat.le_refl _) (Nat.zero_le _) (by omega)
    obtain ⟨h', q', e'⟩ := pcs_cons 10 a.data.toList
    rw [Nat.sub_self, List.take_zero, List.drop_zero, e', pre_cons, List.nil_append] at this
    have h0 : ((0 : Nat) : Int) = 0 := rfl
    rw [h0] at this
    rw [this, e']
    unfold finL
    split
    · rw [List.nil_append]; rfl
    · rfl
/-! ### the same texts -/
theorem linesL_len (l : List UInt8) : (linesL l).1.length ≤ l.length + 1 ∧ (l.length > 1048576 → (linesL l).1.length = 0) := by
  unfold linesL
  split
  · exact ⟨Nat.zero_le _, fun _ => rfl⟩
  · split
    · refine ⟨?_, fun h => absurd h (by omega)⟩
      rw [List.length_dropLast]
      have := (pcs_len 10 l).1
      omega
    · exact ⟨Nat.zero_le _, fun _ => rfl⟩
end Go.Proofs.YtcdmndhaeiccoaaGreatDoor.P
namespace Go.Proofs.YtcdmndhaeiccoaaGreatDoor.P
open Go Go.Proofs.YtcdmndhaeiccoaaGreatDoorR
open Go.RowKit Go.Proofs.YtcdmndhaeiccoaaGreatDoorW.PrintWords Go.Proofs.YtcdmndhaeiccoaaGreatDoorW.PrintLast
theorem head_bt (a : ByteArray) (x : UInt8) (t : List UInt8) (h : a.data.toList = x :: t) : bt a 0 = (x.toNat : Int) ∧ a.size = t.length + 1 := by
  have hsz := Lib.size_eq a
  rw [h, List.length_cons] at hsz
  obtain ⟨y, hy, hb⟩ := bt_drop a 0 (by omega)
  rw [List.drop_zero, h] at hy
  have := (List.cons.inj hy).1
  subst this
  exact ⟨hb, hsz⟩
def wholeL (l : List UInt8) : Int × Int := if l = [] ∨ neg l = true ∨ (l.length > 1 ∧ l.head? = some 48) then (0, 21) else readL l 0
theorem read_empty : readL [] 0 = (0, 21) := by decide +kernel
theorem nat_byte {x : UInt8} {n : Nat} (hn : n < 256) : (x.toNat : Int) = (n : Int) ↔ x = UInt8.ofNat n := by
  constructor
  · intro h
    apply UInt8.toNat_inj.1
    rw [UInt8.toNat_ofNat']
    omega
  · intro h
    rw [h, UInt8.toNat_ofNat']
    omega
theorem whole_is (k : Nat) (a : ByteArray) (ha : a.size ≤ 1000000) (hk : a.size + 40 < k) : deci_Whole.f k a = some (wholeL a.data.toList) := by
  have hp := hasPrefix_is a 45
  have hr := read_is k a 0 ha (by omega)
  have hneg : (a.data.toList.head? == some 45) = neg a.data.toList := rfl
  unfold deci_Whole.f wholeL
  rw [hp, hneg, hr]
  simp only [Option.bind_some]
  cases hl : a.data.toList with
  | nil =>
    have hsz := Lib.size_eq a
    rw [hl] at hsz
    have h0 : a.size = 0 := hsz
    rw [if_neg (by omega), if_neg (show ¬ neg [] = true by decide), read_empty, if_pos (show ([] : List UInt8) = [] ∨ _ from .inl rfl)]
  | cons x t =>
    obtain ⟨hb, hsz⟩ := head_bt a x t hl
    by_cases hn : neg (x :: t) = true
    · have hc : (x :: t) = [] ∨ neg (x :: t) = true ∨ ((x :: t).length > 1 ∧ (x :: t).head? = some 48) := .inr (.inl hn)
      rw [if_pos hc, hn]
      simp only [if_true]
      by_cases c1 : (a.size : Int) > 1
      · rw [if_pos c1, if_pos (by omega)]
        split <;> rfl
      · rw [if_neg c1]
    · have hf : neg (x :: t) = false := by simpa using hn
      rw [hf]
      simp only [Bool.false_eq_true, if_false]
      by_cases c1 : (a.size : Int) > 1
      · rw [if_pos c1, if_pos (by omega), hb]
        by_cases c2 : x = 48
        · have hx : (x.toNat : Int) = 48 := by rw [c2]; rfl
          rw [if_pos hx, if_pos (.inr (.inr ⟨by simp only [List.length_cons]; omega, by rw [c2]; rfl⟩))]
        · have hx : ¬ (x.toNat : Int) = 48 := fun h => c2 ((nat_byte (n := 48) (by decide)).1 h)
          rw [if_neg hx, if_neg]
          rintro (h | h | h)
          · cases h
          · cases h
          · exact c2 (Option.some.inj h.2)
      · rw [if_neg c1, if_neg]
        rintro (h | h | h)
        · cases h
        · cases h
        · simp only [List.length_cons] at h; omega
theorem refWhole_is (k : Nat) (a : ByteArray) (ha : a.size ≤ 1000000) (hk : 3 * a.size + 40 < k) : jitneyref03_Whole.f k a = some (wholeL a.data.toList) := by
  have hr := refRead_is k a 0 ha (by omega)
  unfold jitneyref03_Whole.f wholeL
  rw [hr, Lib.toList_data]
  simp only [Option.bind_some]
  cases hl : a.data.toList with
  | nil => rw [if_pos rfl, if_pos (.inl rfl)]
  | cons x t =>
    obtain ⟨hb, hsz⟩ := head_bt a x t hl
    rw [if_neg (by simp), if_pos (by omega), hb]
    by_cases c0 : x = 45
    · have hx : (x.toNat : Int) = 45 := by rw [c0]; rfl
      rw [if_pos hx, if_pos (.inr (.inl (by rw [c0]; rfl)))]
    · have hx : ¬ (x.toNat : Int) = 45 := fun h => c0 ((nat_byte (n := 45) (by decide)).1 h)
      have hf : ¬ neg (x :: t) = true := by
        unfold neg
        rw [List.head?_cons]
        intro h
        exact c0 (Option.some.inj (eq_of_beq h))
      rw [if_neg hx]
      by_cases c1 : (a.size : Int) > 1
      · rw [if_pos c1]
        by_cases c2 : x = 48
        · have hx : (x.toNat : Int) = 48 := by rw [c2]; rfl
          rw [if_pos hx, if_pos (.inr (.inr ⟨by simp only [List.length_cons]; omega, by rw [c2]; rfl⟩))]
        · have hx : ¬ (x.toNat : Int) = 48 := fun h => c2 ((nat_byte (n := 48) (by decide)).1 h)
          rw [if_neg hx, if_neg]
          rintro (h | h | h)
          · cases h
          · exact hf h
          · exact c2 (Option.some.inj h.2)
      · rw [if_neg c1, if_neg]
        rintro (h | h | h)
        · cases h
        · exact hf h
        · simp only [List.length_cons] at h; omega
end Go.Proofs.YtcdmndhaeiccoaaGreatDoor.P
namespace Go.Proofs.YtcdmndhaeiccoaaGreatDoorR
open Ieee Ieee.Datum
theorem fl_log2 {m : Nat} (h : m ≠ 0) : 2 ^ m.log2 ≤ m ∧ m < 2 ^ (m.log2 + 1) := ⟨Nat.log2_self_le h, Nat.lt_log2_self⟩
theorem cut_none (neg : Bool) (n : Nat) : Toward.even.cut neg n 0 = n := by
  unfold Toward.cut
  simp [Nat.mod_one]
theorem cut_zero (neg : Bool) (n drop : Nat) : Toward.zero.cut neg n drop = n / 2 ^ min drop (n.log2 + 2) := by
  unfold Toward.cut
  simp [Nat.one_shiftLeft]
theorem dbl_least : double.leastPlace = -1074 := by decide
theorem dbl_binade : double.binade = 4503599627370496 := by decide
theorem dbl_inf : double.infRung = 9218868437227405312 := by decide
theorem dbl_sign : double.signWeight = 9223372036854775808 := by decide
end Go.Proofs.YtcdmndhaeiccoaaGreatDoorR
namespace Go.Proofs.YtcdmndhaeiccoaaGreatDoorR
open Ieee Ieee.Datum
/-- The number 'm * 2 ^ e' with its sign is the whole number n. -/
def FVal (s : Bool) (m : Nat) (e : Int) (n : Int) : Prop := ∃ k : Nat, n = (if s = true then -(k : Int) else (k : Int)) ∧ m * 2 ^ e.toNat = k * 2 ^ (-e).toNat
/-- A word of float64 stands for the whole number n. -/
def FIs (x : Nat) (n : Int) : Prop := x < 18446744073709551616 ∧ ∃ s m e, double.read x = .number s m e ∧ FVal s m e n
theorem log2_mul_pow {k : Nat} (hk : k ≠ 0) (d : Nat) : (k * 2 ^ d).log2 = k.log2 + d := by
  have h := fl_log2 hk
  have hp := Nat.two_pow_pos d
  rw [Nat.log2_eq_iff (Nat.mul_ne_zero hk (by omega))]
  refine ⟨?_, ?_⟩
  · rw [Nat.pow_add]; exact Nat.mul_le_mul_right _ h.1
  · rw [show k.log2 + d + 1 = (k.log2 + 1) + d by omega, Nat.pow_add]; exact Nat.mul_lt_mul_of_pos_right h.2 hp
theorem log2_val {m k : Nat} {e : Int} (hk : k ≠ 0) (h : m * 2 ^ e.toNat = k * 2 ^ (-e).toNat) : m ≠ 0 ∧ (m.log2 : Int) + e = k.log2 := by
  have hm : m ≠ 0 := by
    rintro rfl
    rw [Nat.zero_mul] at h
    have := Nat.mul_ne_zero hk (Nat.ne_of_gt (Nat.two_pow_pos (-e).toNat))
    omega
  refine ⟨hm, ?_⟩
  have := congrArg Nat.log2 h
  rw [log2_mul_pow hm, log2_mul_pow hk] at this
  omega
theorem cut_exact (neg : Bool) (q d : Nat) (hq : q ≠ 0) : Toward.even.cut neg (q * 2 ^ d) d = q := by
  unfold Toward.cut
  simp only [Nat.one_shiftLeft]
  rw [log2_mul_pow hq, show min d (q.log2 + d + 2) = d by omega, Nat.mul_div_cancel _ (Nat.two_pow_pos d), Nat.mul_mod_left]
  have h := Nat.two_pow_pos d
  simp
theorem cutz_exact (neg : Bool) (q d : Nat) : Toward.zero.cut neg (q * 2 ^ d) d = q := by
  by_cases hq : q = 0
  · subst hq; simp [cut_zero]
  · rw [cut_zero, log2_mul_pow hq, show min d (q.log2 + d + 2) = d by omega, Nat.mul_div_cancel _ (Nat.two_pow_pos d)]
theorem nearest_gens (f : Format) (s : Bool) (m : Nat) (p last : Int) (h : m ≠ 0) (hl : max (p + (m.log2 : Int) - (f.fractionBits : Nat)) f.leastPlace = last) :
    f.nearest s m p = f.word s (min ((last - f.leastPlace).toNat * f.binade + Toward.even.cut s (m <<< (p - last).toNat) (last - p).toNat) f.infRung) := by
  subst hl
  unfold Format.nearest
  rw [if_neg h]
theorem read_gen (f : Format) (w : Nat) (neg : Bool) (rung : Nat) (hn : (w / f.signWeight % 2 == 1) = neg) (hr : w % f.signWeight = rung) (h1 : ¬ rung < f.binade) (h2 : rung < f.infRung) :
    f.read w = .number neg (f.binade + rung % f.binade) (f.leastPlace + (rung / f.binade - 1 : Nat)) := by
  subst hn hr
  unfold Format.read
  simp only
  rw [if_neg h1, if_pos h2]
theorem word_dbl (s : Bool) (r : Nat) : double.word s r = if s = true then 9223372036854775808 + r else r := by
  have hs := dbl_sign
  unfold Format.word
  rw [hs]
theorem read_word (s : Bool) (r : Nat) (h : 4503599627370496 ≤ r) (h2 : r < 9218868437227405312) :
    double.read (double.word s r) = .number s (4503599627370496 + r % 4503599627370496) (-1074 + ((r / 4503599627370496 - 1 : Nat) : Int)) := by
  have hn : (double.word s r / double.signWeight % 2 == 1) = s := by
    rw [word_dbl, dbl_sign]
    cases s
    · rw [if_neg Bool.false_ne_true, Nat.div_eq_of_lt (by omega)]; rfl
    · rw [if_pos rfl, show (9223372036854775808 + r) / 9223372036854775808 = 1 by omega]; rfl
  have hr : double.word s r % double.signWeight = r := by
    rw [word_dbl, dbl_sign]
    cases s
    · rw [if_neg Bool.false_ne_true]; omega
    · rw [if_pos rfl]; omega
  have key := read_gen double (double.word s r) s r hn hr (by rw [dbl_binade]; omega) (by rw [dbl_inf]; omega)
  rw [dbl_binade, dbl_least] at key
  exact key
theorem nearest_zero (f : Format) (s : Bool) (e : Int) : f.nearest s 0 e = f.word s 0 := by
  unfold Format.nearest
  rw [if_pos rfl]
theorem read_zero (s : Bool) (e : Int) : double.read (double.nearest s 0 e) = .number s 0 (-1074) := by
  rw [nearest_zero, word_dbl]
  cases s
  · rw [if_neg Bool.false_ne_true]; decide
  · rw [if_pos rfl]; decide
theorem rung_gen (C l p inf : Nat) (h : (l + 1023) * C + p ≤ inf) : min ((l + 1022) * C + (C + p)) inf = (l + 1023) * C + p := by
  have e : (l + 1022) * C + (C + p) = (l + 1023) * C + p := by
    rw [show l + 1023 = (l + 1022) + 1 from rfl, Nat.add_mul (l + 1022) 1 C, Nat.one_mul, Nat.add_assoc]
  rw [e]
  exact Nat.min_eq_left h
theorem rung_is (l p : Nat) (hl : l ≤ 52) (hp : p < 4503599627370496) :
    min ((l + 1022) * 4503599627370496 + (4503599627370496 + p)) 9218868437227405312 = (l + 1023) * 4503599627370496 + p :=
  rung_gen 4503599627370496 l p 9218868437227405312 (by omega)
theorem rung_div (l p : Nat) (hp : p < 4503599627370496) : ((l + 1023) * 4503599627370496 + p) / 4503599627370496 = l + 1023 := by omega
theorem rung_mod (l p : Nat) (hp : p < 4503599627370496) : ((l + 1023) * 4503599627370496 + p) % 4503599627370496 = p := by omega
theorem rung_read (s : Bool) (l p : Nat) (hl : l ≤ 52) (hp : p < 4503599627370496) :
    double.read (double.word s ((l + 1023) * 4503599627370496 + p)) = .number s (4503599627370496 + p) ((l : Int) - 52) := by
  have key := read_word s ((l + 1023) * 4503599627370496 + p) (by omega) (by omega)
  rw [rung_div l p hp, rung_mod l p hp] at key
  have e : -1074 + ((l + 1023 - 1 : Nat) : Int) = (l : Int) - 52 := by omega
  rw [e] at key
  exact key
/-- What is written of a whole number below 2^53 stands for it. -/
theorem write_exact {s : Bool} {m : Nat} {e n : Int} (h : FVal s m e n) (hb : n.natAbs < 9007199254740992) : FIs (double.nearest s m e) n := by
  refine ⟨double.nearest_lt s m e, ?_⟩
  obtain ⟨k, hn, hk⟩ := h
  have hkb : k < 9007199254740992 := by cases s <;> simp at hn <;> omega
  by_cases hz : k = 0
  · subst hz
    have hm : m = 0 := by
      rw [Nat.zero_mul] at hk
      rcases Nat.mul_eq_zero.1 hk with h | h
      · exact h
      · exact absurd h (Nat.ne_of_gt (Nat.two_pow_pos _))
    subst hm
    exact ⟨s, 0, -1074, read_zero s e, 0, hn, by rw [Nat.zero_mul, Nat.zero_mul]⟩
  · obtain ⟨hm, hlog⟩ := log2_val hz hk
    have hl2 : k.log2 ≤ 52 := by
      have h := (fl_log2 hz).1
      have : ¬ 53 ≤ k.log2 := fun hc => by
        have := Nat.pow_le_pow_right (show 0 < 2 by decide) hc
        omega
      omega
    have hlast : max (e + (m.log2 : Int) - (double.fractionBits : Nat)) double.leastPlace = (k.log2 : Int) - 52 := by
      rw [dbl_least, show ((double.fractionBits : Nat) : Int) = 52 from rfl]
      omega
    have hnear := nearest_gens double s m e _ hm hlast
    rw [dbl_least, dbl_binade, dbl_inf] at hnear
    -- what is kept
    obtain ⟨q, hq⟩ : ∃ q, q = k * 2 ^ (52 - k.log2) := ⟨_, rfl⟩
    have hq0 : q ≠ 0 := by rw [hq]; exact Nat.mul_ne_zero hz (Nat.ne_of_gt (Nat.two_pow_pos _))
    have hq1 : 4503599627370496 ≤ q ∧ q < 9007199254740992 := by
      have h := fl_log2 hz
      have a : 2 ^ k.log2 * 2 ^ (52 - k.log2) ≤ q := by rw [hq]; exact Nat.mul_le_mul_right _ h.1
      have b : q < 2 ^ (k.log2 + 1) * 2 ^ (52 - k.log2) := by rw [hq]; exact Nat.mul_lt_mul_of_pos_right h.2 (Nat.two_pow_pos _)
      rw [← Nat.pow_add] at a b
      rw [show k.log2 + (52 - k.log2) = 52 by omega] at a
      rw [show k.log2 + 1 + (52 - k.log2) = 53 by omega] at b
      omega
    have hcut : Toward.even.cut s (m <<< (e - ((k.log2 : Int) - 52)).toNat) (((k.log2 : Int) - 52) - e).toNat = q := by
      by_cases c : (k.log2 : Int) - 52 ≤ e
      · rw [show (((k.log2 : Int) - 52) - e).toNat = 0 by omega, cut_none, Nat.shiftLeft_eq, hq]
        by_cases ce : 0 ≤ e
        · rw [show (-e).toNat = 0 by omega, Nat.pow_zero, Nat.mul_one] at hk
          rw [← hk, Nat.mul_assoc, ← Nat.pow_add]
          congr 2
          rw [hk]
          omega
        · rw [show e.toNat = 0 by omega, Nat.pow_zero, Nat.mul_one] at hk
          rw [hk, Nat.mul_assoc, ← Nat.pow_add]
          congr 2
          omega
      · rw [show (e - ((k.log2 : Int) - 52)).toNat = 0 by omega, Nat.shiftLeft_zero]
        rw [show e.toNat = 0 by omega, Nat.pow_zero, Nat.mul_one] at hk
        have : m = q * 2 ^ (((k.log2 : Int) - 52) - e).toNat := by
          rw [hk, hq, Nat.mul_assoc, ← Nat.pow_add]
          congr 2
          omega
        rw [this]
        exact cut_exact _ _ _ hq0
    rw [hcut, show ((k.log2 : Int) - 52 - (-1074)).toNat = k.log2 + 1022 by omega] at hnear
    rw [hnear]
    obtain ⟨l, hl⟩ : ∃ l, l = k.log2 := ⟨_, rfl⟩
    rw [← hl] at hl2 hq ⊢
    obtain ⟨p, hp⟩ : ∃ p, q = 4503599627370496 + p := ⟨q - 4503599627370496, by omega⟩
    have hp2 : p < 4503599627370496 := by omega
    rw [hp, rung_is l p hl2 hp2]
    refine ⟨s, _, _, rung_read s l p hl2 hp2, k, hn, ?_⟩
    rw [← hp, hq]
    clear hk hcut hnear hlast hlog hp hq hq1 hp2
    rw [show ((l : Int) - 52).toNat = 0 by omega, Nat.pow_zero, Nat.mul_one]
    congr 2
    omega
theorem nearest_exact (n : Int) (hb : n.natAbs < 9007199254740992) : FIs (FloatKind.f64.nearest n) n := by
  refine write_exact (s := decide (n < 0)) (m := n.natAbs) (e := 0) ⟨n.natAbs, ?_, by simp⟩ hb
  by_cases c : n < 0
  · rw [if_pos (decide_eq_true c)]; omega
  · rw [if_neg (by simpa using c)]; omega
theorem signed_eq (s : Bool) (m up : Nat) : signed s m up = if s = true then -((m * 2 ^ up : Nat) : Int) else ((m * 2 ^ up : Nat) : Int) := by
  unfold signed
  rw [Nat.shiftLeft_eq]
theorem signed_val {s : Bool} {m : Nat} {i a base : Int} (h : FVal s m i a) (hb : base ≤ i) :
    signed s m (i - base).toNat * ((2 ^ base.toNat : Nat) : Int) = a * ((2 ^ (-base).toNat : Nat) : Int) := by
  obtain ⟨k, ha, hk⟩ := h
  have key : m * 2 ^ (i - base).toNat * 2 ^ base.toNat = k * 2 ^ (-base).toNat := by
    by_cases c : 0 ≤ base
    · rw [show (-base).toNat = 0 by omega, Nat.mul_assoc, ← Nat.pow_add, show (i - base).toNat + base.toNat = i.toNat by omega, hk, show (-i).toNat = 0 by omega]
    · rw [show base.toNat = 0 by omega, Nat.pow_zero, Nat.mul_one]
      by_cases d : 0 ≤ i
      · rw [show (-i).toNat = 0 by omega, Nat.pow_zero, Nat.mul_one] at hk
        rw [show (i - base).toNat = i.toNat + (-base).toNat by omega, Nat.pow_add, ← Nat.mul_assoc, hk]
      · rw [show i.toNat = 0 by omega, Nat.pow_zero, Nat.mul_one] at hk
        rw [hk, Nat.mul_assoc, ← Nat.pow_add]
        congr 2
        omega
  rw [signed_eq, ha]
  cases s
  · simp only [Bool.false_eq_true, if_false]
    rw [← Int.natCast_mul, key, Int.natCast_mul]
  · simp only [if_true]
    rw [Int.neg_mul, Int.neg_mul, ← Int.natCast_mul, key, Int.natCast_mul]
theorem fl_order {x y : Nat} {a b : Int} (hx : FIs x a) (hy : FIs y b) : FloatKind.f64.format.order x y = some (compare a b) := by
  obtain ⟨_, s, m, i, e1, v1⟩ := hx
  obtain ⟨_, t, n, j, e2, v2⟩ := hy
  show (double.read x).order (double.read y) = _
  rw [e1, e2]
  show some (compare _ _) = _
  congr 1
  have g1 := signed_val v1 (Int.min_le_left i j)
  have g2 := signed_val v2 (Int.min_le_right i j)
  obtain ⟨A, hA⟩ : ∃ A, A = signed s m (i - min i j).toNat := ⟨_, rfl⟩
  obtain ⟨B, hB⟩ : ∃ B, B = signed t n (j - min i j).toNat := ⟨_, rfl⟩
  rw [← hA] at g1 ⊢
  rw [← hB] at g2 ⊢
  obtain ⟨P, hP⟩ : ∃ P : Int, P = ((2 ^ (min i j).toNat : Nat) : Int) := ⟨_, rfl⟩
  obtain ⟨Q, hQ⟩ : ∃ Q : Int, Q = ((2 ^ (-min i j).toNat : Nat) : Int) := ⟨_, rfl⟩
  have p1 : 0 < P := by have := Nat.two_pow_pos (min i j).toNat; omega
  have q1 : 0 < Q := by have := Nat.two_pow_pos (-min i j).toNat; omega
  rw [← hP, ← hQ] at g1 g2
  have l1 : ∀ {u v : Int}, u < v ↔ u * P < v * P := fun {u v} => ⟨fun h => Int.mul_lt_mul_of_pos_right h p1, fun h => Int.lt_of_mul_lt_mul_right h (Int.le_of_lt p1)⟩
  have l2 : ∀ {u v : Int}, u < v ↔ u * Q < v * Q := fun {u v} => ⟨fun h => Int.mul_lt_mul_of_pos_right h q1, fun h => Int.lt_of_mul_lt_mul_right h (Int.le_of_lt q1)⟩
  have c1 : A < B ↔ a < b := by rw [l1, g1, g2, ← l2]
  have c2 : B < A ↔ b < a := by rw [l1, g1, g2, ← l2]
  show compareOfLessAndEq A B = compareOfLessAndEq a b
  unfold compareOfLessAndEq
  by_cases d1 : a < b
  · rw [if_pos (c1.2 d1), if_pos d1]
  · rw [if_neg (fun h => d1 (c1.1 h)), if_neg d1]
    by_cases d2 : a = b
    · have : A = B := by
        have := mt c2.1 (by omega : ¬ b < a)
        have := mt c1.1 d1
        omega
      rw [if_pos this, if_pos d2]
    · have : A ≠ B := by
        have := c2.2 (by omega : b < a)
        omega
      rw [if_neg this, if_neg d2]
theorem integral_val {s : Bool} {m : Nat} {e n : Int} (h : FVal s m e n) : Datum.integral .zero (.number s m e) = .number s n.natAbs 0 := by
  obtain ⟨k, hn, hk⟩ := h
  have hnk : n.natAbs = k := by cases s <;> simp at hn <;> omega
  unfold Datum.integral
  simp only
  rw [hnk]
  congr 1
  by_cases c : 0 ≤ e
  · rw [show (-e).toNat = 0 by omega, Nat.pow_zero, Nat.mul_one] at hk
    rw [show (-e).toNat = 0 by omega, Nat.shiftLeft_eq, hk]
    have := cutz_exact s k 0
    rw [Nat.pow_zero, Nat.mul_one] at this
    exact this
  · rw [show e.toNat = 0 by omega, Nat.pow_zero, Nat.mul_one] at hk
    rw [show e.toNat = 0 by omega, Nat.shiftLeft_zero, hk]
    exact cutz_exact s k _
theorem fl_toInt {x : Nat} {n : Int} (h : FIs x n) : (FloatKind.f64.decode x).toInt .zero = some n := by
  obtain ⟨_, s, m, e, h1, h2⟩ := h
  show (double.read x).toInt .zero = _
  rw [h1]
  unfold Datum.toInt
  rw [integral_val h2]
  obtain ⟨k, hn, _⟩ := h2
  simp only [signed_eq, Nat.pow_zero, Nat.mul_one]
  cases s <;> simp at hn ⊢ <;> omega
theorem fl_trunc {x : Nat} {n : Int} (h : FIs x n) (hb : n.natAbs < 9007199254740992) : ∃ s m e, FloatKind.f64.decode x = .number s m e ∧ FIs (FloatKind.f64.encode ((Datum.number s m e).integral .zero)) n := by
  obtain ⟨_, s, m, e, h1, h2⟩ := h
  refine ⟨s, m, e, h1, ?_⟩
  rw [integral_val h2]
  obtain ⟨k, hn, _⟩ := h2
  refine write_exact ⟨n.natAbs, ?_, by simp⟩ hb
  cases s <;> simp at hn ⊢ <;> omega
theorem read_sign (f : Format) (w v : Nat) (hr : v % f.signWeight = w % f.signWeight) (b : Bool) (hs : (v / f.signWeight % 2 == 1) = b) (s : Bool) (m : Nat) (e : Int) (h : f.read w = .number s m e) : f.read v = .number b m e := by
  unfold Format.read at h ⊢
  simp only at h ⊢
  rw [hr, hs]
  split at h
  · rename_i c; cases h; rw [if_pos c]
  · rename_i c
    rw [if_neg c]
    split at h
    · rename_i c2; cases h; rw [if_pos c2]
    · split at h <;> cases h
theorem fl_abs {x : Nat} {n : Int} (h : FIs x n) : FIs (x % 9223372036854775808) n.natAbs := by
  obtain ⟨hx, s, m, e, h1, h2⟩ := h
  obtain ⟨k, hn, hk⟩ := h2
  refine ⟨by omega, false, m, e, ?_, k, ?_, hk⟩
  · refine read_sign double x _ (by rw [dbl_sign]; omega) false ?_ s m e h1
    rw [dbl_sign]
    have : x % 9223372036854775808 / 9223372036854775808 = 0 := by omega
    rw [this]
    rfl
  · cases s <;> simp at hn ⊢ <;> omega
end Go.Proofs.YtcdmndhaeiccoaaGreatDoorR
namespace Go.Proofs.YtcdmndhaeiccoaaGreatDoor.P
open Go.Proofs.YtcdmndhaeiccoaaGreatDoorR
open Go.RowKit Go.Proofs.YtcdmndhaeiccoaaGreatDoorW.PrintWords Go.Proofs.YtcdmndhaeiccoaaGreatDoorW.PrintLast
set_option linter.unusedVariables false
set_option linter.unusedSimpArgs false
set_option maxHeartbeats 8000000
set_option maxRecDepth 100000
theorem fis_zero : FIs 0 0 := by
  have h := nearest_exact 0 (by decide)
  exact (show FloatKind.f64.nearest 0 = 0 by decide) ▸ h
theorem fis_max : FIs 4715268809856909312 16777216 := by
  have h := nearest_exact 16777216 (by decide)
  exact (show FloatKind.f64.nearest 16777216 = 4715268809856909312 by decide) ▸ h
theorem andNot_top (x : Nat) (hx : x < 18446744073709551616) : bits .andNot .u64 (x : Int) 9223372036854775808 = ((x % 9223372036854775808 : Nat) : Int) := by
  have h := u64_andNot_nat x 9223372036854775808 hx (by decide)
  have e : (x &&& (18446744073709551615 - 9223372036854775808) : Nat) = x % 9223372036854775808 := Nat.and_two_pow_sub_one_eq_mod x 63
  rw [e] at h
  exact h
theorem math_Float64bits.runs (x : Nat) (w : World) : (callFunc 131 #[.float .f64 x]).run Tryz.prog w = .ok (.value (.int .u64 x)) w :=
  (run_callFunc_extern (fn := Tryz.f131) (e := Extern.MathFloatBits.float64bits) Tryz.func131 (by kernel_rfl) (by kernel_rfl) (by kernel_rfl) (by kernel_rfl) _ w).trans rfl
theorem math_Float64frombits.runs (x : Nat) (w : World) : (callFunc 130 #[.int .u64 x]).run Tryz.prog w = .ok (.value (.float .f64 x)) w := by
  refine (run_callFunc_extern (fn := Tryz.f130) (e := Extern.MathFloatBits.float64frombits) Tryz.func130 (by kernel_rfl) (by kernel_rfl) (by kernel_rfl) (by kernel_rfl) _ w).trans ?_
  rfl
theorem math_Abs.calls (x : Nat) (hx : x < 18446744073709551616) (w : World) : Calls Tryz.prog 105 #[.float .f64 x] w fun e w' => e = .returned (.float .f64 (x % 9223372036854775808)) ∧ w' = w := by
  have h1 := math_Float64bits.runs x
  obtain ⟨y, hy⟩ : ∃ y, y = x % 9223372036854775808 := ⟨_, rfl⟩
  have h2 := andNot_top x hx
  have h3 := math_Float64frombits.runs y
  rw [← hy] at h2 ⊢
  clear hy
  go_enter Tryz.func105, Tryz.ntmps105
  go_wp2
  go_ret
  exact ⟨rfl, rfl⟩
theorem math_archTrunc.runs (x : Nat) (s : Bool) (m : Nat) (e : Int) (h : FloatKind.f64.decode x = .number s m e) (w : World) :
    (callFunc 132 #[.float .f64 x]).run Tryz.prog w = .ok (.value (.float .f64 (FloatKind.f64.encode ((Ieee.Datum.number s m e).integral .zero)))) w := by
  refine (run_callFunc_extern (fn := Tryz.f132) (e := Extern.MathFloor.toIntegral "math.archTrunc" .zero) Tryz.func132 (by kernel_rfl) (by kernel_rfl) (by kernel_rfl) (by kernel_rfl) _ w).trans ?_
  have e : Extern.MathFloor.toIntegral "math.archTrunc" .zero #[.float .f64 x] = (match FloatKind.f64.decode x with
    | .nan s t =>
      if FloatKind.f64.format.quiet t = t then pure (.float .f64 x) else do
      let kept ← choose (.extern "math.Floor,Ceil,Trunc,RoundToEven.signallingNaN kept" 2)
      pure (.float .f64 (if kept == 1 then x else FloatKind.f64.encode (.nan s (FloatKind.f64.format.quiet t))))
    | d => pure (.float .f64 (FloatKind.f64.encode (d.integral .zero)))) := rfl
  rw [e, h]
  rfl
theorem math_Trunc.calls (x y : Nat) (h : ∀ w : World, (callFunc 132 #[.float .f64 x]).run Tryz.prog w = .ok (.value (.float .f64 y)) w) (w : World) :
    Calls Tryz.prog 106 #[.float .f64 x] w fun e w' => e = .returned (.float .f64 y) ∧ w' = w := by
  go_enter Tryz.func106, Tryz.ntmps106
  go_wp2
  go_ret
  exact ⟨rfl, rfl⟩
theorem spot_whole.walk (x y z : Nat) (o1 o2 : Ordering) (hx : x < 18446744073709551616) (hy : y = x % 9223372036854775808)
    (ht : ∀ w : World, (callFunc 132 #[.float .f64 x]).run Tryz.prog w = .ok (.value (.float .f64 z)) w)
    (h1 : FloatKind.f64.format.order y 4715268809856909312 = some o1) (h2 : FloatKind.f64.format.order x z = some o2) (w : World) :
    Calls Tryz.prog 76 #[.float .f64 x] w fun e w' => e = .returned (.bool (!(o1 == .gt) && (o2 == .eq))) ∧ w' = w := by
  have HT := Aside0.mk ht
  have ha := math_Abs.calls x hx
  rw [← hy] at ha
  have HA := Aside0.mk ha
  clear ha hy ht hx
  go_enter Tryz.func76, Tryz.ntmps76
  cases o1 <;> cases o2
  all_goals
    go_wp2_with (first | (go_at_call 105; refine (HA.out _).mono ?_; rintro e w1 ⟨rfl, rfl⟩) | (go_at_call 106; refine (math_Trunc.calls x z HT.out _).mono ?_; rintro e w1 ⟨rfl, rfl⟩))
    go_ret
    exact ⟨rfl, rfl⟩
theorem spot_whole.calls (x : Nat) (n : Int) (hx : FIs x n) (hn : n.natAbs ≤ 16777216) (w : World) : Calls Tryz.prog 76 #[.float .f64 x] w fun e w' => e = .returned (.bool true) ∧ w' = w := by
  obtain ⟨s, m, e, hd, hz⟩ := fl_trunc hx (by omega)
  have o2 := fl_order hx hz
  rw [Int.compare_eq_eq.2 rfl] at o2
  have h := spot_whole.walk x _ _ _ _ hx.1 rfl (math_archTrunc.runs x s m e hd) (fl_order (fl_abs hx) fis_max) o2 w
  have e : (!(compare (n.natAbs : Int) 16777216 == .gt) && (Ordering.eq == .eq)) = true := by
    rcases Nat.lt_or_eq_of_le hn with h | h
    · rw [Int.compare_eq_lt.2 (by omega)]; rfl
    · rw [Int.compare_eq_eq.2 (by omega)]; rfl
  rw [e] at h
  exact h
/-- The bounds of a spot. -/
def InB (a : Int) : Prop := -16777216 ≤ a ∧ a ≤ 16777216
/-- Two words are the parts of the spot (a, b). -/
structure Spot (x y : Nat) (a b : Int) : Prop where
  re : FIs x a
  im : FIs y b
  bre : InB a
  bim : InB b
theorem spot_zero : Spot 0 0 0 0 := ⟨fis_zero, fis_zero, ⟨by decide, by decide⟩, ⟨by decide, by decide⟩⟩
theorem fis_int {n : Int} (h : InB n) : FIs (floatOfInt .f64 n) n := nearest_exact n (by obtain ⟨h1, h2⟩ := h; omega)
theorem spot_Good.calls {x y : Nat} {a b : Int} (h : Spot x y a b) (w : World) : Calls Tryz.prog 39 #[.complex .f64 x y] w fun e w' => e = .returned (.bool true) ∧ w' = w := by
  have H := Aside0.mk h
  have B1 := Aside0.mk (show a.natAbs ≤ 16777216 by obtain ⟨h1, h2⟩ := h.bre; omega)
  have B2 := Aside0.mk (show b.natAbs ≤ 16777216 by obtain ⟨h1, h2⟩ := h.bim; omega)
  clear h
  go_enter Tryz.func39, Tryz.ntmps39
  go_wp2_with (first | (go_at_call 76; with_reducible refine (spot_whole.calls x a H.out.re B1.out _).mono ?_; rintro e w1 ⟨rfl, rfl⟩) | (go_at_call 76; with_reducible refine (spot_whole.calls y b H.out.im B2.out _).mono ?_; rintro e w1 ⟨rfl, rfl⟩))
  go_ret
  exact ⟨rfl, rfl⟩
theorem spot_At.calls (a b : Int) (ha : InB a) (hb : InB b) (w : World) :
    Calls Tryz.prog 61 #[.int .i64 a, .int .i64 b] w fun e w' => e = .returned (.tuple #[.complex .f64 (floatOfInt .f64 a) (floatOfInt .f64 b), .bool true]) ∧ w' = w := by
  obtain ⟨h1, h2⟩ := ha
  obtain ⟨h3, h4⟩ := hb
  have e1 : decide (a < -16777216) = false := by simp; omega
  have e2 : decide (16777216 < a) = false := by simp; omega
  have e3 : decide (b < -16777216) = false := by simp; omega
  have e4 : decide (16777216 < b) = false := by simp; omega
  go_enter Tryz.func61, Tryz.ntmps61
  go_wp2
  go_ret2
  exact ⟨rfl, rfl⟩
theorem spot_XY.calls {x y : Nat} {a b : Int} (h : Spot x y a b) (w : World) :
    Calls Tryz.prog 53 #[.complex .f64 x y] w fun e w' => e = .returned (.tuple #[.int .i64 a, .int .i64 b]) ∧ w' = w := by
  have H := Aside0.mk h
  obtain ⟨h1, h2⟩ := h.bre
  obtain ⟨h3, h4⟩ := h.bim
  have c1 : ∀ w, (convert 127 3 (.float .f64 x)).run Tryz.prog w = .ok (.int .i64 a) w := fun w =>
    run_convert_float_int w 127 3 .f64 .i64 x a (by kernel_rfl) (by kernel_rfl) (by unfold floatToIntVal; rw [fl_toInt h.re]; exact if_pos ⟨by show (-9223372036854775808 : Int) ≤ a; omega, by show a ≤ 9223372036854775807; omega⟩)
  have c2 : ∀ w, (convert 127 3 (.float .f64 y)).run Tryz.prog w = .ok (.int .i64 b) w := fun w =>
    run_convert_float_int w 127 3 .f64 .i64 y b (by kernel_rfl) (by kernel_rfl) (by unfold floatToIntVal; rw [fl_toInt h.im]; exact if_pos ⟨by show (-9223372036854775808 : Int) ≤ b; omega, by show b ≤ 9223372036854775807; omega⟩)
  clear h h1 h2 h3 h4
  go_enter Tryz.func53, Tryz.ntmps53
  go_wp2_with (first | (go_at_call 39; with_reducible refine (spot_Good.calls H.out _).mono ?_; rintro e w1 ⟨rfl, rfl⟩))
  go_ret2
  exact ⟨rfl, rfl⟩
theorem fis_min : FIs 13938640846711685120 (-16777216) := by
  have h := nearest_exact (-16777216) (by decide)
  exact (show FloatKind.f64.nearest (-16777216) = 13938640846711685120 by decide) ▸ h
theorem ref_part.walk (x y : Nat) (n : Int) (o1 o2 : Ordering) (c1 : ∀ w : World, (convert 127 2 (.float .f64 x)).run Tryz.prog w = .ok (.int .i64 n) w) (c2 : ∀ w : World, (convert 2 127 (.int .i64 n)).run Tryz.prog w = .ok (.float .f64 y) w)
    (h1 : FloatKind.f64.format.order x 13938640846711685120 = some o1) (h2 : FloatKind.f64.format.order x 4715268809856909312 = some o2) (h3 : FloatKind.f64.format.order y x = some .eq) (k1 : o1 ≠ .lt) (k2 : o2 ≠ .gt) (w : World) :
    Calls Tryz.prog 80 #[.float .f64 x] w fun e w' => e = .returned (.tuple #[.int .i64 n, .bool true]) ∧ w' = w := by
  go_enter Tryz.func80, Tryz.ntmps80
  cases o1 <;> cases o2
  all_goals first
    | exact absurd rfl k1
    | exact absurd rfl k2
    | (go_wp2
       go_ret2
       exact ⟨rfl, rfl⟩)
theorem ref_part.calls {x : Nat} {n : Int} (h : FIs x n) (hb : InB n) (w : World) : Calls Tryz.prog 80 #[.float .f64 x] w fun e w' => e = .returned (.tuple #[.int .i64 n, .bool true]) ∧ w' = w := by
  obtain ⟨b1, b2⟩ := hb
  refine ref_part.walk x (floatOfInt .f64 n) n _ _ ?_ (fun w => ?_) (fl_order h fis_min) (fl_order h fis_max) ?_ ?_ ?_ w
  · exact fun w => run_convert_float_int w 127 2 .f64 .i64 x n (by kernel_rfl) (by kernel_rfl) (by unfold floatToIntVal; rw [fl_toInt h]; exact if_pos ⟨by show (-9223372036854775808 : Int) ≤ n; omega, by show n ≤ 9223372036854775807; omega⟩)
  · have u2 := Tryz.underlying2
    have u127 := Tryz.underlying127
    go_simp
  · rw [fl_order (fis_int ⟨b1, b2⟩) h, Int.compare_eq_eq.2 rfl]
  · intro hc; rw [Int.compare_eq_lt] at hc; omega
  · intro hc; rw [Int.compare_eq_gt] at hc; omega
theorem ref_Of.calls {x y : Nat} {a b : Int} (h : Spot x y a b) (w : World) :
    Calls Tryz.prog 48 #[.complex .f64 x y] w fun e w' => e = .returned (.agg #[.int .i64 a, .int .i64 b, .bool true]) ∧ Below w.heap.size w w' := by
  have C1 := Aside0.mk (ref_part.calls h.re h.bre)
  have C2 := Aside0.mk (ref_part.calls h.im h.bim)
  clear h
  go_enter Tryz.func48, Tryz.ntmps48
  go_wp2_with (first | (go_at_call 80; with_reducible refine (C1.out _).mono ?_; rintro e w1 ⟨rfl, rfl⟩) | (go_at_call 80; with_reducible refine (C2.out _).mono ?_; rintro e w1 ⟨rfl, rfl⟩))
  refine bodyPost_ret (results_cell_row rfl _ _ w.heap.size 101 #[.int .i64 a, .int .i64 b, .bool true] (0, 0) _ rfl (heap_alloc_new _ _) Tryz.underlying101 rfl (by kernel_rfl)) rfl ?_
  exact ⟨rfl, below_alloc (Below.refl _ _) _⟩
theorem ref_spotOf.calls (a b : Int) (w : World) : Calls Tryz.prog 43 #[.int .i64 a, .int .i64 b] w fun e w' => e = .returned (.complex .f64 (floatOfInt .f64 a) (floatOfInt .f64 b)) ∧ w' = w := by
  go_enter Tryz.func43, Tryz.ntmps43
  go_wp2
  go_ret
  exact ⟨rfl, rfl⟩
end Go.Proofs.YtcdmndhaeiccoaaGreatDoor.P
namespace Go.Proofs.YtcdmndhaeiccoaaGreatDoor.P
open Go Go.Proofs.YtcdmndhaeiccoaaGreatDoorR
open Go.RowKit Go.Proofs.YtcdmndhaeiccoaaGreatDoorW.PrintWords Go.Proofs.YtcdmndhaeiccoaaGreatDoorW.PrintLast
set_option linter.unusedVariables false
set_option linter.unusedSimpArgs false
set_option maxHeartbeats 8000000
set_option maxRecDepth 100000
/-- What a reader gives up with. -/
def faultC (l e : Int) : List PanicEntry := [{ v := .iface 42 (.agg #[.int .i64 l, .int .i64 e]), recovered := false }]
theorem sheet_fail.calls (b : Nat) (l e : Int) (w : World) (h : w.cell? ⟨b, 1, none⟩ = some (.int .i64 l)) :
    Calls Tryz.prog 32 #[.pointer (some ⟨b, 0, none⟩), .int .i64 e] w fun r w' => r = Ending.panicked (faultC l e) ∧ w' = w := by
  go_enter Tryz.func32, Tryz.ntmps32
  go_wp2
  exact ⟨rfl, rfl, rfl⟩
/-- A slice that holds the words that are left; it lies in a block of texts. -/
def Left (w : World) (b : Nat) (v : Value) (ws : List ByteArray) : Prop :=
  ∃ A c, v = .slice A ws.length c ∧ ws.length ≤ c ∧ Kd.string.C w A ws.length ws ∧ ∀ ad, A = some ad → 0 < ws.length → ad.block ≠ b ∧ ∃ cs fr, w.heap[ad.block]? = some (.cells cs 9 fr)
/-- The reader's block: lines, which is read, the words left of it, the scale. -/
structure Rdr (w : World) (b : Nat) (L : Value) (l : Int) (ws : List ByteArray) (sc : Int) : Prop where
  blk : ∃ v, w.heap[b]? = some (.cells #[L, .int .i64 l, v, .int .i64 sc] 46 (0, 0)) ∧ Left w b v ws
theorem Left.keep {w w' : World} {b : Nat} {v : Value} {ws : List ByteArray} (h : Left w b v ws) (hk : KeepW w w' b) : Left w' b v ws := by
  obtain ⟨A, c, hv, hc, hC, hne⟩ := h
  refine ⟨A, c, hv, hc, Kd.C_keep ByteArray.empty hC (show KeepBut w w' b none from ⟨hk.size, fun i hi hg _ => hk.block i hi hg⟩) (fun ad ha h0 => (hne ad ha h0).1), fun ad ha h0 => ?_⟩
  obtain ⟨h1, cs, fr, h2⟩ := hne ad ha h0
  exact ⟨h1, cs, fr, (hk.block _ (Array.getElem?_eq_some_iff.1 h2).1 h1).trans h2⟩
theorem Left.tail {w : World} {b c n : Nat} {ad : Addr} {x : ByteArray} {ws : List ByteArray} (hc : n ≤ c) (hn : n = ws.length + 1) (hC : Kd.string.C w (some ad) (x :: ws).length (x :: ws)) (hne : ∀ a, some ad = some a → 0 < (x :: ws).length → a.block ≠ b ∧ ∃ cs fr, w.heap[a.block]? = some (.cells cs 9 fr)) :
    Left w b (.slice (if c = 1 then some ad else some (ad.add 1)) (n - 1) (c - 1)) ws := by
  have hd := Kd.C_drop (c := c) (m := 1) hC (by rw [List.length_cons]; omega) (by rw [List.length_cons]; omega)
  have hb := hne ad rfl (by rw [List.length_cons]; omega)
  have e : (if c = 1 then some ad else (some ad).map (·.add (1 * Kd.string.sz))) = (if c = 1 then some ad else some (ad.add 1)) := rfl
  rw [e] at hd
  have hl : n - 1 = ws.length := by omega
  rw [hl]
  refine ⟨_, c - 1, rfl, by omega, hd, fun a ha _ => ?_⟩
  split at ha
  · cases ha; exact hb
  · cases ha; rw [Addr.add_succ' ad 0]; exact hb
theorem Rdr.at1 {w : World} {b : Nat} {L : Value} {l : Int} {ws : List ByteArray} {sc : Int} (h : Rdr w b L l ws sc) : w.cell? ⟨b, 1, none⟩ = some (.int .i64 l) := by
  obtain ⟨v, hb, _⟩ := h.blk
  exact (blk_cell hb 1).trans rfl
theorem Rdr.at0 {w : World} {b : Nat} {L : Value} {l : Int} {ws : List ByteArray} {sc : Int} (h : Rdr w b L l ws sc) : w.cell? ⟨b, 0, none⟩ = some L := by
  obtain ⟨v, hb, _⟩ := h.blk
  exact (blk_cell hb 0).trans rfl
theorem Rdr.at3 {w : World} {b : Nat} {L : Value} {l : Int} {ws : List ByteArray} {sc : Int} (h : Rdr w b L l ws sc) : w.cell? ⟨b, 3, none⟩ = some (.int .i64 sc) := by
  obtain ⟨v, hb, _⟩ := h.blk
  exact (blk_cell hb 3).trans rfl
theorem Rdr.lt {w : World} {b : Nat} {L : Value} {l : Int} {ws : List ByteArray} {sc : Int} (h : Rdr w b L l ws sc) : b < w.heap.size := by
  obtain ⟨v, hb, _⟩ := h.blk
  exact (Array.getElem?_eq_some_iff.1 hb).1
/-- Whatever is made, or written elsewhere, leaves the reader as it is. -/
theorem Rdr.below {w w' : World} {b : Nat} {L : Value} {l : Int} {ws : List ByteArray} {sc : Int} (h : Rdr w b L l ws sc) (hb : Below w.heap.size w w') : Rdr w' b L l ws sc := by
  obtain ⟨v, hv, hl⟩ := h.blk
  exact ⟨⟨v, (hb.block b h.lt).trans hv, hl.keep (.of_below hb b)⟩⟩
theorem Rdr.at_below {w w' : World} {b : Nat} {L : Value} {l : Int} {ws : List ByteArray} {sc : Int} (h : Rdr w b L l ws sc) (hb : Below w.heap.size w w') : w'.cell? ⟨b, 1, none⟩ = some (.int .i64 l) := (h.below hb).at1
/-- word: the first word left. -/
theorem sheet_word.calls (b : Nat) (L : Value) (l : Int) (x : ByteArray) (ws : List ByteArray) (sc : Int) (w : World) (h : Rdr w b L l (x :: ws) sc) :
    Calls Tryz.prog 57 #[.pointer (some ⟨b, 0, none⟩)] w fun r w' => r = .returned (.string x) ∧ Rdr w' b L l ws sc ∧ KeepW w w' b := by
  obtain ⟨v, hb, A, c, rfl, hc, hC, hne⟩ := h.blk
  obtain ⟨n, hn⟩ : ∃ n, n = (x :: ws).length := ⟨_, rfl⟩
  have hn2 : n = ws.length + 1 := by rw [hn, List.length_cons]
  obtain ⟨ad, rfl, hx⟩ := Kd.at_string hC 0 (Int.le_refl _) (by omega)
  rw [show ((0 : Int).toNat) = 0 from rfl, Addr.add_zero'] at hx
  have hy : w.cell? ad = some (.string x) := hx
  have h2 : w.cell? ⟨b, 2, none⟩ = some (.slice (some ad) n c) := by rw [hn]; exact (blk_cell hb 2).trans rfl
  have hf : w.frozen? ⟨b, 2, none⟩ = false := blk_frozen hb 2
  have p0 : n ≤ c := by omega
  have p1 : (1 : Int) ≤ (n : Int) := by omega
  have p2 : (0 : Int) < (n : Int) := by omega
  have HH := Aside0.mk (And.intro hb (And.intro hC (And.intro hn2 hne)))
  clear h hn hn2 hx hb hC hc hne
  go_enter Tryz.func57, Tryz.ntmps57
  go_wp2
  all_goals
    go_ret
    refine ⟨rfl, ?_, KeepW.set _ _ _ _⟩
    obtain ⟨hb, hC, hn2, hne⟩ := HH.out
    have hT := Left.tail p0 hn2 hC hne
    refine ⟨⟨_, blk_set hb 2 _, ?_⟩⟩
    refine Left.keep ?_ (KeepW.set _ _ _ _)
    simpa [*, Addr.add_succ' ad 0] using hT
/-- whole: a number of digits alone. -/
theorem sheet_whole.calls (b : Nat) (L : Value) (l : Int) (x : ByteArray) (ws : List ByteArray) (sc : Int) (w : World) (h : Rdr w b L l (x :: ws) sc) (hx : x.size ≤ 3000) (n e : Int) (hne : wholeL x.data.toList = (n, e)) :
    Calls Tryz.prog 56 #[.pointer (some ⟨b, 0, none⟩)] w fun r w' => KeepW w w' b ∧ ((e = 0 ∧ r = .returned (.int .i64 n) ∧ Rdr w' b L l ws sc) ∨ (e ≠ 0 ∧ r = Ending.panicked (faultC l e))) := by
  have hw := whole_is 20000 x (by omega) (by omega)
  rw [hne] at hw
  have C1 := Aside0.mk (sheet_word.calls b L l x ws sc w h)
  have C2 := Aside0.mk (fun w => deci_Whole.calls 20000 x n e w hw)
  clear hw h hx hne
  by_cases c : e = 0
  · subst c
    refine Calls.mono (R := fun r w' => KeepW w w' b ∧ r = .returned (.int .i64 n) ∧ Rdr w' b L l ws sc) ?_ (fun r w' h => ⟨h.1, .inl ⟨rfl, h.2.1, h.2.2⟩⟩)
    go_enter Tryz.func56, Tryz.ntmps56
    go_wp2_with (first
      | (go_at_call 57; refine C1.out.mono ?_; rintro r w1 ⟨rfl, hr, hk⟩; have R1 := Aside0.mk hr; have K1 := Aside0.mk hk; clear hr hk)
      | (go_at_call 92; refine (C2.out _).mono ?_; rintro r w2 ⟨rfl, hb⟩; have B2 := Aside0.mk hb; clear hb))
    go_ret
    exact ⟨K1.out.trans (.of_below B2.out b), rfl, R1.out.below B2.out⟩
  · have c1 : (e == 0) = false := beq_eq_false_iff_ne.2 c
    have c2 : (e != 0) = true := by simp [c]
    refine Calls.mono (R := fun r w' => KeepW w w' b ∧ r = Ending.panicked (faultC l e)) ?_ (fun r w' h => ⟨h.1, .inr ⟨c, h.2⟩⟩)
    go_enter Tryz.func56, Tryz.ntmps56
    go_wp2_with (first
      | (go_at_call 57; refine C1.out.mono ?_; rintro r w1 ⟨rfl, hr, hk⟩; have R1 := Aside0.mk hr; have K1 := Aside0.mk hk; clear hr hk)
      | (go_at_call 92; refine (C2.out _).mono ?_; rintro r w2 ⟨rfl, hb⟩; have B2 := Aside0.mk hb; clear hb)
      | (go_at_call 32; refine (sheet_fail.calls b l e _ (R1.out.at_below B2.out)).mono ?_; rintro r w3 ⟨rfl, rfl⟩))
    exact ⟨rfl, K1.out.trans (.of_below B2.out b), rfl⟩
/-- decimal: a decimal of a scale. -/
theorem sheet_decimal.calls (b : Nat) (L : Value) (l : Int) (x : ByteArray) (ws : List ByteArray) (sc s : Int) (w : World) (h : Rdr w b L l (x :: ws) sc) (hx : x.size ≤ 3000) (n e : Int) (hne : readL x.data.toList s = (n, e)) :
    Calls Tryz.prog 29 #[.pointer (some ⟨b, 0, none⟩), .int .i64 s] w fun r w' => KeepW w w' b ∧ ((e = 0 ∧ r = .returned (.int .i64 n) ∧ Rdr w' b L l ws sc) ∨ (e ≠ 0 ∧ r = .panicked (faultC l e))) := by
  have hw := read_is 20000 x s (by omega) (by omega)
  rw [hne] at hw
  have C1 := Aside0.mk (sheet_word.calls b L l x ws sc w h)
  have C2 := Aside0.mk (fun w => deci_Read.calls 20000 x s n e w hw)
  clear hw h hx hne
  by_cases c : e = 0
  · subst c
    refine Calls.mono (R := fun r w' => KeepW w w' b ∧ r = .returned (.int .i64 n) ∧ Rdr w' b L l ws sc) ?_ (fun r w' h => ⟨h.1, .inl ⟨rfl, h.2.1, h.2.2⟩⟩)
    go_enter Tryz.func29, Tryz.ntmps29
    go_wp2_with (first
      | (go_at_call 57; refine C1.out.mono ?_; rintro r w1 ⟨rfl, hr, hk⟩; have R1 := Aside0.mk hr; have K1 := Aside0.mk hk; clear hr hk)
      | (go_at_call 60; refine (C2.out _).mono ?_; rintro r w2 ⟨rfl, hb⟩; have B2 := Aside0.mk hb; clear hb))
    go_ret
    exact ⟨K1.out.trans (.of_below B2.out b), rfl, R1.out.below B2.out⟩
  · have c1 : (e == 0) = false := beq_eq_false_iff_ne.2 c
    have c2 : (e != 0) = true := by simp [c]
    refine Calls.mono (R := fun r w' => KeepW w w' b ∧ r = .panicked (faultC l e)) ?_ (fun r w' h => ⟨h.1, .inr ⟨c, h.2⟩⟩)
    go_enter Tryz.func29, Tryz.ntmps29
    go_wp2_with (first
      | (go_at_call 57; refine C1.out.mono ?_; rintro r w1 ⟨rfl, hr, hk⟩; have R1 := Aside0.mk hr; have K1 := Aside0.mk hk; clear hr hk)
      | (go_at_call 60; refine (C2.out _).mono ?_; rintro r w2 ⟨rfl, hb⟩; have B2 := Aside0.mk hb; clear hb)
      | (go_at_call 32; refine (sheet_fail.calls b l e _ (R1.out.at_below B2.out)).mono ?_; rintro r w3 ⟨rfl, rfl⟩))
    exact ⟨rfl, K1.out.trans (.of_below B2.out b), rfl⟩
/-- A whole number within bounds on both sides. -/
def smallL (l : List UInt8) (most : Int) : Int × Int := if (readL l 0).2 = 0 then (if (readL l 0).1 < -most ∨ (readL l 0).1 > most then (0, 23) else ((readL l 0).1, 0)) else (0, (readL l 0).2)
theorem sheet_small.calls (b : Nat) (L : Value) (l : Int) (x : ByteArray) (ws : List ByteArray) (sc most : Int) (hm : most = 1000 ∨ most = 16777216) (w : World) (h : Rdr w b L l (x :: ws) sc) (hx : x.size ≤ 3000) (n e : Int) (hne : smallL x.data.toList most = (n, e)) :
    Calls Tryz.prog 59 #[.pointer (some ⟨b, 0, none⟩), .int .i64 most] w fun r w' => KeepW w w' b ∧ ((e = 0 ∧ r = .returned (.int .i64 n) ∧ Rdr w' b L l ws sc) ∨ (e ≠ 0 ∧ r = .panicked (faultC l e))) := by
  obtain ⟨m, f, hmf⟩ : ∃ m f, readL x.data.toList 0 = (m, f) := ⟨_, _, rfl⟩
  have C1 := Aside0.mk (sheet_decimal.calls b L l x ws sc 0 w h hx m f hmf)
  unfold smallL at hne
  rw [hmf] at hne
  simp only at hne
  clear h hx hmf
  by_cases c : f = 0
  · subst c
    rw [if_pos rfl] at hne
    by_cases c1 : m < -most
    · rw [if_pos (.inl c1)] at hne
      obtain ⟨rfl, rfl⟩ := Prod.mk.inj hne
      refine Calls.mono (R := fun r w' => KeepW w w' b ∧ r = .panicked (faultC l 23)) ?_ (fun r w' h => ⟨h.1, .inr ⟨by decide, h.2⟩⟩)
      rcases hm with rfl | rfl
      all_goals
        have d1 := decide_eq_true c1
        clear hne
        go_enter Tryz.func59, Tryz.ntmps59
        go_wp2_with (first
          | (go_at_call 29; refine C1.out.mono ?_; rintro r w1 ⟨hk, ⟨-, rfl, hr⟩ | ⟨hx, -⟩⟩; have R1 := Aside0.mk hr; have K1 := Aside0.mk hk; clear hr hk; rotate_left; exact absurd rfl hx)
          | (go_at_call 32; refine (sheet_fail.calls b l 23 _ R1.out.at1).mono ?_; rintro r w3 ⟨rfl, rfl⟩))
        exact ⟨rfl, K1.out, rfl⟩
    · by_cases c2 : m > most
      · rw [if_pos (.inr c2)] at hne
        obtain ⟨rfl, rfl⟩ := Prod.mk.inj hne
        refine Calls.mono (R := fun r w' => KeepW w w' b ∧ r = .panicked (faultC l 23)) ?_ (fun r w' h => ⟨h.1, .inr ⟨by decide, h.2⟩⟩)
        rcases hm with rfl | rfl
        all_goals
          have d1 := decide_eq_false c1
          have d2 := decide_eq_true c2
          have d3 := decide_eq_true (show _ < m from c2)
          clear hne
          go_enter Tryz.func59, Tryz.ntmps59
          go_wp2_with (first
            | (go_at_call 29; refine C1.out.mono ?_; rintro r w1 ⟨hk, ⟨-, rfl, hr⟩ | ⟨hx, -⟩⟩; have R1 := Aside0.mk hr; have K1 := Aside0.mk hk; clear hr hk; rotate_left; exact absurd rfl hx)
            | (go_at_call 32; refine (sheet_fail.calls b l 23 _ R1.out.at1).mono ?_; rintro r w3 ⟨rfl, rfl⟩))
          exact ⟨rfl, K1.out, rfl⟩
      · rw [if_neg (by omega)] at hne
        obtain ⟨rfl, rfl⟩ := Prod.mk.inj hne
        refine Calls.mono (R := fun r w' => KeepW w w' b ∧ r = .returned (.int .i64 m) ∧ Rdr w' b L l ws sc) ?_ (fun r w' h => ⟨h.1, .inl ⟨rfl, h.2.1, h.2.2⟩⟩)
        rcases hm with rfl | rfl
        all_goals
          have d1 := decide_eq_false c1
          have d2 := decide_eq_false c2
          have d3 := decide_eq_false (show ¬ _ < m from c2)
          clear hne
          go_enter Tryz.func59, Tryz.ntmps59
          go_wp2_with (first
            | (go_at_call 29; refine C1.out.mono ?_; rintro r w1 ⟨hk, ⟨-, rfl, hr⟩ | ⟨hx, -⟩⟩; have R1 := Aside0.mk hr; have K1 := Aside0.mk hk; clear hr hk; rotate_left; exact absurd rfl hx))
          go_ret
          exact ⟨K1.out, rfl, R1.out⟩
  · rw [if_neg c] at hne
    obtain ⟨rfl, rfl⟩ := Prod.mk.inj hne
    refine Calls.mono (R := fun r w' => KeepW w w' b ∧ r = .panicked (faultC l f)) ?_ (fun r w' h => ⟨h.1, .inr ⟨c, h.2⟩⟩)
    clear hne
    go_enter Tryz.func59, Tryz.ntmps59
    go_wp2_with (first
      | (go_at_call 29; refine C1.out.mono ?_; rintro r w1 ⟨hk, ⟨hx, -, -⟩ | ⟨-, rfl⟩⟩; exact absurd hx c; have K1 := Aside0.mk hk; clear hk))
    exact ⟨rfl, K1.out, rfl⟩
end Go.Proofs.YtcdmndhaeiccoaaGreatDoor.P
