/- A decimal is read: what the program tells, and what the document's loop tells, are one plain function. -/
import Derived.Test.YtfhpppibiemhkaaDoorBase
import Derived.Test.YtfhpppibiemhkaaDoorP12
namespace Go.Proofs.YtfhpppibiemhkaaDoor.P
open Go Go.Proofs.YtfhpppibiemhkaaDoorR
open Go.RowKit Go.Proofs.YtfhpppibiemhkaaDoorW.PrintWords Go.Proofs.YtfhpppibiemhkaaDoorW.PrintLast Go.Proofs.YtfhpppibiemhkaaDoorW.PrintMore
def spt : List UInt8 → List UInt8 × Option (List UInt8)
  | [] => ([], none)
  | x :: t => if x = 46 then ([], some t) else (x :: (spt t).1, (spt t).2)
theorem spt_index : ∀ l : List UInt8, (Lib.indexByte l 46 = -1 ∧ spt l = (l, none)) ∨ ∃ i : Nat, Lib.indexByte l 46 = i ∧ spt l = (l.take i, some (l.drop (i + 1))) := by
  intro l
  induction l with
  | nil => left; exact ⟨rfl, rfl⟩
  | cons x t ih =>
    by_cases hx : x = 46
    · right
      refine ⟨0, ?_, ?_⟩
      · simp [Lib.indexByte, hx]
      · simp [spt, hx]
    · have hb : (x == 46) = false := beq_eq_false_iff_ne.2 hx
      rcases ih with ⟨h1, h2⟩ | ⟨i, h1, h2⟩
      · left; simp [Lib.indexByte, hb, h1, spt, hx, h2]
      · right
        refine ⟨i + 1, ?_, ?_⟩
        · rw [Lib.indexByte, hb, if_neg (by decide), h1, if_neg (by simp)]; simp
        · simp [spt, hx, h2]
theorem cut_is (a : ByteArray) (ha : a.size < 4294967281) : strings_Cut.f a (⟨#[46]⟩ : ByteArray) = some (mkB (spt a.data.toList).1, mkB ((spt a.data.toList).2.getD []), (spt a.data.toList).2.isSome) := by
  unfold strings_Cut.f
  rw [if_pos ⟨rfl, ha⟩]
  have e : (⟨#[46]⟩ : ByteArray).data.toList = [46] := rfl
  rw [e]
  unfold Lib.cut
  rw [Lib.index_one]
  rcases spt_index a.data.toList with ⟨h1, h2⟩ | ⟨i, h1, h2⟩
  · rw [h1, if_neg (by decide), h2]; rfl
  · rw [h1, if_pos (by omega), h2]
    simp [mkB]
def neg (l : List UInt8) : Bool := l.head? == some 45
def body (l : List UInt8) : List UInt8 := if neg l = true then l.tail else l
theorem hasPrefix_is (a : ByteArray) (c : UInt8) : strings_HasPrefix.f a (⟨#[c]⟩ : ByteArray) = some (a.data.toList.head? == some c) := by
  unfold strings_HasPrefix.f stringslite_HasPrefix.f
  have e1 : ((⟨#[c]⟩ : ByteArray).size : Int) = 1 := rfl
  rw [e1]
  have hs := Lib.size_eq a
  cases hl : a.data.toList with
  | nil =>
    rw [hl] at hs
    have h0 : a.size = 0 := hs
    rw [if_neg (by omega)]; rfl
  | cons x t =>
    rw [hl] at hs
    have h0 : a.size = t.length + 1 := hs
    rw [if_pos (by omega), if_pos (by decide), if_pos (by omega)]
    have e : (a.extract 0 (1 : Int).toNat).toList = [x] := by rw [Lib.toList_data, Lib.extract_data, hl]; rfl
    have e2 : (⟨#[c]⟩ : ByteArray).toList = [c] := by rw [Lib.toList_data]
    rw [e, e2]
    simp
theorem cutPrefix_is (a : ByteArray) : strings_CutPrefix.f a (⟨#[45]⟩ : ByteArray) = some (mkB (body a.data.toList), neg a.data.toList) := by
  have hp : stringslite_HasPrefix.f a (⟨#[45]⟩ : ByteArray) = some (neg a.data.toList) := by
    have h := hasPrefix_is a 45
    unfold strings_HasPrefix.f at h
    cases hh : stringslite_HasPrefix.f a (⟨#[45]⟩ : ByteArray) with
    | none => rw [hh] at h; cases h
    | some v => rw [hh] at h; exact h
  unfold strings_CutPrefix.f stringslite_CutPrefix.f
  rw [hp]
  simp only [Option.bind_some]
  have e1 : ((⟨#[45]⟩ : ByteArray).size : Int) = 1 := rfl
  have hs := Lib.size_eq a
  unfold body
  by_cases hn : neg a.data.toList = true
  · rw [if_pos hn, if_pos hn, e1, hn]
    have hl : 1 ≤ a.data.toList.length := by
      cases hl : a.data.toList with
      | nil => rw [hl] at hn; cases hn
      | cons x t => simp
    rw [if_pos (by decide), if_pos (by omega)]
    simp only [Option.bind_some]
    congr 2
    rw [Lib.extract_eq, mkB]
    congr 2
    show ((a.data.toList.drop 1).take _) = _
    rw [List.take_of_length_le (by rw [List.length_drop]; omega), List.drop_one]
  · have hf : neg a.data.toList = false := by simpa using hn
    rw [if_neg hn, if_neg hn, hf, mkB_of]
    rfl
def okd (l : List UInt8) (m : Nat) : Bool := l.all isDig && (decide (1 ≤ l.length) && decide (l.length ≤ m))
def okp (p : Option (List UInt8)) (s : Nat) : Bool := match p with | none => true | some a => okd a s
def num (l : List UInt8) (s : Nat) : Nat := val (spt (body l)).1 * 10 ^ s + val ((spt (body l)).2.getD []) * 10 ^ (s - ((spt (body l)).2.getD []).length)
def told (b : Bool) (N : Nat) : Int × Int := if N > 1099511627776 then (0, 23) else (if b = true then -(N : Int) else (N : Int), 0)
def readL (l : List UInt8) (scale : Int) : Int × Int :=
  if scale < 0 ∨ scale > 6 then (0, 1) else
  if (okd (spt (body l)).1 13 && okp (spt (body l)).2 scale.toNat) = true then told (neg l) (num l scale.toNat) else (0, 21)
theorem okd_digits (k : Nat) (l : List UInt8) (m : Nat) (hl : l.length ≤ 1000000) (hk : l.length < k) : deci_digits.f k (mkB l) (m : Int) = some (okd l m) := by
  rw [digits_is k (mkB l) m (by rw [mkB_size]; exact hl) (by rw [mkB_size]; exact hk), mkB_data, mkB_size]
  unfold okd
  simp
theorem spt_len (l : List UInt8) : (spt l).1.length ≤ l.length ∧ ((spt l).2.getD []).length ≤ l.length := by
  induction l with
  | nil => simp [spt]
  | cons x t ih =>
    unfold spt
    split
    · simp
    · simp only [List.length_cons]; omega
theorem body_len (l : List UInt8) : (body l).length ≤ l.length := by
  unfold body; split
  · rw [List.length_tail]; omega
  · exact Nat.le_refl _
theorem read_fin (b : Bool) (W F : Nat) (hW : W < 100000000000000000000) (hF : F < 1000000) : (if b = true then (if decide (W ≤ 1152921504606846976) = true then (if (wrap64 (-(wrap64 ((W : Int) + F)))) < (-1099511627776) then (some ((0 : Int), (23 : Int))) else (if (wrap64 (-(wrap64 ((W : Int) + F)))) > 1099511627776 then (some (0, 23)) else (some (wrap64 (-(wrap64 ((W : Int) + F))), 0)))) else (some (0, 23))) else (if decide (W ≤ 1152921504606846976) = true then (if (wrap64 ((W : Int) + F)) < (-1099511627776) then (some (0, 23)) else (if (wrap64 ((W : Int) + F)) > 1099511627776 then (some (0, 23)) else (some (wrap64 ((W : Int) + F), 0)))) else (some (0, 23)))) = some (told b (W + F)) := by
  by_cases c : W ≤ 1152921504606846976
  · rw [decide_eq_true c, if_pos rfl, if_pos rfl, wrap_id (x := (W : Int) + (F : Int)) (by omega) (by omega), wrap_id (x := -((W : Int) + (F : Int))) (by omega) (by omega)]
    unfold told
    cases b
    · rw [if_neg (by decide), if_neg (by omega)]
      by_cases c2 : W + F > 1099511627776
      · rw [if_pos (by omega), if_pos c2]
      · rw [if_neg (by omega), if_neg c2]; simp
    · rw [if_pos rfl, if_neg (show ¬ -((W : Int) + (F : Int)) > 1099511627776 by omega)]
      by_cases c2 : W + F > 1099511627776
      · rw [if_pos (by omega), if_pos c2]
      · rw [if_neg (by omega), if_neg c2]; simp
  · unfold told
    rw [decide_eq_false c, if_pos (show W + F > 1099511627776 by omega)]
    cases b <;> rfl
theorem mul_nat (k V P : Nat) (hV : V ≤ 10000000000000) (hP1 : 1 ≤ P) (hP : P ≤ 1000000) : num_Mul.f (k + 2) (V : Int) (P : Int) = some (if V * P ≤ 1152921504606846976 then (((V * P : Nat) : Int), true) else (0, false)) := by
  rw [mul_is]
  have o1 : ok64 (V : Int) = true := by rw [ok64_iff]; omega
  have o2 : ok64 (P : Int) = true := by rw [ok64_iff]; omega
  have hc : (V : Int) * (P : Int) = ((V * P : Nat) : Int) := (Int.natCast_mul V P).symm
  rw [o1, o2, hc]
  generalize V * P = W
  by_cases c : W ≤ 1152921504606846976
  · have o3 : ok64 (W : Int) = true := by rw [ok64_iff]; omega
    rw [o3, if_pos c]; rfl
  · have o3 : ok64 (W : Int) = false := by
      cases h : ok64 (W : Int) with
      | false => rfl
      | true => rw [ok64_iff] at h; omega
    rw [o3, if_neg c]; rfl
theorem read_j1 (k s : Nat) (hs : s ≤ 6) (hk : 20 ≤ k) (b : Bool) (w f : List UInt8) (hw : okd w 13 = true) (hf : f.all isDig = true ∧ f.length ≤ s) :
    deci_Read.j1 k (s : Int) b (mkB w) (mkB f) false = some (told b (val w * 10 ^ s + val f * 10 ^ (s - f.length))) := by
  obtain ⟨k, rfl⟩ : ∃ m, k = m + 1 := ⟨k - 1, by omega⟩
  unfold okd at hw
  simp only [Bool.and_eq_true, decide_eq_true_eq] at hw
  obtain ⟨w1, w2, w3⟩ := hw
  have hvw : val w < 10000000000000 := Nat.lt_of_lt_of_le (val_lt w w1) (Nat.le_trans (Nat.pow_le_pow_right (by decide) w3) (by decide))
  have hps : 10 ^ s ≤ 1000000 := Nat.le_trans (Nat.pow_le_pow_right (by decide) hs) (by decide)
  have hps1 : 1 ≤ 10 ^ s := Nat.pow_pos (by decide)
  have hsum : 10 ^ f.length * 10 ^ (s - f.length) = 10 ^ s := by rw [← Nat.pow_add]; congr 1; omega
  have hF : val f * 10 ^ (s - f.length) < 10 ^ s := by
    rw [← hsum]
    exact Nat.mul_lt_mul_of_pos_right (val_lt f hf.1) (Nat.pow_pos (by decide))
  have hws : wrap64 ((s : Int) - ((mkB f).size : Int)) = ((s - f.length : Nat) : Int) := by
    rw [mkB_size, wrap_id (by omega) (by omega)]; omega
  have hWb : val w * 10 ^ s < 100000000000000000000 := Nat.lt_of_le_of_lt (Nat.mul_le_mul (Nat.le_of_lt hvw) hps) (by decide)
  rw [deci_Read.j1, if_neg (by decide), value_is k (mkB w) (by rw [mkB_data]; exact w1) (by rw [mkB_size]; exact w3) (by rw [mkB_size]; omega), mkB_data]
  simp only [Option.bind_some]
  rw [power_is k s (by omega) (by omega)]
  simp only [Option.bind_some]
  obtain ⟨k', rfl⟩ : ∃ m, k = m + 2 := ⟨k - 2, by omega⟩
  rw [mul_nat k' _ _ (by omega) hps1 hps]
  simp only [Option.bind_some]
  rw [value_is (k' + 2) (mkB f) (by rw [mkB_data]; exact hf.1) (by rw [mkB_size]; omega) (by rw [mkB_size]; omega), mkB_data, hws]
  simp only [Option.bind_some]
  rw [power_is (k' + 2) (s - f.length) (by omega) (by omega)]
  simp only [Option.bind_some]
  have hcast2 : ((val f : Nat) : Int) * ((10 ^ (s - f.length) : Nat) : Int) = ((val f * 10 ^ (s - f.length) : Nat) : Int) := (Int.natCast_mul _ _).symm
  rw [hcast2]
  have key := read_fin b (val w * 10 ^ s) (val f * 10 ^ (s - f.length)) hWb (by omega)
  revert key
  generalize val w * 10 ^ s = W
  have hFb : val f * 10 ^ (s - f.length) < 1000000 := by omega
  revert hFb
  generalize val f * 10 ^ (s - f.length) = F
  intro hFb key
  rw [wrap_id (x := (F : Int)) (by omega) (by omega)]
  rw [← key]
  by_cases c : W ≤ 1152921504606846976
  · rw [if_pos c, decide_eq_true c]
  · rw [if_neg c, decide_eq_false c]
    simp only [Bool.false_eq_true, if_false]
theorem okd_all {l : List UInt8} {m : Nat} (h : okd l m = true) : l.all isDig = true ∧ 1 ≤ l.length ∧ l.length ≤ m := by
  unfold okd at h
  simpa only [Bool.and_eq_true, decide_eq_true_eq] using h
theorem read_is (k : Nat) (a : ByteArray) (scale : Int) (ha : a.size ≤ 1000000) (hk : a.size + 30 < k) : deci_Read.f k a scale = some (readL a.data.toList scale) := by
  unfold deci_Read.f
  obtain ⟨k, rfl⟩ : ∃ m, k = m + 1 := ⟨k - 1, by omega⟩
  unfold readL
  by_cases c0 : scale < 0
  · rw [if_pos c0, if_pos (.inl c0), deci_Read.j0, if_pos rfl]
  · rw [if_neg c0]
    by_cases c1 : scale > 6
    · rw [decide_eq_true c1, if_pos (.inr c1), deci_Read.j0, if_pos rfl]
    · rw [decide_eq_false c1, if_neg (by omega), deci_Read.j0, if_neg (by decide), cutPrefix_is]
      simp only [Option.bind_some]
      obtain ⟨s, rfl⟩ : ∃ s : Nat, scale = s := ⟨scale.toNat, by omega⟩
      have hsz : a.size = a.data.toList.length := Lib.size_eq a
      have hb := body_len a.data.toList
      obtain ⟨h1, h2⟩ := spt_len (body a.data.toList)
      rw [cut_is _ (by rw [mkB_size]; omega), mkB_data]
      simp only [Option.bind_some]
      unfold num
      generalize neg a.data.toList = b
      generalize body a.data.toList = r at hb h1 h2 ⊢
      have e13 : (13 : Int) = ((13 : Nat) : Int) := rfl
      rw [e13, okd_digits k _ 13 (by omega) (by omega)]
      simp only [Option.bind_some, Int.toNat_natCast]
      cases ho : okd (spt r).1 13
      · rw [if_neg (by decide)]
        obtain ⟨k, rfl⟩ : ∃ m, k = m + 1 := ⟨k - 1, by omega⟩
        rw [deci_Read.j1, if_pos rfl, Bool.false_and, if_neg (by decide)]
      · rw [if_pos rfl]
        cases hp : (spt r).2 with
        | none =>
          simp only [Option.isSome_none, Bool.false_eq_true, if_false, Option.getD_none, okp, Bool.and_self, if_true]
          exact read_j1 k s (by omega) (by omega) b _ _ ho ⟨rfl, Nat.zero_le _⟩
        | some f =>
          rw [hp] at h2
          simp only [Option.isSome_some, if_true, Option.getD_some, okp, Bool.true_and] at h2 ⊢
          rw [okd_digits k f s (by omega) (by omega)]
          simp only [Option.bind_some]
          cases hf : okd f s
          · obtain ⟨k, rfl⟩ : ∃ m, k = m + 1 := ⟨k - 1, by omega⟩
            rw [Bool.not_false, deci_Read.j1, if_pos rfl, if_neg (by decide)]
          · rw [Bool.not_true, if_pos rfl]
            obtain ⟨f1, _, f3⟩ := okd_all hf
            exact read_j1 k s (by omega) (by omega) b _ _ ho ⟨f1, f3⟩
end Go.Proofs.YtfhpppibiemhkaaDoor.P
