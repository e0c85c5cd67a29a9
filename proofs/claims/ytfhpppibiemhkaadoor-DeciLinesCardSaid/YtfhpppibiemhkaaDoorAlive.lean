/- Whole numbers; the document's examples. -/
import Derived.Test.YtfhpppibiemhkaaDoorRead
import Derived.Test.YtfhpppibiemhkaaDoorWrite
import Derived.Test.YtfhpppibiemhkaaDoorPieces
namespace Go.Proofs.YtfhpppibiemhkaaDoor.P
open Go Go.Proofs.YtfhpppibiemhkaaDoorR
open Go.RowKit Go.Proofs.YtfhpppibiemhkaaDoorW.PrintWords Go.Proofs.YtfhpppibiemhkaaDoorW.PrintLast Go.Proofs.YtfhpppibiemhkaaDoorW.PrintMore
theorem head_bt (a : ByteArray) (x : UInt8) (t : List UInt8) (h : a.data.toList = x :: t) : bt a 0 = (x.toNat : Int) ∧ a.size = t.length + 1 := by
  have hsz := Lib.size_eq a
  rw [h, List.length_cons] at hsz
  obtain ⟨y, hy, hb⟩ := bt_drop a 0 (by omega)
  rw [List.drop_zero, h] at hy
  have := (List.cons.inj hy).1
  subst this
  exact ⟨hb, hsz⟩
def wholeL (l : List UInt8) : Int × Int := if l = [] ∨ neg l = true ∨ (l.length > 1 ∧ l.head? = some 48) then (0, 21) else readL l 0
theorem read_empty : readL [] 0 = (0, 21) := by decide +kernel
theorem nat_byte {x : UInt8} {n : Nat} (hn : n < 256) : (x.toNat : Int) = (n : Int) ↔ x = UInt8.ofNat n := by
  constructor
  · intro h
    apply UInt8.toNat_inj.1
    rw [UInt8.toNat_ofNat']
    omega
  · intro h
    rw [h, UInt8.toNat_ofNat']
    omega
theorem whole_is (k : Nat) (a : ByteArray) (ha : a.size ≤ 1000000) (hk : a.size + 40 < k) : deci_Whole.f k a = some (wholeL a.data.toList) := by
  have hp := hasPrefix_is a 45
  have hr := read_is k a 0 ha (by omega)
  have hneg : (a.data.toList.head? == some 45) = neg a.data.toList := rfl
  unfold deci_Whole.f wholeL
  rw [hp, hneg, hr]
  simp only [Option.bind_some]
  cases hl : a.data.toList with
  | nil =>
    have hsz := Lib.size_eq a
    rw [hl] at hsz
    have h0 : a.size = 0 := hsz
    rw [if_neg (by omega), if_neg (show ¬ neg [] = true by decide), read_empty, if_pos (show ([] : List UInt8) = [] ∨ _ from .inl rfl)]
  | cons x t =>
    obtain ⟨hb, hsz⟩ := head_bt a x t hl
    by_cases hn : neg (x :: t) = true
    · have hc : (x :: t) = [] ∨ neg (x :: t) = true ∨ ((x :: t).length > 1 ∧ (x :: t).head? = some 48) := .inr (.inl hn)
      rw [if_pos hc, hn]
      simp only [if_true]
      by_cases c1 : (a.size : Int) > 1
      · rw [if_pos c1, if_pos (by omega)]
        split <;> rfl
      · rw [if_neg c1]
    · have hf : neg (x :: t) = false := by simpa using hn
      rw [hf]
      simp only [Bool.false_eq_true, if_false]
      by_cases c1 : (a.size : Int) > 1
      · rw [if_pos c1, if_pos (by omega), hb]
        by_cases c2 : x = 48
        · have hx : (x.toNat : Int) = 48 := by rw [c2]; rfl
          rw [if_pos hx, if_pos (.inr (.inr ⟨by simp only [List.length_cons]; omega, by rw [c2]; rfl⟩))]
        · have hx : ¬ (x.toNat : Int) = 48 := fun h => c2 ((nat_byte (n := 48) (by decide)).1 h)
          rw [if_neg hx, if_neg]
          rintro (h | h | h)
          · cases h
          · cases h
          · exact c2 (Option.some.inj h.2)
      · rw [if_neg c1, if_neg]
        rintro (h | h | h)
        · cases h
        · cases h
        · simp only [List.length_cons] at h; omega
theorem wr_150 : wr (-150) 2 = [45, 49, 46, 53] := by
  unfold wr
  rw [show ((-150 : Int).natAbs / 10 ^ 2) = 1 by decide, dec_small (show 1 < 10 by decide)]
  decide +kernel
theorem wr_100 : wr 100 2 = [49] := by
  unfold wr
  rw [show ((100 : Int).natAbs / 10 ^ 2) = 1 by decide, dec_small (show 1 < 10 by decide)]
  decide +kernel
theorem alive_is (k : Nat) (hk : 100 ≤ k) : jitneylaw03_alive.f k = some true := by
  unfold jitneylaw03_alive.f
  rw [read_is k _ 2 (by decide) (Nat.lt_of_lt_of_le (by decide) hk)]
  simp only [Option.bind_some]
  rw [read_is k _ 2 (by decide) (Nat.lt_of_lt_of_le (by decide) hk)]
  simp only [Option.bind_some]
  rw [read_is k _ 0 (by decide) (Nat.lt_of_lt_of_le (by decide) hk)]
  simp only [Option.bind_some]
  rw [words_is k _ (by decide) (Nat.lt_of_lt_of_le (by decide) hk)]
  simp only [Option.bind_some]
  rw [lines_is, lines_is]
  simp only [Option.bind_some]
  rw [whole_is k _ (by decide) (Nat.lt_of_lt_of_le (by decide) hk), whole_is k _ (by decide) (Nat.lt_of_lt_of_le (by decide) hk)]
  simp only [Option.bind_some]
  rw [write_is k (-150) 2 (by decide) (by decide) (by omega), write_is k 100 2 (by decide) (by decide) (by omega)]
  simp only [Option.bind_some]
  have c2 : cl 2 = 2 := rfl
  rw [c2, wr_150, wr_100, mkB_toList, mkB_toList]
  have r1 : readL (⟨#[45, 49, 46, 53]⟩ : ByteArray).data.toList 2 = (-150, 0) := by decide +kernel
  have r2 : readL (⟨#[49, 46, 53, 48, 53]⟩ : ByteArray).data.toList 2 = (0, 21) := by decide +kernel
  have r3 : readL (⟨#[49, 48, 57, 57, 53, 49, 49, 54, 50, 55, 55, 55, 55]⟩ : ByteArray).data.toList 0 = (0, 23) := by decide +kernel
  have r4 : (outB (wordsL (⟨#[97, 32, 98]⟩ : ByteArray).data.toList)).1.length = 2 ∧ (outB (wordsL (⟨#[97, 32, 98]⟩ : ByteArray).data.toList)).2 = 0 := by rw [outB_len]; decide +kernel
  have r5 : (outB (linesL (⟨#[120, 10, 10]⟩ : ByteArray).data.toList)).1.length = 2 ∧ (outB (linesL (⟨#[120, 10, 10]⟩ : ByteArray).data.toList)).2 = 0 := by rw [outB_len]; decide +kernel
  have r6 : (outB (linesL (⟨#[120]⟩ : ByteArray).data.toList)).2 = 20 := by decide +kernel
  have r7 : wholeL (⟨#[55, 48]⟩ : ByteArray).data.toList = (70, 0) := by decide +kernel
  have r8 : wholeL (⟨#[48, 55]⟩ : ByteArray).data.toList = (0, 21) := by decide +kernel
  rw [r1, r2, r3, r4.1, r4.2, r5.1, r5.2, r6, r7, r8]
  decide +kernel
theorem wfA {n : Int} (h : (Lit.int .i64 n).wf = true) : -9223372036854775808 ≤ n ∧ n ≤ 9223372036854775807 := by
  have h' : (decide (IntKind.i64.min ≤ n) && decide (n ≤ IntKind.i64.max)) = true := h
  rw [Bool.and_eq_true, decide_eq_true_eq, decide_eq_true_eq] at h'
  exact h'
end Go.Proofs.YtfhpppibiemhkaaDoor.P
