/- The peak of a row: a room that has it fits the row: the plain law. -/
import Derived.Test.YtocoapfnkkmkiaaPlain
import Derived.Test.YtocoapfnkkmkiaaP14
namespace Go.Proofs.Ytocoapfnkkmkiaa.P
open Go.Proofs.YtocoapfnkkmkiaaR
open Go.RowKit Go.Proofs.YtocoapfnkkmkiaaW.PrintWords Go.Proofs.YtocoapfnkkmkiaaW.PrintLast Go.Proofs.YtocoapfnkkmkiaaW.PrintMore
theorem peak_go_ge (ps : List S23) : ∀ n, 0 ≤ (load_Peak.go ps n).f0 ∧ 0 ≤ (load_Peak.go ps n).f1 ∧ (∀ j, j < n → (ps.getD j z23).f0 ≤ (load_Peak.go ps n).f0 ∧ (ps.getD j z23).f1 ≤ (load_Peak.go ps n).f1) ∧
    ((load_Peak.go ps n).f0 = 0 ∨ ∃ j, j < n ∧ (ps.getD j z23).f0 = (load_Peak.go ps n).f0) := by
  intro n
  induction n with
  | zero => exact ⟨Int.le_refl 0, Int.le_refl 0, fun j hj => absurd hj (Nat.not_lt_zero _), .inl rfl⟩
  | succ n ih =>
    obtain ⟨h0, h1, h2, h3⟩ := ih
    simp only [load_Peak.go, load_Peak.top]
    rw [rd_nat]
    refine ⟨by omega, by omega, fun j hj => ?_, ?_⟩
    · by_cases e : j = n
      · subst e; omega
      · have := h2 j (by omega); omega
    · by_cases c : (ps.getD n z23).f0 ≤ (load_Peak.go ps n).f0
      · rcases h3 with h3 | ⟨j, hj, h3⟩
        · left; omega
        · right; exact ⟨j, by omega, by omega⟩
      · right; exact ⟨n, by omega, by omega⟩
theorem firstAt_range (b : Nat → Bool) (n : Nat) : firstAt b n = -1 ∨ ∃ k, k < n ∧ firstAt b n = (k : Int) := by
  unfold firstAt
  cases h : (List.range n).find? b with
  | none => exact .inl rfl
  | some k => exact .inr ⟨k, by have := List.mem_of_find?_eq_some h; simpa using this, rfl⟩
theorem firstAt_ge (b : Nat → Bool) (n k : Nat) (hk : k < n) (hb : b k = true) : firstAt b n ≥ 0 := by
  unfold firstAt
  cases h : (List.range n).find? b with
  | none =>
    rw [List.find?_range_eq_none] at h
    have := h k hk
    rw [hb] at this
    exact absurd this (by simp)
  | some k => show (k : Int) ≥ 0; omega
theorem peaks_loop (l0 ps : List S23) (p0 p1 : Int) (hn : ps.length ≤ 60) (hfin : ∀ k, (∀ j, j < ps.length → 0 ≤ (ps.getD j z23).f0 ∧ 0 ≤ (ps.getD j z23).f1) → jitneylaw04_LoadPeaks.l0 (k + 1) l0 ps (ps.length : Int) (ps.length : Int) p0 p1 = some true) :
    ∀ (d i k : Nat), ps.length - i = d → i ≤ ps.length → (∀ j, j < i → 0 ≤ (ps.getD j z23).f0 ∧ 0 ≤ (ps.getD j z23).f1) → d < k → jitneylaw04_LoadPeaks.l0 k l0 ps (ps.length : Int) (i : Int) p0 p1 = some true := by
  intro d
  induction d with
  | zero =>
    intro i k hd hi hp hk
    obtain ⟨k, rfl⟩ : ∃ m, k = m + 1 := ⟨k - 1, by omega⟩
    obtain rfl : i = ps.length := by omega
    exact hfin k hp
  | succ d ih =>
    intro i k hd hi hp hk
    obtain ⟨k, rfl⟩ : ∃ m, k = m + 1 := ⟨k - 1, by omega⟩
    simp only [jitneylaw04_LoadPeaks.l0]
    rw [if_pos (by omega), if_pos (by omega), if_pos (by omega), rd_nat]
    by_cases c0 : (ps.getD i z23).f0 < 0
    · rw [if_pos c0]
    · rw [if_neg c0]
      by_cases c1 : (ps.getD i z23).f1 < 0
      · rw [if_pos c1]
      · rw [if_neg c1, wrap_succ (n := ps.length) (by omega) (by omega)]
        refine ih (i + 1) k (by omega) (by omega) (fun j hj => ?_) (by omega)
        by_cases e : j = i
        · subst e; omega
        · exact hp j (by omega)
theorem loadPeaks_true (ls : List S23) : jitneylaw04_LoadPeaks.f 100 ls = some true := by
  unfold jitneylaw04_LoadPeaks.f jitneylaw04_alive.f
  simp only [Option.bind_some, if_true]
  by_cases hlen : (ls.length : Int) > 60
  · rw [if_pos hlen]
  rw [if_neg hlen]
  unfold load_Peak.f
  rw [profile_is ls (by omega) 100 (by omega)]
  cases hp : prof ⟨0, 0⟩ ls with
  | none => simp [load_Peak.go]
  | some ps =>
    simp only [Option.bind_some, if_true]
    have hl := prof_length _ _ _ hp
    obtain ⟨g0, g1, g2, g3⟩ := peak_go_ge ps ps.length
    refine peaks_loop ls ps _ _ (by omega) (fun k hpos => ?_) ps.length 0 100 (by omega) (by omega) (fun j hj => absurd hj (Nat.not_lt_zero _)) (by omega)
    simp only [jitneylaw04_LoadPeaks.l0]
    rw [if_neg (by omega)]
    have hf : load_First.f (load_Peak.go ps ps.length).f0 (load_Peak.go ps ps.length).f1 ls = some (-1) := by
      unfold load_First.f
      rw [firstAt_miss]
      intro j hj
      obtain ⟨n1, n2⟩ := nowAt_prof ls ps hp j hj
      unfold load_First.stops
      rw [n1, n2, first_fits_is]
      have h1 := g2 j (by omega)
      have h2 := hpos j (by omega)
      have : fitsB ⟨(load_Peak.go ps ps.length).f0, (load_Peak.go ps ps.length).f1⟩ (ps.getD j z23) = true := by
        unfold fitsB
        simp only [decide_eq_true_eq]
        omega
      rw [this]
      rfl
    rw [hf]
    simp only [Option.bind_some, if_true]
    by_cases c : (ls.length : Int) = 0
    · rw [if_pos c]
    rw [if_neg c]
    by_cases c2 : (load_Peak.go ps ps.length).f0 = 0
    · rw [if_pos c2]
    rw [if_neg c2]
    rcases g3 with g3 | ⟨j, hj, g3⟩
    · exact absurd g3 c2
    unfold load_First.f
    simp only [Option.bind_some, Option.some.injEq, decide_eq_true_eq]
    refine firstAt_ge _ _ j (by omega) ?_
    obtain ⟨n1, n2⟩ := nowAt_prof ls ps hp j (by omega)
    unfold load_First.stops
    rw [n1, n2, first_fits_is]
    obtain ⟨_, hs⟩ := prof_at ls _ ps hp j (by omega)
    have hb : -9223372036854775808 ≤ (load_Peak.go ps ps.length).f0 ∧ (load_Peak.go ps ps.length).f0 ≤ 9223372036854775807 := by
      rw [← g3, hs]
      simp only [sum]
      unfold wrap64
      omega
    have hw : wrap64 ((load_Peak.go ps ps.length).f0 - 1) = (load_Peak.go ps ps.length).f0 - 1 := by
      unfold wrap64
      omega
    have : fitsB ⟨wrap64 ((load_Peak.go ps ps.length).f0 - 1), (load_Peak.go ps ps.length).f1⟩ (ps.getD j z23) = false := by
      unfold fitsB
      rw [hw]
      simp only [decide_eq_false_iff_not]
      omega
    rw [this]
    rfl
theorem loadPeaks_law (ls : List S23) (_ : ∀ l ∈ ls, (Lit.int .i64 l.f0).wf = true ∧ (Lit.int .i64 l.f1).wf = true) (_ : ls.length * Try.prog.bytesOf 23 ≤ reachBytes) : ∃ k, jitneylaw04_LoadPeaks.f k ls = some true := ⟨100, loadPeaks_true ls⟩
end Go.Proofs.Ytocoapfnkkmkiaa.P
