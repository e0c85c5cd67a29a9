/- Loads: what the printed functions tell, in plain words. -/
import Derived.Test.YtocoapfnkkmkiaaP2
import Derived.Test.YtocoapfnkkmkiaaP3
import Derived.Test.YtocoapfnkkmkiaaP4
import Derived.Test.YtocoapfnkkmkiaaP5
import Derived.Test.YtocoapfnkkmkiaaP6
import Derived.Test.YtocoapfnkkmkiaaP7
import Derived.Test.YtocoapfnkkmkiaaP8
namespace Go.Proofs.Ytocoapfnkkmkiaa.P
open Go.Proofs.YtocoapfnkkmkiaaR
open Go.RowKit Go.Proofs.YtocoapfnkkmkiaaW.PrintWords Go.Proofs.YtocoapfnkkmkiaaW.PrintLast Go.Proofs.YtocoapfnkkmkiaaW.PrintMore

theorem load_within.is (a b lo hi : Int) : load_within.f a b lo hi = some (decide (lo ≤ a ∧ a ≤ hi ∧ lo ≤ b ∧ b ≤ hi)) := by
  unfold load_within.f
  repeat' split
  all_goals simp only [Option.some.injEq, decide_eq_decide]
  · omega
  all_goals (symm; simp only [decide_eq_false_iff_not]; omega)
def mayB (a b : Int) : Bool := decide (-1073741824 ≤ a ∧ a ≤ 1073741824 ∧ -1073741824 ≤ b ∧ b ≤ 1073741824)
theorem load_may.is (a b : Int) : load_may.f a b = some (mayB a b) := by
  unfold load_may.f
  rw [load_within.is]
  rfl
theorem May.is (a b : Int) : jitneyref04_May.f a b = some (mayB a b) := by
  rw [jitneyref04_May.is]
  unfold mayB
  simp only [Option.some.injEq]
  rw [Bool.eq_iff_iff]
  simp only [Bool.and_eq_true, decide_eq_true_eq]
  omega
def okAdd (a b : S23) : Bool := jitneyref04_Add.ok a.f0 a.f1 b.f0 b.f1
def sum (a b : S23) : S23 := ⟨wrap64 (a.f0 + b.f0), wrap64 (a.f1 + b.f1)⟩
theorem okAdd_iff (a b : S23) : okAdd a b = (mayB a.f0 a.f1 && mayB b.f0 b.f1 && mayB (sum a b).f0 (sum a b).f1) := by
  unfold okAdd mayB jitneyref04_Add.ok sum
  rw [Bool.eq_iff_iff]
  simp only [Bool.and_eq_true, decide_eq_true_eq]
  omega
theorem refAdd_is (a b : S23) : jitneyref04_Add.f a.f0 a.f1 b.f0 b.f1 = some (if okAdd a b = true then ((sum a b).f0, (sum a b).f1, true) else (0, 0, false)) := by
  unfold jitneyref04_Add.f okAdd sum
  split <;> rfl
theorem add_is (k : Nat) (a b : S23) : load_Add.f (k + 1) a.f0 a.f1 b.f0 b.f1 = some (if okAdd a b = true then ((sum a b).f0, (sum a b).f1, true) else (0, 0, false)) := by
  rw [okAdd_iff]
  unfold load_Add.f load_Add.j0
  simp only [load_may.is, Option.bind_some]
  cases h1 : mayB a.f0 a.f1 <;> cases h2 : mayB b.f0 b.f1 <;> simp only [Bool.false_and, Bool.true_and, Bool.and_false, Bool.and_true, Bool.not_true, Bool.not_false, if_true, if_false, Bool.false_eq_true]
  show (if mayB (sum a b).f0 (sum a b).f1 = true then _ else _) = _
  cases h3 : mayB (sum a b).f0 (sum a b).f1 <;> rfl
def fitsB (r l : S23) : Bool := decide (0 ≤ l.f0 ∧ 0 ≤ l.f1 ∧ l.f0 ≤ r.f0 ∧ l.f1 ≤ r.f1)
theorem fits_is (r l : S23) : load_Fits.f r.f0 r.f1 l.f0 l.f1 = some (fitsB r l) := by
  unfold load_Fits.f fitsB
  repeat' split
  all_goals simp only [Option.some.injEq, decide_eq_decide]
  · omega
  all_goals (symm; simp only [decide_eq_false_iff_not]; omega)
theorem refFits_is (r l : S23) : jitneyref04_Fits.f r.f0 r.f1 l.f0 l.f1 = some (fitsB r l) := by
  unfold jitneyref04_Fits.f fitsB
  repeat' split
  all_goals simp only [Option.some.injEq, decide_eq_decide]
  · omega
  all_goals (symm; simp only [decide_eq_false_iff_not]; omega)
def rightB (l : S23) : Bool := decide (0 ≤ l.f0 ∧ l.f0 ≤ 1000 ∧ 0 ≤ l.f1 ∧ l.f1 ≤ 1000)
theorem right_is (l : S23) : load_Right.f l.f0 l.f1 = some (rightB l) := by
  unfold load_Right.f
  rw [load_within.is]
  rfl
theorem refRight_is (l : S23) : jitneyref04_Right.f l.f0 l.f1 = some (rightB l) := by
  unfold jitneyref04_Right.f rightB
  repeat' split
  all_goals simp only [Option.some.injEq, decide_eq_decide]
  · omega
  all_goals (symm; simp only [decide_eq_false_iff_not]; omega)
theorem neg_is (l : S23) : load_Neg.f l.f0 l.f1 = some (if mayB l.f0 l.f1 = true then (wrap64 (-l.f0), wrap64 (-l.f1)) else (0, 0)) := by
  unfold load_Neg.f
  simp only [load_may.is, Option.bind_some]
  split <;> rfl
/-- The loads behind each of a row, from one on; none where they may not be. -/
def prof (now : S23) : List S23 → Option (List S23)
  | [] => some []
  | l :: ls => if okAdd now l = true then (prof (sum now l) ls).map (sum now l :: ·) else none
theorem wrap_succ {i n : Nat} (h : i < n) (hn : n ≤ 8796093022208) : wrap64 ((i : Int) + 1) = ((i + 1 : Nat) : Int) := by
  unfold wrap64
  omega
theorem rd_drop {xs : List S23} {i : Nat} (h : i < xs.length) : xs.drop i = rd_T23 xs i :: xs.drop (i + 1) := by
  rw [List.drop_eq_getElem_cons h]
  congr 1
  unfold rd_T23
  simp [h]
theorem profile_loop (xs : List S23) (hl : xs.length ≤ 8796093022208) : ∀ (d k i : Nat) (acc : List S23) (now : S23), xs.length - i = d → i ≤ xs.length → acc.length = i → d < k →
    load_Profile.l0 k acc xs (xs.length : Int) (i : Int) now.f0 now.f1 = some (match prof now (xs.drop i) with | some ps => (acc ++ ps, true) | none => ([], false)) := by
  intro d
  induction d with
  | zero =>
    intro k i acc now hd hi hacc hk
    obtain ⟨k, rfl⟩ : ∃ m, k = m + 1 := ⟨k - 1, by omega⟩
    simp only [load_Profile.l0]
    rw [if_neg (by omega), List.drop_eq_nil_of_le (by omega)]
    simp [prof]
  | succ d ih =>
    intro k i acc now hd hi hacc hk
    obtain ⟨k, rfl⟩ : ∃ m, k = m + 1 := ⟨k - 1, by omega⟩
    have hlt : i < xs.length := by omega
    simp only [load_Profile.l0]
    rw [if_pos (by omega), if_pos (by omega), if_pos (by omega)]
    obtain ⟨k, rfl⟩ : ∃ m, k = m + 1 := ⟨k - 1, by omega⟩
    rw [add_is]
    simp only [Option.bind_some]
    rw [rd_drop hlt]
    simp only [prof]
    cases hok : okAdd now (rd_T23 xs i) with
    | true =>
      simp only [if_true]
      rw [if_pos (by omega), wrap_succ hlt hl]
      rw [ih (k + 1) (i + 1) _ (sum now (rd_T23 xs i)) (by omega) (by omega) (by simp [hacc]) (by omega)]
      cases prof (sum now (rd_T23 xs i)) (xs.drop (i + 1)) <;> simp
    | false => simp
theorem profile_is (xs : List S23) (hl : xs.length ≤ 8796093022208) (k : Nat) (hk : xs.length < k) : load_Profile.f k xs = some (match prof ⟨0, 0⟩ xs with | some ps => (ps, true) | none => ([], false)) := by
  unfold load_Profile.f
  have := profile_loop xs hl xs.length k 0 [] ⟨0, 0⟩ (by omega) (by omega) rfl hk
  simpa using this
theorem first_add_is (n l : S23) : load_First.add n l = if okAdd n l = true then ((sum n l).f0, (sum n l).f1, true) else (0, 0, false) := by
  unfold load_First.add
  rw [add_is]
  rfl
theorem first_fits_is (r l : S23) : load_First.fits r l = fitsB r l := by
  unfold load_First.fits
  rw [fits_is]
  rfl
/-- Where the profile stands, nothing is amiss on the way. -/
theorem prof_length : ∀ (ls : List S23) (now : S23) (ps : List S23), prof now ls = some ps → ps.length = ls.length := by
  intro ls
  induction ls with
  | nil => intro now ps h; simp [prof] at h; subst h; rfl
  | cons l ls ih =>
    intro now ps h
    simp only [prof] at h
    split at h
    · obtain ⟨qs, hq, rfl⟩ := Option.map_eq_some_iff.1 h
      simp [ih _ _ hq]
    · cases h
theorem rd_nat (xs : List S23) (i : Nat) : rd_T23 xs (i : Int) = xs.getD i z23 := by
  unfold rd_T23
  simp
/-- now at each place, as the profile tells it. -/
theorem prof_at : ∀ (ls : List S23) (now : S23) (ps : List S23), prof now ls = some ps → ∀ j, j < ls.length → okAdd (if j = 0 then now else ps.getD (j - 1) z23) (ls.getD j z23) = true ∧ ps.getD j z23 = sum (if j = 0 then now else ps.getD (j - 1) z23) (ls.getD j z23) := by
  intro ls
  induction ls with
  | nil => intro now ps h j hj; simp at hj
  | cons l ls ih =>
    intro now ps h j hj
    simp only [prof] at h
    split at h
    · rename_i hok
      obtain ⟨qs, hq, rfl⟩ := Option.map_eq_some_iff.1 h
      cases j with
      | zero => exact ⟨by simpa using hok, by simp⟩
      | succ j =>
        have := ih _ _ hq j (by simpa using hj)
        cases j with
        | zero => simpa using this
        | succ j => simpa using this
    · cases h
theorem nowAt_prof (ls ps : List S23) (h : prof ⟨0, 0⟩ ls = some ps) : ∀ j, j < ls.length → load_First.nowAt ls (j + 1) = ps.getD j z23 ∧ (load_First.add (load_First.nowAt ls j) (rd_T23 ls j)).2.2 = true := by
  have step : ∀ j, j < ls.length → load_First.nowAt ls j = (if j = 0 then ⟨0, 0⟩ else ps.getD (j - 1) z23) → load_First.nowAt ls (j + 1) = ps.getD j z23 ∧ (load_First.add (load_First.nowAt ls j) (rd_T23 ls j)).2.2 = true := by
    intro j hj hn
    obtain ⟨h1, h2⟩ := prof_at ls _ ps h j hj
    rw [rd_nat] at *
    simp only [load_First.nowAt]
    rw [rd_nat, hn, first_add_is, h1, h2]
    simp
  intro j
  induction j with
  | zero => intro hj; exact step 0 hj rfl
  | succ j ih =>
    intro hj
    exact step (j + 1) hj (by rw [(ih (by omega)).1]; simp)
end Go.Proofs.Ytocoapfnkkmkiaa.P
