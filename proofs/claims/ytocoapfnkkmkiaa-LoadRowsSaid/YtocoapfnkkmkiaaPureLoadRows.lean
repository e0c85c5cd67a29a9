/- Of all rows of loads the profile is as said: the plain law. -/
import Derived.Test.YtocoapfnkkmkiaaPlain
import Derived.Test.YtocoapfnkkmkiaaWalkLoadRows
namespace Go.Proofs.Ytocoapfnkkmkiaa.P
open Go.Proofs.YtocoapfnkkmkiaaR
open Go.RowKit Go.Proofs.YtocoapfnkkmkiaaW.PrintWords Go.Proofs.YtocoapfnkkmkiaaW.PrintLast Go.Proofs.YtocoapfnkkmkiaaW.PrintMore
theorem refProfile_loop (xs : List S23) (hl : xs.length ≤ 8796093022208) : ∀ (d k i : Nat) (acc : List S23) (now : S23), xs.length - i = d → i ≤ xs.length → acc.length = i → d < k →
    jitneyref04_Profile.l0 k xs acc (i : Int) now.f0 now.f1 = some (match prof now (xs.drop i) with | some ps => (acc ++ ps, true) | none => ([], false)) := by
  intro d
  induction d with
  | zero =>
    intro k i acc now hd hi hacc hk
    obtain ⟨k, rfl⟩ : ∃ m, k = m + 1 := ⟨k - 1, by omega⟩
    simp only [jitneyref04_Profile.l0]
    rw [if_neg (by omega), List.drop_eq_nil_of_le (by omega)]
    simp [prof]
  | succ d ih =>
    intro k i acc now hd hi hacc hk
    obtain ⟨k, rfl⟩ : ∃ m, k = m + 1 := ⟨k - 1, by omega⟩
    have hlt : i < xs.length := by omega
    simp only [jitneyref04_Profile.l0]
    rw [if_pos (by omega), if_pos (by omega)]
    rw [refAdd_is]
    simp only [Option.bind_some]
    rw [rd_drop hlt]
    simp only [prof]
    cases hok : okAdd now (rd_T23 xs i) with
    | true =>
      simp only [if_true]
      rw [if_pos (by omega), wrap_succ hlt hl]
      rw [ih k (i + 1) _ (sum now (rd_T23 xs i)) (by omega) (by omega) (by simp [hacc]) (by omega)]
      cases prof (sum now (rd_T23 xs i)) (xs.drop (i + 1)) <;> simp
    | false => simp
theorem refProfile_is (xs : List S23) (hl : xs.length ≤ 8796093022208) (k : Nat) (hk : xs.length < k) : jitneyref04_Profile.f k xs = some (match prof ⟨0, 0⟩ xs with | some ps => (ps, true) | none => ([], false)) := by
  unfold jitneyref04_Profile.f
  have := refProfile_loop xs hl xs.length k 0 [] ⟨0, 0⟩ (by omega) (by omega) rfl hk
  simpa using this
theorem nowAt_succ (xs : List S23) (i : Nat) : load_First.nowAt xs (i + 1) = if okAdd (load_First.nowAt xs i) (rd_T23 xs i) = true then sum (load_First.nowAt xs i) (rd_T23 xs i) else ⟨0, 0⟩ := by
  simp only [load_First.nowAt]
  rw [first_add_is]
  split <;> rfl
theorem stops_is (room : S23) (xs : List S23) (i : Nat) : load_First.stops room xs i = (!(okAdd (load_First.nowAt xs i) (rd_T23 xs i)) || !(fitsB room (load_First.nowAt xs (i + 1)))) := by
  unfold load_First.stops
  rw [first_add_is, first_fits_is]
  cases okAdd (load_First.nowAt xs i) (rd_T23 xs i) <;> rfl
theorem refFirst_loop (room : S23) (xs : List S23) (hl : xs.length ≤ 8796093022208) : ∀ (d k i : Nat), xs.length - i = d → i ≤ xs.length → (∀ j, j < i → load_First.stops room xs j = false) → d < k →
    jitneyref04_First.l0 k xs (i : Int) room.f0 room.f1 (load_First.nowAt xs i).f0 (load_First.nowAt xs i).f1 = some (firstAt (load_First.stops room xs) xs.length) := by
  intro d
  induction d with
  | zero =>
    intro k i hd hi hs hk
    obtain ⟨k, rfl⟩ : ∃ m, k = m + 1 := ⟨k - 1, by omega⟩
    simp only [jitneyref04_First.l0]
    rw [if_neg (by omega), firstAt_miss _ _ (fun j hj => hs j (by omega))]
  | succ d ih =>
    intro k i hd hi hs hk
    obtain ⟨k, rfl⟩ : ∃ m, k = m + 1 := ⟨k - 1, by omega⟩
    have hlt : i < xs.length := by omega
    simp only [jitneyref04_First.l0]
    rw [if_pos (by omega), if_pos (by omega)]
    rw [refAdd_is]
    simp only [Option.bind_some]
    have hst := stops_is room xs i
    have hnx := nowAt_succ xs i
    cases hok : okAdd (load_First.nowAt xs i) (rd_T23 xs i) with
    | true =>
      rw [hok] at hst hnx
      rw [if_pos rfl] at hnx
      simp only [if_true]
      rw [← hnx, refFits_is]
      simp only [Option.bind_some]
      cases hf : fitsB room (load_First.nowAt xs (i + 1)) with
      | true =>
        rw [hf] at hst
        simp only [if_true]
        rw [wrap_succ hlt hl]
        exact ih k (i + 1) (by omega) (by omega) (fun j hj => by
          by_cases e : j = i
          · subst e; exact hst
          · exact hs j (by omega)) (by omega)
      | false =>
        rw [hf] at hst
        rw [firstAt_hit _ _ i hlt hst hs]
        rfl
    | false =>
      rw [hok] at hst
      rw [firstAt_hit _ _ i hlt (by rw [hst]; rfl) hs]
      rfl
theorem refFirst_is (room : S23) (xs : List S23) (hl : xs.length ≤ 8796093022208) (k : Nat) (hk : xs.length < k) : jitneyref04_First.f k room.f0 room.f1 xs = some (firstAt (load_First.stops room xs) xs.length) := by
  unfold jitneyref04_First.f
  exact refFirst_loop room xs hl xs.length k 0 (by omega) (by omega) (fun j hj => absurd hj (Nat.not_lt_zero _)) hk
theorem loadRows_law (room : S23) (A1 : Option Addr) (c1 : Nat) (xs : List S23) (w : World) (hr : Kd.C k23 w A1 xs.length xs) (hc : xs.length ≤ c1) :
    Calls Try.prog 4 #[.agg #[.int .i64 room.f0, .int .i64 room.f1], .slice A1 xs.length c1] w fun e w' => e = .returned (.bool true) ∧ Below w.heap.size w w' := by
  by_cases hlen : 200 < xs.length
  · exact loadRows_long _ _ _ _ _ _ hlen
  · have hP := profile_is xs (by omega) 201 (by omega)
    have hQ := refProfile_is xs (by omega) 201 (by omega)
    have hF : load_First.f room.f0 room.f1 xs = some (firstAt (load_First.stops room xs) xs.length) := rfl
    have hG := refFirst_is room xs (by omega) 201 (by omega)
    have hK : ∀ ps ok, load_Profile.f 201 xs = some (ps, ok) → load_Peak.f 201 xs = some ((load_Peak.go ps ps.length).f0, (load_Peak.go ps ps.length).f1) := by
      intro ps ok h
      unfold load_Peak.f
      rw [h]
      rfl
    cases hp : prof ⟨0, 0⟩ xs with
    | none =>
      rw [hp] at hP hQ
      exact loadRows_walk 201 _ _ A1 c1 xs _ _ _ w hr hc (by omega) hP hQ hF hG (hK _ _ hP)
    | some ps =>
      rw [hp] at hP hQ
      exact loadRows_walk 201 _ _ A1 c1 xs _ _ _ w hr hc (by omega) hP hQ hF hG (hK _ _ hP)
end Go.Proofs.Ytocoapfnkkmkiaa.P
