/- A row and what takes it away again: the plain law. -/
import Derived.Test.YtocoapfnkkmkiaaPlain
import Derived.Test.YtocoapfnkkmkiaaWalkLoadBack
import Derived.Laws.BitsLemmas
namespace Go.Proofs.Ytocoapfnkkmkiaa.P
open Go.Proofs.YtocoapfnkkmkiaaR
open Go.RowKit Go.Proofs.YtocoapfnkkmkiaaW.PrintWords Go.Proofs.YtocoapfnkkmkiaaW.PrintLast Go.Proofs.YtocoapfnkkmkiaaW.PrintMore
theorem back_and1023 (n : Int) : Go.bits .and .i64 n 1023 = n % 1024 := by
  have hm : (BitVec.ofInt 64 1023).toNat = 2 ^ 10 - 1 := by decide
  have key : (BitVec.ofInt 64 n &&& BitVec.ofInt 64 1023).toNat = (n % ((2 ^ 64 : Nat) : Int)).toNat % 2 ^ 10 := by
    rw [BitVec.toNat_and, BitVec.toNat_ofInt, hm, Nat.and_two_pow_sub_one_eq_mod]
  show IntKind.i64.wrap ((BitVec.ofInt 64 n &&& BitVec.ofInt 64 1023).toNat : Nat) = n % 1024
  rw [key, IntKind.wrap_i64]
  omega
theorem prof_append : ∀ (a b : List S23) (now : S23) (pa : List S23), prof now a = some pa → prof now (a ++ b) = (prof (pa.getLastD now) b).map (pa ++ ·) := by
  intro a
  induction a with
  | nil =>
    intro b now pa h
    simp only [prof, Option.some.injEq] at h
    subst h
    simp
  | cons l a ih =>
    intro b now pa h
    simp only [prof] at h
    split at h
    · rename_i hok
      obtain ⟨qs, hq, rfl⟩ := Option.map_eq_some_iff.1 h
      have e : (sum now l :: qs).getLastD now = qs.getLastD (sum now l) := List.getLastD_cons
      rw [e, List.cons_append]
      simp only [prof]
      rw [if_pos hok, ih b _ _ hq]
      cases prof (qs.getLastD (sum now l)) b <;> rfl
    · cases h
def palS (xs : List S23) : List S23 := xs ++ xs.reverse.map negV
theorem palS_cons (x : S23) (xs : List S23) : palS (x :: xs) = x :: (palS xs ++ [negV x]) := by
  unfold palS
  simp
theorem add_right (now x : S23) (b : Int) (hb : b ≤ 60000) (h0 : 0 ≤ now.f0 ∧ now.f0 ≤ b) (h1 : 0 ≤ now.f1 ∧ now.f1 ≤ b) (hx : rightB x = true) :
    okAdd now x = true ∧ (0 ≤ (sum now x).f0 ∧ (sum now x).f0 ≤ b + 1000) ∧ (0 ≤ (sum now x).f1 ∧ (sum now x).f1 ≤ b + 1000) ∧ okAdd (sum now x) (negV x) = true ∧ sum (sum now x) (negV x) = now := by
  unfold rightB at hx
  rw [decide_eq_true_eq] at hx
  have hm : mayB x.f0 x.f1 = true := by unfold mayB; rw [decide_eq_true_eq]; omega
  have hn : negV x = ⟨-x.f0, -x.f1⟩ := by
    unfold negV negS
    rw [if_pos hm]
    unfold wrap64
    congr 1 <;> omega
  have hs : sum now x = ⟨now.f0 + x.f0, now.f1 + x.f1⟩ := by
    unfold sum wrap64
    congr 1 <;> omega
  have hs2 : sum (sum now x) (negV x) = now := by
    rw [hn, hs]
    unfold sum wrap64
    cases now
    simp only [S23.mk.injEq] at *
    constructor <;> omega
  refine ⟨?_, ?_, ?_, ?_, hs2⟩
  · rw [okAdd_iff, hs]
    unfold mayB
    simp only [Bool.and_eq_true, decide_eq_true_eq]
    omega
  · rw [hs]; constructor <;> simp only <;> omega
  · rw [hs]; constructor <;> simp only <;> omega
  · rw [okAdd_iff, hs2, hn, hs]
    unfold mayB
    simp only [Bool.and_eq_true, decide_eq_true_eq]
    omega
theorem pal_prof : ∀ (xs : List S23) (now : S23), (∀ x ∈ xs, rightB x = true) → ∀ b : Int, b + 1000 * (xs.length : Int) ≤ 60000 → 0 ≤ now.f0 ∧ now.f0 ≤ b → 0 ≤ now.f1 ∧ now.f1 ≤ b →
    ∃ qs ps, prof now xs = some qs ∧ prof now (palS xs) = some ps ∧ ps.length = 2 * xs.length ∧ ps.getLastD now = now ∧ ∀ room, fitsB room now = true → ((∀ p ∈ ps, fitsB room p = true) ↔ (∀ q ∈ qs, fitsB room q = true)) := by
  intro xs
  induction xs with
  | nil => intro now _ b _ _ _; exact ⟨[], [], rfl, rfl, rfl, rfl, fun room _ => Iff.rfl⟩
  | cons x xs ih =>
    intro now hx b hb h0 h1
    simp only [List.length_cons] at hb
    obtain ⟨ok, s0, s1, ok2, back⟩ := add_right now x b (by omega) h0 h1 (hx x (by simp))
    obtain ⟨qs, ps, hq, hp, hl, hz, hf⟩ := ih (sum now x) (fun y hy => hx y (by simp [hy])) (b + 1000) (by omega) s0 s1
    refine ⟨sum now x :: qs, sum now x :: (ps ++ [now]), ?_, ?_, ?_, ?_, ?_⟩
    · simp only [prof]; rw [if_pos ok, hq]; rfl
    · rw [palS_cons]; simp only [prof]; rw [if_pos ok, prof_append _ _ _ _ hp, hz]; simp only [prof]; rw [if_pos ok2, back]; rfl
    · simp only [List.length_cons, List.length_append, List.length_nil, hl]; omega
    · rw [List.getLastD_cons]; simp
    · intro room hr
      constructor
      · intro h q hq
        have hn : fitsB room (sum now x) = true := h _ (by simp)
        rcases List.mem_cons.1 hq with rfl | hq
        · exact hn
        · exact (hf room hn).1 (fun p hp => h p (by simp [hp])) q hq
      · intro h p hp
        have hn : fitsB room (sum now x) = true := h _ (by simp)
        rcases List.mem_cons.1 hp with rfl | hp
        · exact hn
        · rcases List.mem_append.1 hp with hp | hp
          · exact (hf room hn).2 (fun q hq => h q (by simp [hq])) p hp
          · rw [List.mem_singleton.1 hp]; exact hr
theorem stops_prof (room : S23) (xs qs : List S23) (h : prof ⟨0, 0⟩ xs = some qs) (j : Nat) (hj : j < xs.length) : load_First.stops room xs j = !fitsB room (qs.getD j z23) := by
  obtain ⟨h1, h2⟩ := nowAt_prof xs qs h j hj
  unfold load_First.stops
  rw [first_fits_is]
  rw [h2, h1]
  simp
theorem first_prof (room : S23) (xs qs : List S23) (h : prof ⟨0, 0⟩ xs = some qs) : decide (firstAt (load_First.stops room xs) xs.length < 0) = decide (∀ q ∈ qs, fitsB room q = true) := by
  have hl := prof_length _ _ _ h
  rw [decide_eq_decide]
  constructor
  · intro hn q hq
    obtain ⟨j, hj, rfl⟩ := List.mem_iff_getElem.1 hq
    cases hs : load_First.stops room xs j with
    | true =>
      exfalso
      unfold firstAt at hn
      cases hf : (List.range xs.length).find? (load_First.stops room xs) with
      | none =>
        rw [List.find?_range_eq_none] at hf
        have := hf j (by omega)
        rw [hs] at this
        exact absurd this (by simp)
      | some k =>
        rw [hf] at hn
        have : (k : Int) < 0 := hn
        omega
    | false =>
      rw [stops_prof room xs qs h j (by omega)] at hs
      have e : qs.getD j z23 = qs[j] := by simp [hj]
      rw [e] at hs
      simpa using hs
  · intro hall
    rw [firstAt_miss _ _ (fun j hj => ?_)]
    · decide
    · rw [stops_prof room xs qs h j hj]
      have e : qs.getD j z23 = qs[j]'(by omega) := by simp [show j < qs.length by omega]
      rw [e, hall _ (List.getElem_mem _)]
      rfl
theorem peak_fits (room : S23) (h0 : 0 ≤ room.f0) (h1 : 0 ≤ room.f1) (qs : List S23) (hall : ∀ q ∈ qs, fitsB room q = true) : ∀ n, n ≤ qs.length → fitsB room (load_Peak.go qs n) = true := by
  intro n
  induction n with
  | zero => intro _; unfold fitsB; rw [decide_eq_true_eq]; simp only [load_Peak.go]; omega
  | succ n ih =>
    intro hn
    have hg := ih (by omega)
    have hq := hall (qs[n]'(by omega)) (List.getElem_mem _)
    have e : rd_T23 qs (n : Int) = qs[n]'(by omega) := by rw [rd_nat]; simp [show n < qs.length by omega]
    unfold fitsB at hg hq ⊢
    rw [decide_eq_true_eq] at hg hq ⊢
    simp only [load_Peak.go, load_Peak.top]
    rw [e]
    omega
theorem loadBack_law (room : S23) (A1 : Option Addr) (c1 : Nat) (xs : List S23) (more : Int) (w : World) (hr : Kd.C k23 w A1 xs.length xs) (hc : xs.length ≤ c1) :
    Calls Try.prog 5 #[.agg #[.int .i64 room.f0, .int .i64 room.f1], .slice A1 xs.length c1, .int .i64 more] w fun e w' => e = .returned (.bool true) ∧ Below w.heap.size w w' := by
  by_cases hlen : 60 < xs.length
  · exact loadBack_long _ _ _ _ _ _ _ hlen
  have hF : ∀ (r : S23) (l : List S23), load_First.f r.f0 r.f1 l = some (firstAt (load_First.stops r l) l.length) := fun _ _ => rfl
  have hbk : palS xs = xs ++ backTail xs 0 := by unfold palS backTail; rw [List.drop_zero]
  have hbl : (palS xs).length = 2 * xs.length := by unfold palS; simp; omega
  -- the profile of both
  have main : ∃ ps : List S23, ps.length = 2 * xs.length ∧ ((∀ j, j < xs.length → rightB (rd_T23 xs j) = true) → load_Profile.f 200 (palS xs) = some (ps, true) ∧ (0 < xs.length → rd_T23 ps ((2 * xs.length - 1 : Nat) : Int) = ⟨0, 0⟩) ∧
      ∃ qs, prof ⟨0, 0⟩ xs = some qs ∧ prof ⟨0, 0⟩ (palS xs) = some ps ∧ ∀ r : S23, 0 ≤ r.f0 → 0 ≤ r.f1 → ((∀ p ∈ ps, fitsB r p = true) ↔ (∀ q ∈ qs, fitsB r q = true))) := by
    by_cases hR : ∀ j, j < xs.length → rightB (rd_T23 xs j) = true
    · have hx : ∀ x ∈ xs, rightB x = true := by
        intro x hx
        obtain ⟨j, hj, rfl⟩ := List.mem_iff_getElem.1 hx
        have := hR j hj
        rw [rd_nat] at this
        simpa [hj] using this
      obtain ⟨qs, ps, hq, hp, hl, hz, hf⟩ := pal_prof xs ⟨0, 0⟩ hx 0 (by omega) ⟨by decide, by decide⟩ ⟨by decide, by decide⟩
      refine ⟨ps, hl, fun _ => ⟨?_, ?_, qs, hq, hp, fun r h0 h1 => hf r (by unfold fitsB; rw [decide_eq_true_eq]; exact ⟨Int.le_refl _, Int.le_refl _, h0, h1⟩)⟩⟩
      · rw [profile_is _ (by omega) 200 (by omega), hp]
      · intro hn
        rw [rd_nat]
        have : ps ≠ [] := by intro h; rw [h] at hl; simp at hl; omega
        rw [List.getLastD_eq_getLast?, List.getLast?_eq_getElem?] at hz
        rw [show 2 * xs.length - 1 = ps.length - 1 by omega]
        have hlt : ps.length - 1 < ps.length := by omega
        simp [hlt] at hz ⊢
        exact hz
    · exact ⟨List.replicate (2 * xs.length) z23, by simp, fun h => absurd h hR⟩
  obtain ⟨ps, hpl, hall⟩ := main
  have hRr := right_is room
  have hK : ∃ p0 p1, load_Peak.f 200 xs = some (p0, p1) ∧ ∀ qs, prof ⟨0, 0⟩ xs = some qs → p0 = (load_Peak.go qs qs.length).f0 ∧ p1 = (load_Peak.go qs qs.length).f1 := by
    unfold load_Peak.f
    rw [profile_is xs (by omega) 200 (by omega)]
    cases hp : prof ⟨0, 0⟩ xs with
    | none => exact ⟨_, _, rfl, fun qs h => by cases h⟩
    | some qs => exact ⟨_, _, rfl, fun qs' h => by cases h; exact ⟨rfl, rfl⟩⟩
  obtain ⟨p0, p1, hK, hKq⟩ := hK
  cases hrr : rightB room with
  | false =>
    rw [hrr] at hRr
    cases hfb : decide (firstAt (load_First.stops room xs) xs.length < 0) with
    | true => exact loadBack_walk10 200 _ _ more (palS xs) A1 c1 xs ps _ 0 0 0 0 w hr hc (by omega) hbk (fun h => (hall h).1) hpl (fun h => (hall h).2.1) (hF room xs) hfb hRr
    | false => exact loadBack_walk00 200 _ _ more (palS xs) A1 c1 xs ps _ 0 0 0 0 w hr hc (by omega) hbk (fun h => (hall h).1) hpl (fun h => (hall h).2.1) (hF room xs) hfb hRr
  | true =>
    rw [hrr] at hRr
    unfold rightB at hrr
    rw [decide_eq_true_eq] at hrr
    have same : ∀ r : S23, 0 ≤ r.f0 → 0 ≤ r.f1 → (∀ j, j < xs.length → rightB (rd_T23 xs j) = true) → decide (firstAt (load_First.stops r (palS xs)) (palS xs).length < 0) = decide (firstAt (load_First.stops r xs) xs.length < 0) := by
      intro r h0 h1 hR
      obtain ⟨_, _, qs, hq, hp, hf⟩ := hall hR
      rw [first_prof r _ _ hp, first_prof r _ _ hq, decide_eq_decide]
      exact hf r h0 h1
    cases hfb : decide (firstAt (load_First.stops room xs) xs.length < 0) with
    | false => exact loadBack_walk01 200 _ _ more (palS xs) A1 c1 xs ps _ _ 0 0 0 w hr hc (by omega) hbk (fun h => (hall h).1) hpl (fun h => (hall h).2.1) (hF room xs) hfb hRr (hF room (palS xs)) (fun h => by rw [same room (by omega) (by omega) h, hfb])
    | true =>
      have hm0 : 0 ≤ Go.bits .and .i64 more 1023 ∧ Go.bits .and .i64 more 1023 ≤ 1023 := by rw [back_and1023]; omega
      have hbig : ∃ big : S23, big = ⟨wrap64 (room.f0 + Go.bits .and .i64 more 1023), wrap64 (room.f1 + Go.bits .and .i64 more 1023)⟩ ∧ room.f0 ≤ big.f0 ∧ room.f1 ≤ big.f1 := by
        refine ⟨_, rfl, ?_, ?_⟩ <;> (simp only; unfold wrap64; omega)
      obtain ⟨big, hbig, hb0, hb1⟩ := hbig
      have hH := hF big (palS xs)
      rw [hbig] at hH
      refine loadBack_walk11 200 _ _ more (palS xs) A1 c1 xs ps _ _ _ p0 p1 w hr hc (by omega) hbk (fun h => (hall h).1) hpl (fun h => (hall h).2.1) (hF room xs) hfb hRr (hF room (palS xs)) (fun h => by rw [same room (by omega) (by omega) h, hfb]) hH (fun h => ?_) hK (fun h => ?_)
      · rw [← hbig, same big (by omega) (by omega) h]
        obtain ⟨_, _, qs, hq, hp, hf⟩ := hall h
        rw [first_prof _ _ _ hq, decide_eq_true_eq] at hfb ⊢
        intro q hqm
        have := hfb q hqm
        unfold fitsB at this ⊢
        rw [decide_eq_true_eq] at this ⊢
        omega
      · obtain ⟨_, _, qs, hq, hp, hf⟩ := hall h
        obtain ⟨rfl, rfl⟩ := hKq qs hq
        rw [first_prof _ _ _ hq, decide_eq_true_eq] at hfb
        have := fits_is room (load_Peak.go qs qs.length)
        rw [peak_fits room (by omega) (by omega) qs hfb _ (Nat.le_refl _)] at this
        exact this
end Go.Proofs.Ytocoapfnkkmkiaa.P
