/- The law SpotRoots: a distance is the least whole number whose square is no less than the square. -/
import Derived.Test.YtajblfmabokgkaaTurns
namespace Go.Proofs.Ytajblfmabokgkaa.P
open Go.Proofs.YtajblfmabokgkaaR
open Go.Shelf Go.Sort
open Go.RowKit Go.Proofs.YtajblfmabokgkaaW.PrintWords Go.Proofs.YtajblfmabokgkaaW.PrintLast Go.Proofs.YtajblfmabokgkaaW.PrintMore
set_option linter.unusedVariables false
set_option linter.unusedSimpArgs false
set_option maxHeartbeats 8000000
set_option maxRecDepth 100000
theorem sqd_le {a b c d : Int} (M : Int) (h1 : -M ≤ a - c ∧ a - c ≤ M) (h2 : -M ≤ b - d ∧ b - d ≤ M) : sqd a b c d ≤ 2 * (M * M) := by
  have key : ∀ z : Int, -M ≤ z ∧ z ≤ M → z * z ≤ M * M := by
    intro z hz
    rcases Int.le_total 0 z with h | h
    · exact num_Root.sq_le h hz.2
    · have := num_Root.sq_le (show 0 ≤ -z by omega) (show -z ≤ M by omega)
      rw [Int.neg_mul_neg] at this
      exact this
  have k1 := key _ h1
  have k2 := key _ h2
  unfold sqd
  omega
/-- How far, for squares below 2^60. -/
theorem far_is {a b c d : Int} (h : sqd a b c d ≤ 1152921504606846976) : num_Root.isRoot (sqd a b c d) (far a b c d) := by
  have h0 := sqd_nonneg a b c d
  have h1 := num_Root.is (sqd a b c d)
  have e : num_Root.cl (sqd a b c d) = sqd a b c d := by
    unfold num_Root.cl mx mn
    (repeat' split) <;> omega
  rw [e] at h1
  exact h1
theorem sq_lt {a b : Int} (h0 : 0 ≤ b) (h : a * a < b * b) : a < b := by
  refine Int.not_le.1 fun hc => ?_
  have := num_Root.sq_le h0 hc
  omega
theorem two_sq (z : Int) : (2 * z) * (2 * z) = 4 * (z * z) := by
  have h : 2 * z * (2 * z) = 2 * 2 * (z * z) := by ac_rfl
  omega
/-- Four times the square has the root doubled, or one less. -/
theorem root_four {q d f : Int} (hd : num_Root.isRoot q d) (hf : num_Root.isRoot (4 * q) f) : f = 2 * d ∨ f = 2 * d - 1 := by
  obtain ⟨d0, d1, d2⟩ := hd
  obtain ⟨f0, f1, f2⟩ := hf
  have e1 := two_sq d
  -- f ≤ 2 d
  have h1 : f ≤ 2 * d := by
    refine Int.not_lt.1 fun hc => ?_
    rcases f2 with h | h
    · omega
    · have := num_Root.sq_le (show 0 ≤ 2 * d by omega) (show 2 * d ≤ f - 1 by omega)
      omega
  -- 2 (d - 1) < f
  rcases d2 with h | h
  · subst h
    omega
  · have e2 := two_sq (d - 1)
    have h2 : 2 * (d - 1) < f := sq_lt f0 (by omega)
    omega
theorem sqd_double (a b : Int) : sqd 0 0 (2 * a) (2 * b) = 4 * sqd 0 0 a b := by
  unfold sqd
  have e : ∀ z : Int, (0 - 2 * z) * (0 - 2 * z) = 4 * ((0 - z) * (0 - z)) := fun z => by
    rw [show 0 - 2 * z = 2 * (0 - z) by omega]; exact two_sq _
  rw [e a, e b]
  omega
theorem roots_facts (a b : Int) (h1 : -8000000 < a ∧ a < 8000000) (h2 : -8000000 < b ∧ b < 8000000) :
    ∃ (ax ay bx by_ : Nat) (d f q : Int), 0 ≤ d ∧ d ≤ 1073741824 ∧ 0 ≤ q ∧ q ≤ 1152921504606846976 ∧ q ≤ d * d ∧ (d = 0 ∨ (d - 1) * (d - 1) < q) ∧ (f = 2 * d ∨ f = 2 * d - 1) ∧
      (∀ w : World, Calls Try.prog 8 #[.int .i64 a, .int .i64 b] w fun e w' => e = .returned (.tuple #[.complex .f64 ax ay, .bool true]) ∧ w' = w) ∧
      (∀ w : World, Calls Try.prog 8 #[.int .i64 (2 * a), .int .i64 (2 * b)] w fun e w' => e = .returned (.tuple #[.complex .f64 bx by_, .bool true]) ∧ w' = w) ∧
      (∀ w : World, Calls Try.prog 9 #[.complex .f64 0 0, .complex .f64 ax ay] w fun e w' => e = .returned (.int .i64 d) ∧ Below w.heap.size w w') ∧
      (∀ w : World, Calls Try.prog 9 #[.complex .f64 0 0, .complex .f64 bx by_] w fun e w' => e = .returned (.int .i64 f) ∧ Below w.heap.size w w') ∧
      (∀ w : World, Calls Try.prog 11 #[.complex .f64 0 0, .complex .f64 ax ay] w fun e w' => e = .returned (.int .i64 q) ∧ w' = w) ∧
      (∀ w : World, Calls Try.prog 11 #[.complex .f64 0 0, .complex .f64 bx by_] w fun e w' => e = .returned (.int .i64 (4 * q)) ∧ w' = w) := by
  have SA := spot_int (a := a) (b := b) ⟨by omega, by omega⟩ ⟨by omega, by omega⟩
  have SB := spot_int (a := 2 * a) (b := 2 * b) ⟨by omega, by omega⟩ ⟨by omega, by omega⟩
  have m1 := sqd_le (a := 0) (b := 0) (c := a) (d := b) 8000000 ⟨by omega, by omega⟩ ⟨by omega, by omega⟩
  have e4 := sqd_double a b
  have n0 := sqd_nonneg 0 0 a b
  have r1 := far_is (a := 0) (b := 0) (c := a) (d := b) (by omega)
  have r2 := far_is (a := 0) (b := 0) (c := 2 * a) (d := 2 * b) (by omega)
  rw [e4] at r2
  have hf := root_four r1 r2
  have hD : far 0 0 a b ≤ 1073741824 := by
    refine Int.not_lt.1 fun hc => ?_
    rcases r1.2.2 with h | h
    · omega
    · have := num_Root.sq_le (show (0 : Int) ≤ 1073741824 by decide) (show 1073741824 ≤ far 0 0 a b - 1 by omega)
      omega
  have hs := spot_Square.calls spot_zero SB
  rw [e4] at hs
  exact ⟨_, _, _, _, far 0 0 a b, far 0 0 (2 * a) (2 * b), sqd 0 0 a b, r1.1, hD, n0, by omega, r1.2.1, r1.2.2, hf, spot_At.calls a b SA.bre SA.bim, spot_At.calls (2 * a) (2 * b) SB.bre SB.bim,
    spot_Dist.calls spot_zero SA, spot_Dist.calls spot_zero SB, spot_Square.calls spot_zero SA, hs⟩
theorem SpotRoots_walk (a0 a1 : Int) (w : World) :
    Calls Try.prog 6 #[.int .i64 a0, .int .i64 a1] w fun e w' => e = .returned (.bool true) ∧ Below w.heap.size w w' := by
  obtain ⟨ax, ay, bx, by_, d, f, q, d0, d1, q0, q1, hq, hd, hf, c1, c2, e1, e2, f1, f2⟩ := roots_facts (Int.tmod a0 8000000) (Int.tmod a1 8000000) (tmod_bound _ _ (by decide)) (tmod_bound _ _ (by decide))
  have w1 : wrap64 (2 * Int.tmod a0 8000000) = 2 * Int.tmod a0 8000000 := by
    have := tmod_bound a0 8000000 (by decide)
    unfold wrap64
    omega
  have w2 : wrap64 (2 * Int.tmod a1 8000000) = 2 * Int.tmod a1 8000000 := by
    have := tmod_bound a1 8000000 (by decide)
    unfold wrap64
    omega
  have dd : d * d ≤ 1073741824 * 1073741824 := num_Root.sq_le d0 d1
  obtain ⟨D, hD⟩ : ∃ D, D = d * d := ⟨_, rfl⟩
  have w3 : wrap64 (d * d) = D := by rw [hD]; unfold wrap64; omega
  have w4 : wrap64 (d - 1) = d - 1 := by unfold wrap64; omega
  have hE : (d - 1) * (d - 1) = D - 2 * d + 1 := by rw [hD, Int.sub_mul, Int.mul_sub, Int.one_mul, Int.mul_one]; omega
  obtain ⟨E, hE2⟩ : ∃ E, E = (d - 1) * (d - 1) := ⟨_, rfl⟩
  have w5 : wrap64 ((d - 1) * (d - 1)) = E := by rw [hE2]; unfold wrap64; omega
  have w6 : wrap64 (2 * d) = 2 * d := by unfold wrap64; omega
  have w7 : wrap64 (2 * d - 1) = 2 * d - 1 := by unfold wrap64; omega
  have w8 : wrap64 (4 * q) = 4 * q := by unfold wrap64; omega
  rw [← hE2] at hd
  rw [← hD] at hq
  have c1 := Aside0.mk c1
  have c2 := Aside0.mk c2
  have e1 := Aside0.mk e1
  have e2 := Aside0.mk e2
  have f1 := Aside0.mk f1
  have f2 := Aside0.mk f2
  have b1 : decide (D ≥ q) = true := decide_eq_true hq
  have b2 : decide (q ≤ D) = true := decide_eq_true hq
  clear hD hE hE2 d0 d1 q0 q1 dd hq
  have b3 : (f == 2 * d) = false → (f == 2 * d - 1) = true := by
    intro h
    have : f ≠ 2 * d := by simpa using h
    have : f = 2 * d - 1 := by omega
    simp [this]
  have b4 : (d == 0) = false → decide (E < q) = true := by
    intro h
    have : d ≠ 0 := by simpa using h
    exact decide_eq_true (hd.resolve_left this)
  have B3 := Aside0.mk b3
  have B4 := Aside0.mk b4
  clear b3 b4 hf hd
  go_enter Try.func6, Try.ntmps6
  cases z1 : (d == 0) <;> cases z2 : (f == 2 * d)
  · have z3 := B4.out z1
    have z4 := B3.out z2
    go_wp2_with (first
      | (go_at_call 7; with_reducible refine (jitneylaw02_alive.calls _).mono ?_; rintro e w1 ⟨rfl, hb⟩; have B1 := Aside0.mk hb; clear hb)
      | (go_at_call 8; with_reducible refine (c1.out _).mono ?_; rintro e w1 ⟨rfl, rfl⟩)
      | (go_at_call 8; with_reducible refine (c2.out _).mono ?_; rintro e w1 ⟨rfl, rfl⟩)
      | (go_at_call 9; with_reducible refine (e1.out _).mono ?_; rintro e w1 ⟨rfl, hb⟩; have B2 := Aside0.mk (B1.out.trans (hb.mono B1.out.size)); clear B1 hb; have B1 := B2; clear B2)
      | (go_at_call 9; with_reducible refine (e2.out _).mono ?_; rintro e w1 ⟨rfl, hb⟩; have B2 := Aside0.mk (B1.out.trans (hb.mono B1.out.size)); clear B1 hb; have B1 := B2; clear B2)
      | (go_at_call 11; with_reducible refine (f1.out _).mono ?_; rintro e w1 ⟨rfl, rfl⟩)
      | (go_at_call 11; with_reducible refine (f2.out _).mono ?_; rintro e w1 ⟨rfl, rfl⟩))
    go_ret
    exact ⟨rfl, B1.out⟩
  · have z3 := B4.out z1
    go_wp2_with (first
      | (go_at_call 7; with_reducible refine (jitneylaw02_alive.calls _).mono ?_; rintro e w1 ⟨rfl, hb⟩; have B1 := Aside0.mk hb; clear hb)
      | (go_at_call 8; with_reducible refine (c1.out _).mono ?_; rintro e w1 ⟨rfl, rfl⟩)
      | (go_at_call 8; with_reducible refine (c2.out _).mono ?_; rintro e w1 ⟨rfl, rfl⟩)
      | (go_at_call 9; with_reducible refine (e1.out _).mono ?_; rintro e w1 ⟨rfl, hb⟩; have B2 := Aside0.mk (B1.out.trans (hb.mono B1.out.size)); clear B1 hb; have B1 := B2; clear B2)
      | (go_at_call 9; with_reducible refine (e2.out _).mono ?_; rintro e w1 ⟨rfl, hb⟩; have B2 := Aside0.mk (B1.out.trans (hb.mono B1.out.size)); clear B1 hb; have B1 := B2; clear B2)
      | (go_at_call 11; with_reducible refine (f1.out _).mono ?_; rintro e w1 ⟨rfl, rfl⟩)
      | (go_at_call 11; with_reducible refine (f2.out _).mono ?_; rintro e w1 ⟨rfl, rfl⟩))
    go_ret
    exact ⟨rfl, B1.out⟩
  · have z4 := B3.out z2
    go_wp2_with (first
      | (go_at_call 7; with_reducible refine (jitneylaw02_alive.calls _).mono ?_; rintro e w1 ⟨rfl, hb⟩; have B1 := Aside0.mk hb; clear hb)
      | (go_at_call 8; with_reducible refine (c1.out _).mono ?_; rintro e w1 ⟨rfl, rfl⟩)
      | (go_at_call 8; with_reducible refine (c2.out _).mono ?_; rintro e w1 ⟨rfl, rfl⟩)
      | (go_at_call 9; with_reducible refine (e1.out _).mono ?_; rintro e w1 ⟨rfl, hb⟩; have B2 := Aside0.mk (B1.out.trans (hb.mono B1.out.size)); clear B1 hb; have B1 := B2; clear B2)
      | (go_at_call 9; with_reducible refine (e2.out _).mono ?_; rintro e w1 ⟨rfl, hb⟩; have B2 := Aside0.mk (B1.out.trans (hb.mono B1.out.size)); clear B1 hb; have B1 := B2; clear B2)
      | (go_at_call 11; with_reducible refine (f1.out _).mono ?_; rintro e w1 ⟨rfl, rfl⟩)
      | (go_at_call 11; with_reducible refine (f2.out _).mono ?_; rintro e w1 ⟨rfl, rfl⟩))
    go_ret
    exact ⟨rfl, B1.out⟩
  · go_wp2_with (first
      | (go_at_call 7; with_reducible refine (jitneylaw02_alive.calls _).mono ?_; rintro e w1 ⟨rfl, hb⟩; have B1 := Aside0.mk hb; clear hb)
      | (go_at_call 8; with_reducible refine (c1.out _).mono ?_; rintro e w1 ⟨rfl, rfl⟩)
      | (go_at_call 8; with_reducible refine (c2.out _).mono ?_; rintro e w1 ⟨rfl, rfl⟩)
      | (go_at_call 9; with_reducible refine (e1.out _).mono ?_; rintro e w1 ⟨rfl, hb⟩; have B2 := Aside0.mk (B1.out.trans (hb.mono B1.out.size)); clear B1 hb; have B1 := B2; clear B2)
      | (go_at_call 9; with_reducible refine (e2.out _).mono ?_; rintro e w1 ⟨rfl, hb⟩; have B2 := Aside0.mk (B1.out.trans (hb.mono B1.out.size)); clear B1 hb; have B1 := B2; clear B2)
      | (go_at_call 11; with_reducible refine (f1.out _).mono ?_; rintro e w1 ⟨rfl, rfl⟩)
      | (go_at_call 11; with_reducible refine (f2.out _).mono ?_; rintro e w1 ⟨rfl, rfl⟩))
    go_ret
    exact ⟨rfl, B1.out⟩
end Go.Proofs.Ytajblfmabokgkaa.P
