/- The law SpotWays: the way by a third spot is no shorter. -/
import Derived.Test.YtajblfmabokgkaaRoots
namespace Go.Proofs.Ytajblfmabokgkaa.P
open Go.Proofs.YtajblfmabokgkaaR
open Go.Shelf Go.Sort
open Go.RowKit Go.Proofs.YtajblfmabokgkaaW.PrintWords Go.Proofs.YtajblfmabokgkaaW.PrintLast Go.Proofs.YtajblfmabokgkaaW.PrintMore
set_option linter.unusedVariables false
set_option linter.unusedSimpArgs false
set_option maxHeartbeats 8000000
set_option maxRecDepth 100000
theorem sq_nonneg' (z : Int) : 0 ≤ z * z := by
  rcases Int.le_total 0 z with h | h
  · exact Int.mul_nonneg h h
  · exact Int.mul_nonneg_of_nonpos_of_nonpos h h
/-- Cauchy's inequality. -/
theorem cauchy (a b c d : Int) : (a * c + b * d) * (a * c + b * d) ≤ (a * a + b * b) * (c * c + d * d) := by
  have h := sq_nonneg' (a * d - b * c)
  have e1 : (a * c + b * d) * (a * c + b * d) + (a * d - b * c) * (a * d - b * c) = (a * a + b * b) * (c * c + d * d) := by
    simp only [Int.add_mul, Int.mul_add, Int.sub_mul, Int.mul_sub]
    have r1 : a * d * (b * c) = a * c * (b * d) := by ac_rfl
    have r2 : b * c * (a * d) = b * d * (a * c) := by ac_rfl
    have r3 : a * c * (a * c) = a * a * (c * c) := by ac_rfl
    have r4 : b * d * (b * d) = b * b * (d * d) := by ac_rfl
    have r5 : a * d * (a * d) = a * a * (d * d) := by ac_rfl
    have r6 : b * c * (b * c) = b * b * (c * c) := by ac_rfl
    rw [r1, r2, r3, r4, r5, r6]
    omega
  omega
theorem root_least {p P S : Int} (hP : num_Root.isRoot p P) (hS : 0 ≤ S) (h : p ≤ S * S) : P ≤ S := by
  obtain ⟨p0, p1, p2⟩ := hP
  rcases p2 with h2 | h2
  · omega
  · have := sq_lt (a := P - 1) hS (by omega)
    omega
theorem root_triangle {u1 u2 v1 v2 P Q R : Int} (hP : num_Root.isRoot ((u1 + v1) * (u1 + v1) + (u2 + v2) * (u2 + v2)) P) (hQ : num_Root.isRoot (u1 * u1 + u2 * u2) Q) (hR : num_Root.isRoot (v1 * v1 + v2 * v2) R) : P ≤ Q + R := by
  obtain ⟨q0, q1, _⟩ := hQ
  obtain ⟨r0, r1, _⟩ := hR
  refine root_least hP (by omega) ?_
  have hc := cauchy u1 u2 v1 v2
  have hqr : (u1 * u1 + u2 * u2) * (v1 * v1 + v2 * v2) ≤ (Q * R) * (Q * R) := by
    have : (Q * R) * (Q * R) = (Q * Q) * (R * R) := by ac_rfl
    rw [this]
    have n1 := sq_nonneg' v1
    have n2 := sq_nonneg' v2
    exact Int.mul_le_mul q1 r1 (by omega) (sq_nonneg' Q)
  have hdot : u1 * v1 + u2 * v2 ≤ Q * R := by
    refine Int.not_lt.1 fun hlt => ?_
    have h0 := Int.mul_nonneg q0 r0
    generalize Q * R = X at *
    generalize u1 * v1 + u2 * v2 = D at *
    have h1 := num_Root.sq_le (show 0 ≤ X + 1 by omega) (show X + 1 ≤ D by omega)
    have h2 : (X + 1) * (X + 1) = X * X + 2 * X + 1 := by rw [Int.add_mul, Int.mul_add, Int.one_mul, Int.mul_one]; omega
    omega
  have e1 : (u1 + v1) * (u1 + v1) + (u2 + v2) * (u2 + v2) = (u1 * u1 + u2 * u2) + (v1 * v1 + v2 * v2) + 2 * (u1 * v1 + u2 * v2) := by
    simp only [Int.add_mul, Int.mul_add]
    rw [Int.mul_comm v1 u1, Int.mul_comm v2 u2]
    omega
  have e2 : (Q + R) * (Q + R) = Q * Q + R * R + 2 * (Q * R) := by
    simp only [Int.add_mul, Int.mul_add]
    rw [Int.mul_comm R Q]
    omega
  rw [e1, e2]
  omega
theorem sqd_sym (a b c d : Int) : sqd c d a b = sqd a b c d := by
  unfold sqd
  rw [show c - a = -(a - c) by omega, show d - b = -(b - d) by omega, Int.neg_mul_neg, Int.neg_mul_neg]
theorem sqd_zero {a b c d : Int} : sqd a b c d = 0 ↔ a = c ∧ b = d := by
  unfold sqd
  constructor
  · intro h
    have h1 := sq_nonneg' (a - c)
    have h2 := sq_nonneg' (b - d)
    have k1 : (a - c) * (a - c) = 0 := by omega
    have k2 : (b - d) * (b - d) = 0 := by omega
    have l1 := Int.mul_eq_zero.1 k1
    have l2 := Int.mul_eq_zero.1 k2
    omega
  · rintro ⟨rfl, rfl⟩
    simp
theorem root_zero {q d : Int} (h0 : 0 ≤ q) (h : num_Root.isRoot q d) : d = 0 ↔ q = 0 := by
  obtain ⟨d0, d1, d2⟩ := h
  constructor
  · intro h
    subst h
    simp at d1
    omega
  · intro h
    subst h
    rcases d2 with h | h
    · exact h
    · have := sq_nonneg' (d - 1)
      omega
theorem crs_swap (o1 o2 a b c d : Int) : crs o1 o2 c d a b = -crs o1 o2 a b c d := by
  unfold crs
  rw [Int.mul_comm (c - o1), Int.mul_comm (d - o2)]
  omega
theorem ways_facts (a1 a2 b1 b2 c1 c2 : Int) (h1 : -16777217 < a1 ∧ a1 < 16777217) (h2 : -16777217 < a2 ∧ a2 < 16777217) (h3 : -16777217 < b1 ∧ b1 < 16777217) (h4 : -16777217 < b2 ∧ b2 < 16777217) (h5 : -16777217 < c1 ∧ c1 < 16777217) (h6 : -16777217 < c2 ∧ c2 < 16777217) :
    ∃ (ax ay bx by_ cx cy : Nat) (ox oy : Ordering) (P Q R T S : Int), -1 ≤ T ∧ T ≤ 1 ∧ 0 ≤ Q ∧ 0 ≤ R ∧ Q ≤ 1073741824 ∧ R ≤ 1073741824 ∧ P ≤ Q + R ∧ 0 ≤ S ∧ (P = 0 ↔ ox = .eq ∧ oy = .eq) ∧
      (∀ w : World, Calls Try.prog 8 #[.int .i64 a1, .int .i64 a2] w fun e w' => e = .returned (.tuple #[.complex .f64 ax ay, .bool true]) ∧ w' = w) ∧
      (∀ w : World, Calls Try.prog 8 #[.int .i64 b1, .int .i64 b2] w fun e w' => e = .returned (.tuple #[.complex .f64 bx by_, .bool true]) ∧ w' = w) ∧
      (∀ w : World, Calls Try.prog 8 #[.int .i64 c1, .int .i64 c2] w fun e w' => e = .returned (.tuple #[.complex .f64 cx cy, .bool true]) ∧ w' = w) ∧
      FloatKind.f64.format.order ax bx = some ox ∧ FloatKind.f64.format.order ay by_ = some oy ∧
      (∀ w : World, Calls Try.prog 9 #[.complex .f64 ax ay, .complex .f64 bx by_] w fun e w' => e = .returned (.int .i64 P) ∧ Below w.heap.size w w') ∧
      (∀ w : World, Calls Try.prog 9 #[.complex .f64 bx by_, .complex .f64 ax ay] w fun e w' => e = .returned (.int .i64 P) ∧ Below w.heap.size w w') ∧
      (∀ w : World, Calls Try.prog 9 #[.complex .f64 ax ay, .complex .f64 cx cy] w fun e w' => e = .returned (.int .i64 Q) ∧ Below w.heap.size w w') ∧
      (∀ w : World, Calls Try.prog 9 #[.complex .f64 cx cy, .complex .f64 bx by_] w fun e w' => e = .returned (.int .i64 R) ∧ Below w.heap.size w w') ∧
      (∀ w : World, Calls Try.prog 10 #[.complex .f64 ax ay, .complex .f64 bx by_, .complex .f64 cx cy] w fun e w' => e = .returned (.int .i64 (-T)) ∧ w' = w) ∧
      (∀ w : World, Calls Try.prog 10 #[.complex .f64 ax ay, .complex .f64 cx cy, .complex .f64 bx by_] w fun e w' => e = .returned (.int .i64 T) ∧ w' = w) ∧
      (∀ w : World, Calls Try.prog 11 #[.complex .f64 ax ay, .complex .f64 bx by_] w fun e w' => e = .returned (.int .i64 S) ∧ w' = w) := by
  have SA := spot_int (a := a1) (b := a2) ⟨by omega, by omega⟩ ⟨by omega, by omega⟩
  have SB := spot_int (a := b1) (b := b2) ⟨by omega, by omega⟩ ⟨by omega, by omega⟩
  have SC := spot_int (a := c1) (b := c2) ⟨by omega, by omega⟩ ⟨by omega, by omega⟩
  have key : ∀ {x y u v : Int}, InB x → InB y → InB u → InB v → num_Root.isRoot (sqd x y u v) (far x y u v) := by
    intro x y u v hx hy hu hv
    obtain ⟨p1, p2⟩ := hx
    obtain ⟨p3, p4⟩ := hy
    obtain ⟨p5, p6⟩ := hu
    obtain ⟨p7, p8⟩ := hv
    have m := sqd_le (a := x) (b := y) (c := u) (d := v) 33554432 ⟨by omega, by omega⟩ ⟨by omega, by omega⟩
    exact far_is (by omega)
  have rP := key SA.bre SA.bim SB.bre SB.bim
  have rQ := key SA.bre SA.bim SC.bre SC.bim
  have rR := key SC.bre SC.bim SB.bre SB.bim
  have big : ∀ {x y u v : Int}, num_Root.isRoot (sqd x y u v) (far x y u v) → sqd x y u v ≤ 1152921504606846976 → far x y u v ≤ 1073741824 := by
    intro x y u v h hs
    exact root_least h (by decide) hs
  have mQ := sqd_le (a := a1) (b := a2) (c := c1) (d := c2) 33554432 ⟨by omega, by omega⟩ ⟨by omega, by omega⟩
  have mR := sqd_le (a := c1) (b := c2) (c := b1) (d := b2) 33554432 ⟨by omega, by omega⟩ ⟨by omega, by omega⟩
  have tri : far a1 a2 b1 b2 ≤ far a1 a2 c1 c2 + far c1 c2 b1 b2 := by
    have hP := rP
    unfold sqd at hP
    rw [show a1 - b1 = (a1 - c1) + (c1 - b1) by omega, show a2 - b2 = (a2 - c2) + (c2 - b2) by omega] at hP
    exact root_triangle hP rQ rR
  have hT := spot_Turn.calls SA SB SC
  rw [crs_swap, sgn_neg] at hT
  have hsym := spot_Dist.calls SB SA
  have esym : far b1 b2 a1 a2 = far a1 a2 b1 b2 := by unfold far; rw [sqd_sym]
  rw [esym] at hsym
  refine ⟨_, _, _, _, _, _, compare a1 b1, compare a2 b2, far a1 a2 b1 b2, far a1 a2 c1 c2, far c1 c2 b1 b2, sgn (crs a1 a2 c1 c2 b1 b2), sqd a1 a2 b1 b2, (sgn_range _).1, (sgn_range _).2, rQ.1, rR.1, big rQ (by omega), big rR (by omega), tri, sqd_nonneg _ _ _ _, ?_,
    spot_At.calls a1 a2 SA.bre SA.bim, spot_At.calls b1 b2 SB.bre SB.bim, spot_At.calls c1 c2 SC.bre SC.bim, fl_order SA.re SB.re, fl_order SA.im SB.im,
    spot_Dist.calls SA SB, hsym, spot_Dist.calls SA SC, spot_Dist.calls SC SB, hT, spot_Turn.calls SA SC SB, spot_Square.calls SA SB⟩
  rw [root_zero (sqd_nonneg _ _ _ _) rP, sqd_zero, Int.compare_eq_eq, Int.compare_eq_eq]
theorem SpotWays_walk (a0 a1 a2 a3 a4 a5 : Int) (w : World) :
    Calls Try.prog 3 #[.int .i64 a0, .int .i64 a1, .int .i64 a2, .int .i64 a3, .int .i64 a4, .int .i64 a5] w fun e w' => e = .returned (.bool true) ∧ Below w.heap.size w w' := by
  obtain ⟨ax, ay, bx, by_, cx, cy, ox, oy, P, Q, R, T, S, t1, t2, q0, r0, q1, r1, tri, s0, hz, c1, c2, c3, ho1, ho2, e1, e2, e3, e4, f1, f2, f3⟩ :=
    ways_facts (Int.tmod a0 16777217) (Int.tmod a1 16777217) (Int.tmod a2 16777217) (Int.tmod a3 16777217) (Int.tmod a4 16777217) (Int.tmod a5 16777217)
      (tmod_bound _ _ (by decide)) (tmod_bound _ _ (by decide)) (tmod_bound _ _ (by decide)) (tmod_bound _ _ (by decide)) (tmod_bound _ _ (by decide)) (tmod_bound _ _ (by decide))
  have w1 : wrap64 (-T) = -T := by unfold wrap64; omega
  have w2 : wrap64 (Q + R) = Q + R := by unfold wrap64; omega
  have d1 : decide (P ≤ Q + R) = true := decide_eq_true tri
  have d2 : decide (S ≥ 0) = true := decide_eq_true s0
  have d3 : decide (0 ≤ S) = true := decide_eq_true s0
  have zz : (P == 0) = (ox == .eq && oy == .eq) := by
    by_cases h : P = 0
    · obtain ⟨rfl, rfl⟩ := hz.1 h
      subst h
      rfl
    · have h' : ¬ (ox = .eq ∧ oy = .eq) := fun hc => h (hz.2 hc)
      have e : (P == 0) = false := by simpa using h
      rw [e]
      cases ox <;> cases oy <;> first | rfl | exact absurd ⟨rfl, rfl⟩ h'
  have c1 := Aside0.mk c1
  have c2 := Aside0.mk c2
  have c3 := Aside0.mk c3
  have e1 := Aside0.mk e1
  have e2 := Aside0.mk e2
  have e3 := Aside0.mk e3
  have e4 := Aside0.mk e4
  have f1 := Aside0.mk f1
  have f2 := Aside0.mk f2
  have f3 := Aside0.mk f3
  clear t1 t2 q0 r0 q1 r1 tri s0 hz
  go_enter Try.func3, Try.ntmps3
  cases ox <;> cases oy
  all_goals
    go_wp2_with (first
      | (go_at_call 7; with_reducible refine (jitneylaw02_alive.calls _).mono ?_; rintro e w1 ⟨rfl, hb⟩; have B1 := Aside0.mk hb; clear hb)
      | (go_at_call 8; with_reducible refine (c1.out _).mono ?_; rintro e w1 ⟨rfl, rfl⟩)
      | (go_at_call 8; with_reducible refine (c2.out _).mono ?_; rintro e w1 ⟨rfl, rfl⟩)
      | (go_at_call 8; with_reducible refine (c3.out _).mono ?_; rintro e w1 ⟨rfl, rfl⟩)
      | (go_at_call 9; with_reducible refine (e1.out _).mono ?_; rintro e w1 ⟨rfl, hb⟩; have B2 := Aside0.mk (B1.out.trans (hb.mono B1.out.size)); clear B1 hb; have B1 := B2; clear B2)
      | (go_at_call 9; with_reducible refine (e2.out _).mono ?_; rintro e w1 ⟨rfl, hb⟩; have B2 := Aside0.mk (B1.out.trans (hb.mono B1.out.size)); clear B1 hb; have B1 := B2; clear B2)
      | (go_at_call 9; with_reducible refine (e3.out _).mono ?_; rintro e w1 ⟨rfl, hb⟩; have B2 := Aside0.mk (B1.out.trans (hb.mono B1.out.size)); clear B1 hb; have B1 := B2; clear B2)
      | (go_at_call 9; with_reducible refine (e4.out _).mono ?_; rintro e w1 ⟨rfl, hb⟩; have B2 := Aside0.mk (B1.out.trans (hb.mono B1.out.size)); clear B1 hb; have B1 := B2; clear B2)
      | (go_at_call 10; with_reducible refine (f1.out _).mono ?_; rintro e w1 ⟨rfl, rfl⟩)
      | (go_at_call 10; with_reducible refine (f2.out _).mono ?_; rintro e w1 ⟨rfl, rfl⟩)
      | (go_at_call 11; with_reducible refine (f3.out _).mono ?_; rintro e w1 ⟨rfl, rfl⟩))
    go_ret
    exact ⟨rfl, B1.out⟩
end Go.Proofs.Ytajblfmabokgkaa.P
