/- What the functions of the package spot give, for words of float64 that stand for whole numbers: At, XY, Good, Square, Turn, half. -/
import Derived.Test.YtajblfmabokgkaaSpot
namespace Go.Proofs.Ytajblfmabokgkaa.P
open Go.Proofs.YtajblfmabokgkaaR
open Go.RowKit Go.Proofs.YtajblfmabokgkaaW.PrintWords Go.Proofs.YtajblfmabokgkaaW.PrintLast Go.Proofs.YtajblfmabokgkaaW.PrintMore
set_option linter.unusedVariables false
set_option linter.unusedSimpArgs false
set_option maxHeartbeats 8000000
set_option maxRecDepth 100000
/-- The bounds of a spot. -/
def InB (a : Int) : Prop := -16777216 ≤ a ∧ a ≤ 16777216
/-- Two words are the parts of the spot (a, b). -/
structure Spot (x y : Nat) (a b : Int) : Prop where
  re : FIs x a
  im : FIs y b
  bre : InB a
  bim : InB b
theorem spot_zero : Spot 0 0 0 0 := ⟨fis_zero, fis_zero, ⟨by decide, by decide⟩, ⟨by decide, by decide⟩⟩
theorem fis_int {n : Int} (h : InB n) : FIs (floatOfInt .f64 n) n := nearest_exact n (by obtain ⟨h1, h2⟩ := h; omega)
theorem spot_Good.calls {x y : Nat} {a b : Int} (h : Spot x y a b) (w : World) : Calls Try.prog 16 #[.complex .f64 x y] w fun e w' => e = .returned (.bool true) ∧ w' = w := by
  have H := Aside0.mk h
  have B1 := Aside0.mk (show a.natAbs ≤ 16777216 by obtain ⟨h1, h2⟩ := h.bre; omega)
  have B2 := Aside0.mk (show b.natAbs ≤ 16777216 by obtain ⟨h1, h2⟩ := h.bim; omega)
  clear h
  go_enter Try.func16, Try.ntmps16
  go_wp2_with (first | (go_at_call 23; with_reducible refine (spot_whole.calls x a H.out.re B1.out _).mono ?_; rintro e w1 ⟨rfl, rfl⟩) | (go_at_call 23; with_reducible refine (spot_whole.calls y b H.out.im B2.out _).mono ?_; rintro e w1 ⟨rfl, rfl⟩))
  go_ret
  exact ⟨rfl, rfl⟩
theorem spot_At.calls (a b : Int) (ha : InB a) (hb : InB b) (w : World) :
    Calls Try.prog 8 #[.int .i64 a, .int .i64 b] w fun e w' => e = .returned (.tuple #[.complex .f64 (floatOfInt .f64 a) (floatOfInt .f64 b), .bool true]) ∧ w' = w := by
  obtain ⟨h1, h2⟩ := ha
  obtain ⟨h3, h4⟩ := hb
  have e1 : decide (a < -16777216) = false := by simp; omega
  have e2 : decide (16777216 < a) = false := by simp; omega
  have e3 : decide (b < -16777216) = false := by simp; omega
  have e4 : decide (16777216 < b) = false := by simp; omega
  go_enter Try.func8, Try.ntmps8
  go_wp2
  go_ret2
  exact ⟨rfl, rfl⟩
theorem spot_conj.calls (x y : Nat) (w : World) : Calls Try.prog 19 #[.complex .f64 x y] w fun e w' => e = .returned (.complex .f64 x (Op.negFloat .f64 y)) ∧ w' = w := by
  obtain ⟨z, hz⟩ : ∃ z, z = Op.negFloat .f64 y := ⟨_, rfl⟩
  have hn : ∀ w, (Op.unary .neg (.float .f64 y)).run Try.prog w = .ok (.float .f64 z) w := fun w => by rw [hz]; rfl
  rw [← hz]
  clear hz
  go_enter Try.func19, Try.ntmps19
  go_wp2
  go_ret
  exact ⟨rfl, rfl⟩
theorem spot_XY.calls {x y : Nat} {a b : Int} (h : Spot x y a b) (w : World) :
    Calls Try.prog 15 #[.complex .f64 x y] w fun e w' => e = .returned (.tuple #[.int .i64 a, .int .i64 b]) ∧ w' = w := by
  have H := Aside0.mk h
  obtain ⟨h1, h2⟩ := h.bre
  obtain ⟨h3, h4⟩ := h.bim
  have c1 : ∀ w, (convert 40 3 (.float .f64 x)).run Try.prog w = .ok (.int .i64 a) w := fun w =>
    run_convert_float_int w 40 3 .f64 .i64 x a (by kernel_rfl) (by kernel_rfl) (by unfold floatToIntVal; rw [fl_toInt h.re]; exact if_pos ⟨by show (-9223372036854775808 : Int) ≤ a; omega, by show a ≤ 9223372036854775807; omega⟩)
  have c2 : ∀ w, (convert 40 3 (.float .f64 y)).run Try.prog w = .ok (.int .i64 b) w := fun w =>
    run_convert_float_int w 40 3 .f64 .i64 y b (by kernel_rfl) (by kernel_rfl) (by unfold floatToIntVal; rw [fl_toInt h.im]; exact if_pos ⟨by show (-9223372036854775808 : Int) ≤ b; omega, by show b ≤ 9223372036854775807; omega⟩)
  clear h h1 h2 h3 h4
  go_enter Try.func15, Try.ntmps15
  go_wp2_with (first | (go_at_call 16; with_reducible refine (spot_Good.calls H.out _).mono ?_; rintro e w1 ⟨rfl, rfl⟩))
  go_ret2
  exact ⟨rfl, rfl⟩
/-- The square of how far two spots are from each other. -/
def sqd (a b c d : Int) : Int := (a - c) * (a - c) + (b - d) * (b - d)
theorem abs_mul_lt {a b : Int} {A B : Nat} (ha : a.natAbs ≤ A) (hb : b.natAbs ≤ B) : (a * b).natAbs ≤ A * B := by
  rw [Int.natAbs_mul]
  exact Nat.mul_le_mul ha hb
theorem spot_Square.calls {x y u v : Nat} {a b c d : Int} (h : Spot x y a b) (g : Spot u v c d) (w : World) :
    Calls Try.prog 11 #[.complex .f64 x y, .complex .f64 u v] w fun e w' => e = .returned (.int .i64 (sqd a b c d)) ∧ w' = w := by
  have H := Aside0.mk h
  have G := Aside0.mk g
  obtain ⟨h1, h2⟩ := h.bre
  obtain ⟨h3, h4⟩ := h.bim
  obtain ⟨g1, g2⟩ := g.bre
  obtain ⟨g3, g4⟩ := g.bim
  obtain ⟨p, q, fp, fq, hs⟩ := cplx_sub h.re h.im g.re g.im (by omega) (by omega)
  have b1 : (a - c).natAbs ≤ 33554432 := by omega
  have b2 : (b - d).natAbs ≤ 33554432 := by omega
  have b3 : (-(b - d)).natAbs ≤ 33554432 := by omega
  have m1 := abs_mul_lt b1 b1
  have m2 := abs_mul_lt b2 b3
  have m3 := abs_mul_lt b1 b3
  have m4 := abs_mul_lt b2 b1
  obtain ⟨r, i, fr, fi, hm⟩ := cplx_mul fp fq fp (fl_neg fq) (by omega) (by omega) (by omega) (by omega) (by omega) (by omega)
  have e : (a - c) * (a - c) - (b - d) * -(b - d) = sqd a b c d := by unfold sqd; rw [Int.mul_neg]; omega
  rw [e] at fr
  have bz : (sqd a b c d).natAbs < 9007199254740992 := by rw [← e]; omega
  have cv : ∀ w, (convert 40 2 (.float .f64 r)).run Try.prog w = .ok (.int .i64 (sqd a b c d)) w := fun w =>
    run_convert_float_int w 40 2 .f64 .i64 r _ (by kernel_rfl) (by kernel_rfl) (by unfold floatToIntVal; rw [fl_toInt fr]; exact if_pos ⟨by show (-9223372036854775808 : Int) ≤ sqd a b c d; omega, by show sqd a b c d ≤ 9223372036854775807; omega⟩)
  obtain ⟨z, hz⟩ : ∃ z, z = sqd a b c d := ⟨_, rfl⟩
  rw [← hz] at cv ⊢
  clear h g h1 h2 h3 h4 g1 g2 g3 g4 b1 b2 b3 m1 m2 m3 m4 e bz hz fp fq fr fi
  go_enter Try.func11, Try.ntmps11
  go_wp2_with (first | (go_at_call 16; with_reducible refine (spot_Good.calls H.out _).mono ?_; rintro e w1 ⟨rfl, rfl⟩) | (go_at_call 16; with_reducible refine (spot_Good.calls G.out _).mono ?_; rintro e w1 ⟨rfl, rfl⟩) | (go_at_call 19; with_reducible refine (spot_conj.calls p q _).mono ?_; rintro e w1 ⟨rfl, rfl⟩))
  go_ret
  exact ⟨rfl, rfl⟩
/-- The sign of a whole number. -/
def sgn (n : Int) : Int := if n < 0 then -1 else if 0 < n then 1 else 0
theorem cmp_isNaN_float64.calls (x : Nat) (h : FloatKind.f64.format.order x x = some .eq) (w : World) : Calls Try.prog 35 #[.float .f64 x] w fun e w' => e = .returned (.bool false) ∧ w' = w := by
  go_enter Try.func35, Try.ntmps35
  go_wp2
  go_ret
  exact ⟨rfl, rfl⟩
def ordInt : Ordering → Int
  | .lt => -1
  | .eq => 0
  | .gt => 1
theorem cmp_Compare_float64.calls (x y : Nat) (o : Ordering) (hx : FloatKind.f64.format.order x x = some .eq) (hy : FloatKind.f64.format.order y y = some .eq) (h : FloatKind.f64.format.order x y = some o) (w : World) :
    Calls Try.prog 26 #[.float .f64 x, .float .f64 y] w fun e w' => e = .returned (.int .i64 (ordInt o)) ∧ w' = w := by
  have HX := Aside0.mk hx
  have HY := Aside0.mk hy
  clear hx hy
  go_enter Try.func26, Try.ntmps26
  cases o
  all_goals
    go_wp2_with (first | (go_at_call 35; with_reducible refine (cmp_isNaN_float64.calls x HX.out _).mono ?_; rintro e w1 ⟨rfl, rfl⟩) | (go_at_call 35; with_reducible refine (cmp_isNaN_float64.calls y HY.out _).mono ?_; rintro e w1 ⟨rfl, rfl⟩))
    go_ret
    exact ⟨rfl, rfl⟩
theorem ordInt_compare (n : Int) : ordInt (compare n 0) = sgn n := by
  unfold sgn
  by_cases h : n < 0
  · rw [if_pos h, Int.compare_eq_lt.2 h]; rfl
  · rw [if_neg h]
    by_cases g : 0 < n
    · rw [if_pos g, Int.compare_eq_gt.2 g]; rfl
    · rw [if_neg g, Int.compare_eq_eq.2 (by omega)]; rfl
theorem fl_self {x : Nat} {n : Int} (h : FIs x n) : FloatKind.f64.format.order x x = some .eq := by rw [fl_order h h, Int.compare_eq_eq.2 rfl]
theorem spot_sign.calls {x : Nat} {n : Int} (h : FIs x n) (w : World) : Calls Try.prog 18 #[.float .f64 x] w fun e w' => e = .returned (.int .i64 (sgn n)) ∧ w' = w := by
  have hc := cmp_Compare_float64.calls x 0 _ (fl_self h) (fl_self fis_zero) (fl_order h fis_zero)
  rw [ordInt_compare] at hc
  obtain ⟨z, hz⟩ : ∃ z, z = sgn n := ⟨_, rfl⟩
  rw [← hz] at hc ⊢
  have HC := Aside0.mk hc
  clear hc hz h
  go_enter Try.func18, Try.ntmps18
  go_wp2_with (first | (go_at_call 26; with_reducible refine (HC.out _).mono ?_; rintro e w1 ⟨rfl, rfl⟩))
  go_ret
  exact ⟨rfl, rfl⟩
/-- On which side of the way from o to a lies b. -/
def crs (o1 o2 a b c d : Int) : Int := (a - o1) * (d - o2) - (b - o2) * (c - o1)
theorem spot_Turn.calls {s t x y u v : Nat} {o1 o2 a b c d : Int} (k : Spot s t o1 o2) (h : Spot x y a b) (g : Spot u v c d) (w : World) :
    Calls Try.prog 10 #[.complex .f64 s t, .complex .f64 x y, .complex .f64 u v] w fun e w' => e = .returned (.int .i64 (sgn (crs o1 o2 a b c d))) ∧ w' = w := by
  have H := Aside0.mk h
  have G := Aside0.mk g
  have K := Aside0.mk k
  obtain ⟨h1, h2⟩ := h.bre
  obtain ⟨h3, h4⟩ := h.bim
  obtain ⟨g1, g2⟩ := g.bre
  obtain ⟨g3, g4⟩ := g.bim
  obtain ⟨k1, k2⟩ := k.bre
  obtain ⟨k3, k4⟩ := k.bim
  obtain ⟨p, q, fp, fq, hs⟩ := cplx_sub h.re h.im k.re k.im (by omega) (by omega)
  obtain ⟨p', q', fp', fq', hs'⟩ := cplx_sub g.re g.im k.re k.im (by omega) (by omega)
  have b1 : (a - o1).natAbs ≤ 33554432 := by omega
  have b2 : (-(b - o2)).natAbs ≤ 33554432 := by omega
  have b3 : (c - o1).natAbs ≤ 33554432 := by omega
  have b4 : (d - o2).natAbs ≤ 33554432 := by omega
  have m1 := abs_mul_lt b1 b3
  have m2 := abs_mul_lt b2 b4
  have m3 := abs_mul_lt b1 b4
  have m4 := abs_mul_lt b2 b3
  obtain ⟨r, i, fr, fi, hm⟩ := cplx_mul fp (fl_neg fq) fp' fq' (by omega) (by omega) (by omega) (by omega) (by omega) (by omega)
  have e : (a - o1) * (d - o2) + -(b - o2) * (c - o1) = crs o1 o2 a b c d := by unfold crs; rw [Int.neg_mul]; omega
  rw [e] at fi
  have FI := Aside0.mk fi
  obtain ⟨z, hz⟩ : ∃ z, z = sgn (crs o1 o2 a b c d) := ⟨_, rfl⟩
  have HZ := Aside0.mk hz
  rw [← hz]
  clear h g k h1 h2 h3 h4 g1 g2 g3 g4 k1 k2 k3 k4 b1 b2 b3 b4 m1 m2 m3 m4 e hz fp fq fp' fq' fr fi
  go_enter Try.func10, Try.ntmps10
  go_wp2_with (first | (go_at_call 16; with_reducible refine (spot_Good.calls H.out _).mono ?_; rintro e w1 ⟨rfl, rfl⟩) | (go_at_call 16; with_reducible refine (spot_Good.calls G.out _).mono ?_; rintro e w1 ⟨rfl, rfl⟩) | (go_at_call 16; with_reducible refine (spot_Good.calls K.out _).mono ?_; rintro e w1 ⟨rfl, rfl⟩) | (go_at_call 19; with_reducible refine (spot_conj.calls p q _).mono ?_; rintro e w1 ⟨rfl, rfl⟩) | (go_at_call 18; with_reducible refine (spot_sign.calls FI.out _).mono ?_; rintro e w1 ⟨rfl, rfl⟩; rw [← HZ.out]))
  go_ret
  exact ⟨rfl, rfl⟩
end Go.Proofs.Ytajblfmabokgkaa.P
