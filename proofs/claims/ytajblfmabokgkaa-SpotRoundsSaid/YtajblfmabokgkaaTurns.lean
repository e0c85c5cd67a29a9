/- The law SpotTurns: what a move, a quarter's turn and a mirror make of turns and squares. -/
import Derived.Test.YtajblfmabokgkaaAlive
namespace Go.Proofs.Ytajblfmabokgkaa.P
open Go.Proofs.YtajblfmabokgkaaR
open Go.Shelf Go.Sort
open Go.RowKit Go.Proofs.YtajblfmabokgkaaW.PrintWords Go.Proofs.YtajblfmabokgkaaW.PrintLast Go.Proofs.YtajblfmabokgkaaW.PrintMore
set_option linter.unusedVariables false
set_option linter.unusedSimpArgs false
set_option maxHeartbeats 8000000
set_option maxRecDepth 100000
theorem crs_move (a b c d u v : Int) : crs u v (a + u) (b + v) (c + u) (d + v) = crs 0 0 a b c d := by
  unfold crs
  simp only [Int.add_sub_cancel, Int.sub_zero]
theorem sqd_move (a b c d u v : Int) : sqd (a + u) (b + v) (c + u) (d + v) = sqd a b c d := by
  unfold sqd
  rw [show a + u - (c + u) = a - c by omega, show b + v - (d + v) = b - d by omega]
theorem quarter (a b : Int) : a * 0 - b * 1 = -b ∧ a * 1 + b * 0 = a := by omega
theorem crs_quarter (a b c d : Int) : crs 0 0 (-b) a (-d) c = crs 0 0 a b c d := by
  unfold crs
  simp only [Int.sub_zero, Int.neg_mul, Int.mul_neg]
  rw [Int.mul_comm b c]
  omega
theorem sqd_quarter (a b c d : Int) : sqd (-b) a (-d) c = sqd a b c d := by
  unfold sqd
  rw [show -b - -d = -(b - d) by omega, Int.neg_mul_neg]
  omega
theorem crs_mirror (a b c d : Int) : crs 0 0 a (-b) c (-d) = -crs 0 0 a b c d := by
  unfold crs
  simp only [Int.sub_zero, Int.neg_mul, Int.mul_neg]
  omega
theorem sqd_mirror (a b c d : Int) : sqd a (-b) c (-d) = sqd a b c d := by
  unfold sqd
  rw [show -b - -d = -(b - d) by omega, Int.neg_mul_neg]
theorem sgn_neg (n : Int) : sgn (-n) = -sgn n := by unfold sgn; (repeat' split) <;> omega
theorem tmod_bound (a : Int) (m : Int) (hm : 0 < m) : -m < a.tmod m ∧ a.tmod m < m := by
  have h1 := Int.tmod_lt_of_pos a hm
  refine ⟨?_, h1⟩
  have h2 := Int.tmod_lt_of_pos (-a) hm
  rw [Int.neg_tmod] at h2
  omega
theorem spot_int {a b : Int} (ha : InB a) (hb : InB b) : Spot (floatOfInt .f64 a) (floatOfInt .f64 b) a b := ⟨fis_int ha, fis_int hb, ha, hb⟩
/-- What the law's calls give, all told by one turn and one square. -/
theorem turns_facts (a1 a2 b1 b2 d1 d2 : Int) (h1 : -1000000 < a1 ∧ a1 < 1000000) (h2 : -1000000 < a2 ∧ a2 < 1000000) (h3 : -1000000 < b1 ∧ b1 < 1000000) (h4 : -1000000 < b2 ∧ b2 < 1000000) (h5 : -1000000 < d1 ∧ d1 < 1000000) (h6 : -1000000 < d2 ∧ d2 < 1000000) :
    ∃ (ax ay bx by_ dx dy px py qx qy rx ry sx sy mx my nx ny : Nat) (T F : Int), -1 ≤ T ∧ T ≤ 1 ∧
      (∀ w : World, Calls Try.prog 8 #[.int .i64 a1, .int .i64 a2] w fun e w' => e = .returned (.tuple #[.complex .f64 ax ay, .bool true]) ∧ w' = w) ∧
      (∀ w : World, Calls Try.prog 8 #[.int .i64 b1, .int .i64 b2] w fun e w' => e = .returned (.tuple #[.complex .f64 bx by_, .bool true]) ∧ w' = w) ∧
      (∀ w : World, Calls Try.prog 8 #[.int .i64 d1, .int .i64 d2] w fun e w' => e = .returned (.tuple #[.complex .f64 dx dy, .bool true]) ∧ w' = w) ∧
      (∀ w : World, Calls Try.prog 8 #[.int .i64 a1, .int .i64 (-a2)] w fun e w' => e = .returned (.tuple #[.complex .f64 mx my, .bool true]) ∧ w' = w) ∧
      (∀ w : World, Calls Try.prog 8 #[.int .i64 b1, .int .i64 (-b2)] w fun e w' => e = .returned (.tuple #[.complex .f64 nx ny, .bool true]) ∧ w' = w) ∧
      (∀ w : World, (binOp .add 23 (.complex .f64 ax ay) (.complex .f64 dx dy)).run Try.prog w = .ok (.complex .f64 px py) w) ∧
      (∀ w : World, (binOp .add 23 (.complex .f64 bx by_) (.complex .f64 dx dy)).run Try.prog w = .ok (.complex .f64 qx qy) w) ∧
      (∀ w : World, (binOp .mul 23 (.complex .f64 ax ay) (.complex .f64 0 4607182418800017408)).run Try.prog w = .ok (.complex .f64 rx ry) w) ∧
      (∀ w : World, (binOp .mul 23 (.complex .f64 bx by_) (.complex .f64 0 4607182418800017408)).run Try.prog w = .ok (.complex .f64 sx sy) w) ∧
      (∀ w : World, Calls Try.prog 10 #[.complex .f64 0 0, .complex .f64 ax ay, .complex .f64 bx by_] w fun e w' => e = .returned (.int .i64 T) ∧ w' = w) ∧
      (∀ w : World, Calls Try.prog 10 #[.complex .f64 dx dy, .complex .f64 px py, .complex .f64 qx qy] w fun e w' => e = .returned (.int .i64 T) ∧ w' = w) ∧
      (∀ w : World, Calls Try.prog 10 #[.complex .f64 0 0, .complex .f64 rx ry, .complex .f64 sx sy] w fun e w' => e = .returned (.int .i64 T) ∧ w' = w) ∧
      (∀ w : World, Calls Try.prog 10 #[.complex .f64 0 0, .complex .f64 mx my, .complex .f64 nx ny] w fun e w' => e = .returned (.int .i64 (-T)) ∧ w' = w) ∧
      (∀ w : World, Calls Try.prog 11 #[.complex .f64 ax ay, .complex .f64 bx by_] w fun e w' => e = .returned (.int .i64 F) ∧ w' = w) ∧
      (∀ w : World, Calls Try.prog 11 #[.complex .f64 px py, .complex .f64 qx qy] w fun e w' => e = .returned (.int .i64 F) ∧ w' = w) ∧
      (∀ w : World, Calls Try.prog 11 #[.complex .f64 rx ry, .complex .f64 sx sy] w fun e w' => e = .returned (.int .i64 F) ∧ w' = w) ∧
      (∀ w : World, Calls Try.prog 11 #[.complex .f64 mx my, .complex .f64 nx ny] w fun e w' => e = .returned (.int .i64 F) ∧ w' = w) ∧
      (∀ w : World, Calls Try.prog 15 #[.complex .f64 ax ay] w fun e w' => e = .returned (.tuple #[.int .i64 a1, .int .i64 a2]) ∧ w' = w) ∧
      (∀ w : World, Calls Try.prog 15 #[.complex .f64 bx by_] w fun e w' => e = .returned (.tuple #[.int .i64 b1, .int .i64 b2]) ∧ w' = w) := by
  have SA := spot_int (a := a1) (b := a2) ⟨by omega, by omega⟩ ⟨by omega, by omega⟩
  have SB := spot_int (a := b1) (b := b2) ⟨by omega, by omega⟩ ⟨by omega, by omega⟩
  have SD := spot_int (a := d1) (b := d2) ⟨by omega, by omega⟩ ⟨by omega, by omega⟩
  have SM := spot_int (a := a1) (b := -a2) ⟨by omega, by omega⟩ ⟨by omega, by omega⟩
  have SN := spot_int (a := b1) (b := -b2) ⟨by omega, by omega⟩ ⟨by omega, by omega⟩
  obtain ⟨px, py, fpx, fpy, hp⟩ := cplx_add SA.re SA.im SD.re SD.im (by omega) (by omega)
  obtain ⟨qx, qy, fqx, fqy, hq⟩ := cplx_add SB.re SB.im SD.re SD.im (by omega) (by omega)
  obtain ⟨rx, ry, frx, fry, hr⟩ := cplx_mul SA.re SA.im fis_zero fis_one (by omega) (by omega) (by omega) (by omega) (by omega) (by omega)
  obtain ⟨sx, sy, fsx, fsy, hs⟩ := cplx_mul SB.re SB.im fis_zero fis_one (by omega) (by omega) (by omega) (by omega) (by omega) (by omega)
  rw [(quarter a1 a2).1] at frx
  rw [(quarter a1 a2).2] at fry
  rw [(quarter b1 b2).1] at fsx
  rw [(quarter b1 b2).2] at fsy
  have SP : Spot px py (a1 + d1) (a2 + d2) := ⟨fpx, fpy, ⟨by omega, by omega⟩, ⟨by omega, by omega⟩⟩
  have SQ : Spot qx qy (b1 + d1) (b2 + d2) := ⟨fqx, fqy, ⟨by omega, by omega⟩, ⟨by omega, by omega⟩⟩
  have SR : Spot rx ry (-a2) a1 := ⟨frx, fry, ⟨by omega, by omega⟩, ⟨by omega, by omega⟩⟩
  have SS : Spot sx sy (-b2) b1 := ⟨fsx, fsy, ⟨by omega, by omega⟩, ⟨by omega, by omega⟩⟩
  refine ⟨_, _, _, _, _, _, px, py, qx, qy, rx, ry, sx, sy, _, _, _, _, sgn (crs 0 0 a1 a2 b1 b2), sqd a1 a2 b1 b2, (sgn_range _).1, (sgn_range _).2, spot_At.calls a1 a2 SA.bre SA.bim, spot_At.calls b1 b2 SB.bre SB.bim, spot_At.calls d1 d2 SD.bre SD.bim, spot_At.calls a1 (-a2) SM.bre SM.bim, spot_At.calls b1 (-b2) SN.bre SN.bim, hp, hq, hr, hs, spot_Turn.calls spot_zero SA SB, ?_, ?_, ?_, spot_Square.calls SA SB, ?_, ?_, ?_, spot_XY.calls SA, spot_XY.calls SB⟩
  · have h := spot_Turn.calls SD SP SQ
    rw [crs_move] at h
    exact h
  · have h := spot_Turn.calls spot_zero SR SS
    rw [crs_quarter] at h
    exact h
  · have h := spot_Turn.calls spot_zero SM SN
    rw [crs_mirror, sgn_neg] at h
    exact h
  · have h := spot_Square.calls SP SQ
    rw [sqd_move] at h
    exact h
  · have h := spot_Square.calls SR SS
    rw [sqd_quarter] at h
    exact h
  · have h := spot_Square.calls SM SN
    rw [sqd_mirror] at h
    exact h
theorem SpotTurns_walk (a0 a1 a2 a3 a4 a5 : Int) (w : World) :
    Calls Try.prog 5 #[.int .i64 a0, .int .i64 a1, .int .i64 a2, .int .i64 a3, .int .i64 a4, .int .i64 a5] w fun e w' => e = .returned (.bool true) ∧ Below w.heap.size w w' := by
  obtain ⟨ax, ay, bx, by_, dx, dy, px, py, qx, qy, rx, ry, sx, sy, mx, my, nx, ny, T, F, t1, t2, c1, c2, c3, c4, c5, hp, hq, hr, hs, e1, e2, e3, e4, f1, f2, f3, f4, g1, g2⟩ :=
    turns_facts (Int.tmod a0 1000000) (Int.tmod a1 1000000) (Int.tmod a2 1000000) (Int.tmod a3 1000000) (Int.tmod a4 1000000) (Int.tmod a5 1000000)
      (tmod_bound _ _ (by decide)) (tmod_bound _ _ (by decide)) (tmod_bound _ _ (by decide)) (tmod_bound _ _ (by decide)) (tmod_bound _ _ (by decide)) (tmod_bound _ _ (by decide))
  have w1 : wrap64 (-Int.tmod a1 1000000) = -Int.tmod a1 1000000 := by
    have := tmod_bound a1 1000000 (by decide)
    unfold wrap64
    omega
  have w2 : wrap64 (-Int.tmod a3 1000000) = -Int.tmod a3 1000000 := by
    have := tmod_bound a3 1000000 (by decide)
    unfold wrap64
    omega
  have w3 : wrap64 (-T) = -T := by unfold wrap64; omega
  have c1 := Aside0.mk c1
  have c2 := Aside0.mk c2
  have c3 := Aside0.mk c3
  have c4 := Aside0.mk c4
  have c5 := Aside0.mk c5
  have e1 := Aside0.mk e1
  have e2 := Aside0.mk e2
  have e3 := Aside0.mk e3
  have e4 := Aside0.mk e4
  have f1 := Aside0.mk f1
  have f2 := Aside0.mk f2
  have f3 := Aside0.mk f3
  have f4 := Aside0.mk f4
  have g1 := Aside0.mk g1
  have g2 := Aside0.mk g2
  clear t1 t2
  go_enter Try.func5, Try.ntmps5
  go_wp2_with (first
    | (go_at_call 7; with_reducible refine (jitneylaw02_alive.calls _).mono ?_; rintro e w1 ⟨rfl, hb⟩; have B1 := Aside0.mk hb; clear hb)
    | (go_at_call 8; with_reducible refine (c1.out _).mono ?_; rintro e w1 ⟨rfl, rfl⟩)
    | (go_at_call 8; with_reducible refine (c2.out _).mono ?_; rintro e w1 ⟨rfl, rfl⟩)
    | (go_at_call 8; with_reducible refine (c3.out _).mono ?_; rintro e w1 ⟨rfl, rfl⟩)
    | (go_at_call 8; with_reducible refine (c4.out _).mono ?_; rintro e w1 ⟨rfl, rfl⟩)
    | (go_at_call 8; with_reducible refine (c5.out _).mono ?_; rintro e w1 ⟨rfl, rfl⟩)
    | (go_at_call 10; with_reducible refine (e1.out _).mono ?_; rintro e w1 ⟨rfl, rfl⟩)
    | (go_at_call 10; with_reducible refine (e2.out _).mono ?_; rintro e w1 ⟨rfl, rfl⟩)
    | (go_at_call 10; with_reducible refine (e3.out _).mono ?_; rintro e w1 ⟨rfl, rfl⟩)
    | (go_at_call 10; with_reducible refine (e4.out _).mono ?_; rintro e w1 ⟨rfl, rfl⟩)
    | (go_at_call 11; with_reducible refine (f1.out _).mono ?_; rintro e w1 ⟨rfl, rfl⟩)
    | (go_at_call 11; with_reducible refine (f2.out _).mono ?_; rintro e w1 ⟨rfl, rfl⟩)
    | (go_at_call 11; with_reducible refine (f3.out _).mono ?_; rintro e w1 ⟨rfl, rfl⟩)
    | (go_at_call 11; with_reducible refine (f4.out _).mono ?_; rintro e w1 ⟨rfl, rfl⟩)
    | (go_at_call 15; with_reducible refine (g1.out _).mono ?_; rintro e w1 ⟨rfl, rfl⟩)
    | (go_at_call 15; with_reducible refine (g2.out _).mono ?_; rintro e w1 ⟨rfl, rfl⟩))
  go_ret
  exact ⟨rfl, B1.out⟩
end Go.Proofs.Ytajblfmabokgkaa.P
