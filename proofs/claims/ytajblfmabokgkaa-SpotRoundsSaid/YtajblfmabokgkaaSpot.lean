/- What the functions of the package spot give, for words of float64 that stand for whole numbers. -/
import Derived.Test.YtajblfmabokgkaaP
import Derived.Test.YtajblfmabokgkaaFl2
import Derived.Laws.ComplexArith
import Derived.Laws.Externs
import Derived.Laws.BitsAllLaws
namespace Go.Proofs.Ytajblfmabokgkaa.P
open Go.Proofs.YtajblfmabokgkaaR
open Go.RowKit Go.Proofs.YtajblfmabokgkaaW.PrintWords Go.Proofs.YtajblfmabokgkaaW.PrintLast Go.Proofs.YtajblfmabokgkaaW.PrintMore
set_option linter.unusedVariables false
set_option linter.unusedSimpArgs false
theorem fis_zero : FIs 0 0 := by
  have h := nearest_exact 0 (by decide)
  exact (show FloatKind.f64.nearest 0 = 0 by decide) ▸ h
theorem fis_one : FIs 4607182418800017408 1 := by
  have h := nearest_exact 1 (by decide)
  exact (show FloatKind.f64.nearest 1 = 4607182418800017408 by decide) ▸ h
theorem fis_max : FIs 4715268809856909312 16777216 := by
  have h := nearest_exact 16777216 (by decide)
  exact (show FloatKind.f64.nearest 16777216 = 4715268809856909312 by decide) ▸ h
theorem cplx_sub {a b c d : Nat} {A B C D : Int} (ha : FIs a A) (hb : FIs b B) (hc : FIs c C) (hd : FIs d D) (h1 : (A - C).natAbs < 9007199254740992) (h2 : (B - D).natAbs < 9007199254740992) :
    ∃ x y, FIs x (A - C) ∧ FIs y (B - D) ∧ ∀ w : World, (binOp .sub 23 (.complex .f64 a b) (.complex .f64 c d)).run Try.prog w = .ok (.complex .f64 x y) w := by
  obtain ⟨x, e1, f1⟩ := fl_sub ha hc h1
  obtain ⟨y, e2, f2⟩ := fl_sub hb hd h2
  refine ⟨x, y, f1, f2, fun w => run_complex_sum w .sub (.inr rfl) 23 .f64 a b c d x y ?_⟩
  show ((FloatKind.f64.format.sub a c).bind fun re => (FloatKind.f64.format.sub b d).bind fun im => some (re, im)) = _
  rw [e1, e2]
  rfl
theorem cplx_add {a b c d : Nat} {A B C D : Int} (ha : FIs a A) (hb : FIs b B) (hc : FIs c C) (hd : FIs d D) (h1 : (A + C).natAbs < 9007199254740992) (h2 : (B + D).natAbs < 9007199254740992) :
    ∃ x y, FIs x (A + C) ∧ FIs y (B + D) ∧ ∀ w : World, (binOp .add 23 (.complex .f64 a b) (.complex .f64 c d)).run Try.prog w = .ok (.complex .f64 x y) w := by
  obtain ⟨x, e1, f1⟩ := fl_add ha hc h1
  obtain ⟨y, e2, f2⟩ := fl_add hb hd h2
  refine ⟨x, y, f1, f2, fun w => run_complex_sum w .add (.inl rfl) 23 .f64 a b c d x y ?_⟩
  show ((FloatKind.f64.format.add a c).bind fun re => (FloatKind.f64.format.add b d).bind fun im => some (re, im)) = _
  rw [e1, e2]
  rfl
theorem cplx_mul {a b c d : Nat} {A B C D : Int} (ha : FIs a A) (hb : FIs b B) (hc : FIs c C) (hd : FIs d D)
    (h1 : (A * C).natAbs < 9007199254740992) (h2 : (B * D).natAbs < 9007199254740992) (h3 : (A * C - B * D).natAbs < 9007199254740992)
    (h4 : (A * D).natAbs < 9007199254740992) (h5 : (B * C).natAbs < 9007199254740992) (h6 : (A * D + B * C).natAbs < 9007199254740992) :
    ∃ x y, FIs x (A * C - B * D) ∧ FIs y (A * D + B * C) ∧ ∀ w : World, (binOp .mul 23 (.complex .f64 a b) (.complex .f64 c d)).run Try.prog w = .ok (.complex .f64 x y) w := by
  obtain ⟨ac, e1, f1⟩ := fl_mul ha hc h1
  obtain ⟨bd, e2, f2⟩ := fl_mul hb hd h2
  obtain ⟨x, e3, f3⟩ := fl_sub f1 f2 h3
  obtain ⟨ad, e4, f4⟩ := fl_mul ha hd h4
  obtain ⟨bc, e5, f5⟩ := fl_mul hb hc h5
  obtain ⟨y, e6, f6⟩ := fl_add f4 f5 h6
  refine ⟨x, y, f3, f6, fun w => run_complex_mul w 23 a b c d x y ?_⟩
  show ((FloatKind.f64.format.mul a c).bind fun ac => (FloatKind.f64.format.mul b d).bind fun bd => (FloatKind.f64.format.sub ac bd).bind fun re =>
    (FloatKind.f64.format.mul a d).bind fun ad => (FloatKind.f64.format.mul b c).bind fun bc => (FloatKind.f64.format.add ad bc).bind fun im => some (re, im)) = _
  rw [e1]; simp only [Option.bind_some]
  rw [e2]; simp only [Option.bind_some]
  rw [e3]; simp only [Option.bind_some]
  rw [e4]; simp only [Option.bind_some]
  rw [e5]; simp only [Option.bind_some]
  rw [e6]; simp only [Option.bind_some]
theorem andNot_top (x : Nat) (hx : x < 18446744073709551616) : bits .andNot .u64 (x : Int) 9223372036854775808 = ((x % 9223372036854775808 : Nat) : Int) := by
  have h := u64_andNot_nat x 9223372036854775808 hx (by decide)
  have e : (x &&& (18446744073709551615 - 9223372036854775808) : Nat) = x % 9223372036854775808 := Nat.and_two_pow_sub_one_eq_mod x 63
  rw [e] at h
  exact h
theorem math_Float64bits.runs (x : Nat) (w : World) : (callFunc 41 #[.float .f64 x]).run Try.prog w = .ok (.value (.int .u64 x)) w :=
  (run_callFunc_extern (fn := Try.f41) (e := Extern.MathFloatBits.float64bits) Try.func41 (by kernel_rfl) (by kernel_rfl) (by kernel_rfl) (by kernel_rfl) _ w).trans rfl
theorem math_Float64frombits.runs (x : Nat) (w : World) : (callFunc 40 #[.int .u64 x]).run Try.prog w = .ok (.value (.float .f64 x)) w := by
  refine (run_callFunc_extern (fn := Try.f40) (e := Extern.MathFloatBits.float64frombits) Try.func40 (by kernel_rfl) (by kernel_rfl) (by kernel_rfl) (by kernel_rfl) _ w).trans ?_
  rfl
theorem math_Abs.calls (x : Nat) (hx : x < 18446744073709551616) (w : World) : Calls Try.prog 32 #[.float .f64 x] w fun e w' => e = .returned (.float .f64 (x % 9223372036854775808)) ∧ w' = w := by
  have h1 := math_Float64bits.runs x
  obtain ⟨y, hy⟩ : ∃ y, y = x % 9223372036854775808 := ⟨_, rfl⟩
  have h2 := andNot_top x hx
  have h3 := math_Float64frombits.runs y
  rw [← hy] at h2 ⊢
  clear hy
  go_enter Try.func32, Try.ntmps32
  go_wp2
  go_ret
  exact ⟨rfl, rfl⟩
theorem math_archTrunc.runs (x : Nat) (s : Bool) (m : Nat) (e : Int) (h : FloatKind.f64.decode x = .number s m e) (w : World) :
    (callFunc 42 #[.float .f64 x]).run Try.prog w = .ok (.value (.float .f64 (FloatKind.f64.encode ((Ieee.Datum.number s m e).integral .zero)))) w := by
  refine (run_callFunc_extern (fn := Try.f42) (e := Extern.MathFloor.toIntegral "math.archTrunc" .zero) Try.func42 (by kernel_rfl) (by kernel_rfl) (by kernel_rfl) (by kernel_rfl) _ w).trans ?_
  have e : Extern.MathFloor.toIntegral "math.archTrunc" .zero #[.float .f64 x] = (match FloatKind.f64.decode x with
    | .nan s t =>
      if FloatKind.f64.format.quiet t = t then pure (.float .f64 x) else do
      let kept ← choose (.extern "math.Floor,Ceil,Trunc,RoundToEven.signallingNaN kept" 2)
      pure (.float .f64 (if kept == 1 then x else FloatKind.f64.encode (.nan s (FloatKind.f64.format.quiet t))))
    | d => pure (.float .f64 (FloatKind.f64.encode (d.integral .zero)))) := rfl
  rw [e, h]
  rfl
theorem math_Trunc.calls (x y : Nat) (h : ∀ w : World, (callFunc 42 #[.float .f64 x]).run Try.prog w = .ok (.value (.float .f64 y)) w) (w : World) :
    Calls Try.prog 33 #[.float .f64 x] w fun e w' => e = .returned (.float .f64 y) ∧ w' = w := by
  go_enter Try.func33, Try.ntmps33
  go_wp2
  go_ret
  exact ⟨rfl, rfl⟩
theorem spot_whole.walk (x y z : Nat) (o1 o2 : Ordering) (hx : x < 18446744073709551616) (hy : y = x % 9223372036854775808)
    (ht : ∀ w : World, (callFunc 42 #[.float .f64 x]).run Try.prog w = .ok (.value (.float .f64 z)) w)
    (h1 : FloatKind.f64.format.order y 4715268809856909312 = some o1) (h2 : FloatKind.f64.format.order x z = some o2) (w : World) :
    Calls Try.prog 23 #[.float .f64 x] w fun e w' => e = .returned (.bool (!(o1 == .gt) && (o2 == .eq))) ∧ w' = w := by
  have HT := Aside0.mk ht
  have ha := math_Abs.calls x hx
  rw [← hy] at ha
  have HA := Aside0.mk ha
  clear ha hy ht hx
  go_enter Try.func23, Try.ntmps23
  cases o1 <;> cases o2
  all_goals
    go_wp2_with (first | (go_at_call 32; refine (HA.out _).mono ?_; rintro e w1 ⟨rfl, rfl⟩) | (go_at_call 33; refine (math_Trunc.calls x z HT.out _).mono ?_; rintro e w1 ⟨rfl, rfl⟩))
    go_ret
    exact ⟨rfl, rfl⟩
theorem spot_whole.calls (x : Nat) (n : Int) (hx : FIs x n) (hn : n.natAbs ≤ 16777216) (w : World) : Calls Try.prog 23 #[.float .f64 x] w fun e w' => e = .returned (.bool true) ∧ w' = w := by
  obtain ⟨s, m, e, hd, hz⟩ := fl_trunc hx (by omega)
  have o2 := fl_order hx hz
  rw [Int.compare_eq_eq.2 rfl] at o2
  have h := spot_whole.walk x _ _ _ _ hx.1 rfl (math_archTrunc.runs x s m e hd) (fl_order (fl_abs hx) fis_max) o2 w
  have e : (!(compare (n.natAbs : Int) 16777216 == .gt) && (Ordering.eq == .eq)) = true := by
    rcases Nat.lt_or_eq_of_le hn with h | h
    · rw [Int.compare_eq_lt.2 (by omega)]; rfl
    · rw [Int.compare_eq_eq.2 (by omega)]; rfl
  rw [e] at h
  exact h
end Go.Proofs.Ytajblfmabokgkaa.P
