/- The whole root: num.Root of this program, and what spot.Dist gives. -/
import Derived.Test.YtajblfmabokgkaaSpot2
namespace Go.Proofs.Ytajblfmabokgkaa.P
open Go.Proofs.YtajblfmabokgkaaR
open Go.RowKit Go.Proofs.YtajblfmabokgkaaW.PrintWords Go.Proofs.YtajblfmabokgkaaW.PrintLast Go.Proofs.YtajblfmabokgkaaW.PrintMore
attribute [local go_sem] max2_int min2_int max_two min_two max_three min_three max_four min_four
set_option linter.unusedVariables false
set_option linter.unusedSimpArgs false
def num_Root.cl (n : Int) : Int := mx (mn n 1152921504606846976) 0
def num_Root.go (n : Int) : Nat → Int → Int → Int
  | 0, lo, _ => lo
  | k + 1, lo, hi => if lo < hi then (if n ≤ (lo + hi) / 2 * ((lo + hi) / 2) then num_Root.go n k lo ((lo + hi) / 2) else num_Root.go n k ((lo + hi) / 2 + 1) hi) else lo
def num_Root.root (a0 : Int) : Int := num_Root.go (num_Root.cl a0) 31 0 1073741824
def num_Root.f (a0 : Int) : Option (Int) := some (num_Root.root a0)
theorem num_Root.sq_le {a b : Int} (h0 : 0 ≤ a) (h : a ≤ b) : a * a ≤ b * b := Int.mul_le_mul h h h0 (by omega)
def num_Root.isRoot (n r : Int) : Prop := 0 ≤ r ∧ n ≤ r * r ∧ (r = 0 ∨ (r - 1) * (r - 1) < n)
theorem num_Root.one {n r s : Int} (hr : num_Root.isRoot n r) (hs : num_Root.isRoot n s) : r = s := by
  have key : ∀ r s : Int, num_Root.isRoot n r → num_Root.isRoot n s → ¬ r < s := by
    intro r s hr hs hc
    obtain ⟨r0, r1, _⟩ := hr
    obtain ⟨s0, _, s2⟩ := hs
    rcases s2 with h | h
    · omega
    · have := num_Root.sq_le r0 (show r ≤ s - 1 by omega)
      omega
  have a := key r s hr hs
  have b := key s r hs hr
  omega
theorem num_Root.go_is (n : Int) : ∀ (k : Nat) (lo hi : Int), 0 ≤ lo → lo ≤ hi → hi - lo < 2 ^ k → n ≤ hi * hi → (lo = 0 ∨ (lo - 1) * (lo - 1) < n) → num_Root.isRoot n (num_Root.go n k lo hi) := by
  intro k
  induction k with
  | zero =>
    intro lo hi h0 h1 h2 h3 h4
    have : lo = hi := by simp at h2; omega
    subst this
    exact ⟨h0, h3, h4⟩
  | succ k ih =>
    intro lo hi h0 h1 h2 h3 h4
    have h5 : (2 : Int) ^ (k + 1) = 2 * 2 ^ k := by rw [Int.pow_succ, Int.mul_comm]
    rw [h5] at h2
    unfold num_Root.go
    by_cases c : lo < hi
    · rw [if_pos c]
      by_cases d : n ≤ (lo + hi) / 2 * ((lo + hi) / 2)
      · rw [if_pos d]
        exact ih _ _ h0 (by omega) (by omega) d h4
      · rw [if_neg d]
        refine ih _ _ (by omega) (by omega) (by omega) h3 (.inr ?_)
        rw [show (lo + hi) / 2 + 1 - 1 = (lo + hi) / 2 by omega]
        omega
    · rw [if_neg c]
      have : lo = hi := by omega
      subst this
      exact ⟨h0, h3, h4⟩
theorem num_Root.cl_range (a0 : Int) : 0 ≤ num_Root.cl a0 ∧ num_Root.cl a0 ≤ 1152921504606846976 := by
  unfold num_Root.cl mx mn
  constructor <;> (repeat' split) <;> omega
theorem num_Root.is (a0 : Int) : num_Root.isRoot (num_Root.cl a0) (num_Root.root a0) := by
  have := num_Root.cl_range a0
  exact num_Root.go_is _ 31 0 1073741824 (by omega) (by omega) (by decide) (by omega) (.inl rfl)
theorem math_Sqrt.calls (x y : Nat) (w : World) (h : FloatKind.f64.format.sqrt x = some y) :
    Calls Try.prog 25 #[.float .f64 x] w fun e w' => e = .returned (.float .f64 y) ∧ Below w.heap.size w w' := by
  have hd : ∀ w, (callFunc 34 #[.float .f64 x]).run Try.prog w = .ok (.value (.float .f64 y)) w := by
    intro w
    refine (run_callFunc_extern (fn := Try.f34) (e := Extern.MathSqrt.sqrt) Try.func34 (by kernel_rfl) (by kernel_rfl) (by kernel_rfl) (by kernel_rfl) _ w).trans ?_
    have e : Extern.MathSqrt.sqrt #[.float .f64 x] = (match FloatKind.f64.format.sqrt x with | some r => pure (.float .f64 r) | none => do pure (.float .f64 (← choose (.nanBits .f64 x x)))) := rfl
    rw [e, h]
    rfl
  clear h
  go_enter Try.func25, Try.ntmps25
  go_wp2
  go_ret
  exact ⟨rfl, Below.refl _ _⟩
set_option maxHeartbeats 8000000 in
set_option maxRecDepth 100000 in
theorem num_Root.calls (a0 : Int) (r : Int) (w : World) (h : num_Root.f a0 = some r) :
    Calls Try.prog 17 #[.int .i64 a0] w fun e w' => e = .returned (.int .i64 r) ∧ Below w.heap.size w w' := by
  obtain rfl := Option.some.inj h
  clear h
  have HQ := Aside0.mk (num_Root.is a0)
  have hrng := num_Root.cl_range a0
  obtain ⟨n, hn⟩ : ∃ n, n = num_Root.cl a0 := ⟨_, rfl⟩
  rw [← hn] at HQ hrng
  have HH : Aside0 (num_Held.f a0 0 1152921504606846976 = some n) := ⟨by rw [hn]; rfl⟩
  clear hn
  obtain ⟨y, q, hy, hq, hq0, hq1⟩ := sqrt_bound n hrng.1 hrng.2
  have HY := Aside0.mk hy
  have hcv : ∀ w, (convert 40 2 (.float .f64 y)).run Try.prog w = .ok (.int .i64 q) w := fun w =>
    run_convert_float_int w 40 2 .f64 .i64 y q (by kernel_rfl) (by kernel_rfl) (by unfold floatToIntVal; rw [hq]; exact if_pos ⟨by show (-9223372036854775808 : Int) ≤ q; omega, by show q ≤ 9223372036854775807; omega⟩)
  have HN := Aside0.mk hrng
  have HQ1 := Aside0.mk (And.intro hq0 hq1)
  clear hy hq hq0 hq1 hrng
  obtain ⟨G, hG⟩ : ∃ G : Nat, G = 2147483648 := ⟨_, rfl⟩
  go_enter Try.func17, Try.ntmps17
  go_wp2_with (first | (go_at_call 24; (with_reducible refine (num_Held.calls a0 0 1152921504606846976 n _ HH.out).mono ?_); rintro e w1 ⟨rfl, hb⟩; have B1 := Aside0.mk hb; clear hb) | (go_at_call 25; (refine (math_Sqrt.calls _ y _ HY.out).mono ?_); rintro e w2 ⟨rfl, hb⟩; have B2 := Aside0.mk hb; clear hb))
  have BB := Aside0.mk (below_step B1.out B2.out)
  have G0 := Aside0.mk hG
  clear hG hcv
  go_loopg [3] G (fun gg v3 wr => ∃ r : Int, 0 ≤ r ∧ r ≤ 2147483648 ∧ r ≤ (gg : Int) ∧ v3 = .int .i64 r ∧ Aside0 (Below w.heap.size w wr))
  case atStart => exact ⟨q, HQ1.out.1, HQ1.out.2, by rw [G0.out]; exact HQ1.out.2, rfl, BB⟩
  case round =>
    clear BB
    obtain ⟨r, hr0, hr1, hg, rfl, BB⟩ := hrel
    have hrr : 0 ≤ r * r ∧ r * r ≤ 4611686018427387904 := ⟨Int.mul_nonneg hr0 hr0, num_Root.sq_le hr0 hr1⟩
    obtain ⟨z, hz⟩ : ∃ z, z = r * r := ⟨_, rfl⟩
    have hzw : wrap64 (r * r) = z := by rw [hz]; unfold wrap64; omega
    have hn := HN.out
    by_cases c1 : n ≤ z
    · have c1t : decide (n ≤ z) = true := by simp [c1]
      by_cases c2 : 0 < r
      · have c2t : decide (0 < r) = true := by simp [c2]
        go_wp2
        go_roundg (r - 1).toNat
        case measure => omega
        case rel => exact ⟨r - 1, by omega, by omega, by omega, by go_num, BB⟩
      · have c2t : decide (0 < r) = false := by simp; omega
        obtain rfl : r = 0 := by omega
        go_wp2
        go_loopg [3] G (fun gg v3 wr => ∃ s : Int, 0 ≤ s ∧ s ≤ 2147483648 ∧ 2147483648 - s ≤ (gg : Int) ∧ v3 = .int .i64 s ∧ Aside0 (Below w.heap.size w wr) ∧ Aside0 (s = 0 ∨ (s - 1) * (s - 1) < n))
        case atStart => exact ⟨0, by omega, by omega, by rw [G0.out]; omega, rfl, BB, ⟨.inl rfl⟩⟩
        case round =>
          clear BB
          obtain ⟨s, hs0, hs1, hgs, rfl, BB, HI⟩ := hrel
          have hss : 0 ≤ s * s ∧ s * s ≤ 4611686018427387904 := ⟨Int.mul_nonneg hs0 hs0, num_Root.sq_le hs0 hs1⟩
          obtain ⟨x, hx⟩ : ∃ x, x = s * s := ⟨_, rfl⟩
          have hxw : wrap64 (s * s) = x := by rw [hx]; unfold wrap64; omega
          by_cases c3 : x < n
          · exfalso
            simp at hz
            omega
          · have c3t : decide (x < n) = false := by simp; omega
            go_wp2
            go_ret
            refine ⟨?_, BB.out⟩
            rw [num_Root.one HQ.out ⟨hs0, by omega, HI.out⟩]
            rfl
    · have c1t : decide (n ≤ z) = false := by simp; omega
      go_wp2
      go_loopg [3] G (fun gg v3 wr => ∃ s : Int, 0 ≤ s ∧ s ≤ 2147483648 ∧ 2147483648 - s ≤ (gg : Int) ∧ v3 = .int .i64 s ∧ Aside0 (Below w.heap.size w wr) ∧ Aside0 (s = 0 ∨ (s - 1) * (s - 1) < n))
      case atStart => exact ⟨r, by omega, by omega, by rw [G0.out]; omega, rfl, BB, ⟨by
        by_cases e : r = 0
        · exact .inl e
        · refine .inr ?_
          have := num_Root.sq_le (show 0 ≤ r - 1 by omega) (show r - 1 ≤ r by omega)
          omega⟩⟩
      case round =>
        clear BB
        obtain ⟨s, hs0, hs1, hgs, rfl, BB, HI⟩ := hrel
        have hss : 0 ≤ s * s ∧ s * s ≤ 4611686018427387904 := ⟨Int.mul_nonneg hs0 hs0, num_Root.sq_le hs0 hs1⟩
        obtain ⟨x, hx⟩ : ∃ x, x = s * s := ⟨_, rfl⟩
        have hxw : wrap64 (s * s) = x := by rw [hx]; unfold wrap64; omega
        by_cases c3 : x < n
        · have c3t : decide (x < n) = true := by simp [c3]
          have hs2 : s < 1073741824 := by
            refine Int.not_le.1 fun hc => ?_
            have := num_Root.sq_le (show (0 : Int) ≤ 1073741824 by decide) hc
            omega
          go_wp2
          go_roundg (2147483648 - (s + 1)).toNat
          case measure => omega
          case rel => exact ⟨s + 1, by omega, by omega, by omega, by go_num, BB, ⟨.inr (by rw [show s + 1 - 1 = s by omega]; omega)⟩⟩
        · have c3t : decide (x < n) = false := by simp; omega
          go_wp2
          go_ret
          refine ⟨?_, BB.out⟩
          rw [num_Root.one HQ.out ⟨hs0, by omega, HI.out⟩]
          rfl
/-- How far two spots are from each other. -/
def far (a b c d : Int) : Int := num_Root.root (sqd a b c d)
theorem sqd_nonneg (a b c d : Int) : 0 ≤ sqd a b c d := by
  have sq : ∀ z : Int, 0 ≤ z * z := fun z => by
    rcases Int.le_total 0 z with h | h
    · exact Int.mul_nonneg h h
    · have := Int.mul_nonneg_of_nonpos_of_nonpos h h; exact this
  have h1 := sq (a - c)
  have h2 := sq (b - d)
  unfold sqd
  omega
theorem spot_Dist.calls {x y u v : Nat} {a b c d : Int} (h : Spot x y a b) (g : Spot u v c d) (w : World) :
    Calls Try.prog 9 #[.complex .f64 x y, .complex .f64 u v] w fun e w' => e = .returned (.int .i64 (far a b c d)) ∧ Below w.heap.size w w' := by
  have HS := Aside0.mk (spot_Square.calls h g)
  have HR := Aside0.mk (num_Root.calls (sqd a b c d) _ · rfl)
  obtain ⟨z, hz⟩ : ∃ z, z = sqd a b c d := ⟨_, rfl⟩
  obtain ⟨r, hr⟩ : ∃ r, r = num_Root.root z := ⟨_, rfl⟩
  unfold far
  rw [← hz] at HS HR ⊢
  rw [← hr] at HR ⊢
  clear hr hz h g
  go_enter Try.func9, Try.ntmps9
  go_wp2_with (first | (go_at_call 11; with_reducible refine (HS.out _).mono ?_; rintro e w1 ⟨rfl, rfl⟩) | (go_at_call 17; with_reducible refine (HR.out _).mono ?_; rintro e w1 ⟨rfl, B1⟩; have BB := Aside0.mk B1; clear B1))
  go_ret
  exact ⟨rfl, BB.out⟩
end Go.Proofs.Ytajblfmabokgkaa.P
