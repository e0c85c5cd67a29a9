/- Which of two spots a sweep comes to first: half, order, Before. -/
import Derived.Test.YtajblfmabokgkaaRoot
import Derived.Sort.Grow
namespace Go.Proofs.Ytajblfmabokgkaa.P
open Go.Proofs.YtajblfmabokgkaaR
open Go.Sort (grow grow_grow)
open Go.RowKit Go.Proofs.YtajblfmabokgkaaW.PrintWords Go.Proofs.YtajblfmabokgkaaW.PrintLast Go.Proofs.YtajblfmabokgkaaW.PrintMore
set_option linter.unusedVariables false
set_option linter.unusedSimpArgs false
set_option maxHeartbeats 8000000
set_option maxRecDepth 100000
/-- In which half of a turn a difference lies. -/
def hlfO : Ordering → Ordering → Int
  | .eq, .eq => 0
  | _, .gt => 1
  | .gt, .eq => 1
  | _, _ => 2
def hlf (a b : Int) : Int := hlfO (compare a 0) (compare b 0)
theorem spot_half.calls {p q : Nat} {a b : Int} (hp : FIs p a) (hq : FIs q b) (w : World) : Calls Try.prog 30 #[.complex .f64 p q] w fun e w' => e = .returned (.int .i64 (hlf a b)) ∧ w' = w := by
  have o1 := fl_order hp fis_zero
  have o2 := fl_order hq fis_zero
  unfold hlf
  generalize compare a 0 = c1 at o1 ⊢
  generalize compare b 0 = c2 at o2 ⊢
  clear hp hq
  go_enter Try.func30, Try.ntmps30
  cases c1 <;> cases c2
  all_goals
    go_wp2
    go_ret
    exact ⟨rfl, rfl⟩
def cmpI (a b : Int) : Int := if a < b then -1 else if b < a then 1 else 0
theorem cmp_int_f (a b : Int) : cmp_Compare_int.f a b = some (cmpI a b) := by
  unfold cmp_Compare_int.f cmp_isNaN_int.f cmpI
  simp only [bne_self_eq_false, Option.bind_some, Bool.false_eq_true, if_false]
  by_cases h : a < b
  · rw [if_pos h, if_pos h]
  · rw [if_neg h, if_neg h]
    by_cases g : b < a
    · rw [if_pos g, if_pos g]
    · rw [if_neg g, if_neg g]
theorem cmp_int64_f (a b : Int) : cmp_Compare_int64.f a b = some (cmpI a b) := by
  unfold cmp_Compare_int64.f cmp_isNaN_int64.f cmpI
  simp only [bne_self_eq_false, Option.bind_some, Bool.false_eq_true, if_false]
  by_cases h : a < b
  · rw [if_pos h, if_pos h]
  · rw [if_neg h, if_neg h]
    by_cases g : b < a
    · rw [if_pos g, if_pos g]
    · rw [if_neg g, if_neg g]
def or3 (a b c : Int) : Int := if a = 0 then (if b = 0 then c else b) else a
theorem or_f (a b c : Int) : cmp_Or_int.f 4 [a, b, c] = some (or3 a b c) := by
  unfold cmp_Or_int.f or3
  have r0 : rd [a, b, c] 0 = a := rfl
  have r1 : rd [a, b, c] 1 = b := rfl
  have r2 : rd [a, b, c] 2 = c := rfl
  have w0 : wrap64 (0 + 1) = 1 := by unfold wrap64; rfl
  have w1 : wrap64 (1 + 1) = 2 := by unfold wrap64; rfl
  have w2 : wrap64 (2 + 1) = 3 := by unfold wrap64; rfl
  show cmp_Or_int.l0 4 0 [a, b, c] 3 0 = _
  unfold cmp_Or_int.l0
  rw [if_pos (by decide), if_pos (by decide), if_pos (by simp), r0, w0]
  by_cases ha : a = 0
  · rw [if_pos ha, if_pos ha]
    unfold cmp_Or_int.l0
    rw [if_pos (by decide), if_pos (by decide), if_pos (by simp), r1, w1]
    by_cases hb : b = 0
    · rw [if_pos hb, if_pos hb]
      unfold cmp_Or_int.l0
      rw [if_pos (by decide), if_pos (by decide), if_pos (by simp), r2, w2]
      by_cases hc : c = 0
      · rw [if_pos hc]
        unfold cmp_Or_int.l0
        rw [if_neg (by decide), hc]
      · rw [if_neg hc]
    · rw [if_neg hb, if_neg hb]
  · rw [if_neg ha, if_neg ha]
theorem row_new (w : World) (n : Nat) (t : TypeId) (l : List Int) (hl : l.length ≤ 9223372036854775807) : Kd.C (Kd.int .i64) ((w.drewN n).alloc (.cells (l.map fun n => .int .i64 n).toArray t (0, 0))) (some ⟨w.heap.size, 0, none⟩) l.length l := by
  refine C_of_rowAt (Kd.int .i64) (fun n => [.int .i64 n]) (fun _ => rfl) (fun _ _ => rfl) hl ?_
  have h := rowAt_new (w.drewN n) (l.map fun n => Value.int .i64 n).toArray t
  have e : (l.flatMap fun n => [Value.int .i64 n]) = l.map fun n => Value.int .i64 n := by
    induction l with
    | nil => rfl
    | cons x l ih => rw [List.flatMap_cons, List.map_cons, ih (by rw [List.length_cons] at hl; omega) (rowAt_new (w.drewN n) _ t)]; rfl
  rw [e]
  exact h
theorem row_new3 (w : World) (n : Nat) (t : TypeId) (a b c : Int) : Kd.C (Kd.int .i64) ((w.drewN n).alloc (.cells #[.int .i64 a, .int .i64 b, .int .i64 c] t (0, 0))) (some ⟨w.heap.size, 0, none⟩) 3 [a, b, c] := row_new w n t [a, b, c] (by rw [List.length_cons, List.length_cons, List.length_cons, List.length_nil]; omega)
theorem grow_drawn (w : World) (m n : Nat) (o : Obj) : ((w.drewN m).alloc o).drewN n = grow (w.drewN (m + n)) #[o] := by
  unfold grow World.alloc World.drewN
  simp only [Nat.add_assoc, Array.push_eq_append]
theorem below_grown (w : World) (n : Nat) (os : Array Obj) : Below w.heap.size w (grow (w.drewN n) os) := by
  refine ⟨rfl, rfl, rfl, ?_, fun k hk => ?_⟩
  · unfold grow World.drewN
    simp
  · unfold grow World.drewN
    exact Array.getElem?_append_left hk
/-- How a sweep orders two spots. -/
def ordS (o1 o2 a b c d : Int) : Int := or3 (cmpI (hlf (a - o1) (b - o2)) (hlf (c - o1) (d - o2))) (-sgn (crs o1 o2 a b c d)) (cmpI (sqd o1 o2 a b) (sqd o1 o2 c d))
theorem sgn_range (n : Int) : -1 ≤ sgn n ∧ sgn n ≤ 1 := by unfold sgn; (repeat' split) <;> omega
theorem cmpI_range (a b : Int) : -1 ≤ cmpI a b ∧ cmpI a b ≤ 1 := by unfold cmpI; (repeat' split) <;> omega
theorem spot_order.calls {s t x y u v : Nat} {o1 o2 a b c d : Int} (k : Spot s t o1 o2) (h : Spot x y a b) (g : Spot u v c d) (w : World) :
    Calls Try.prog 22 #[.complex .f64 s t, .complex .f64 x y, .complex .f64 u v] w fun e w' => e = .returned (.int .i64 (ordS o1 o2 a b c d)) ∧ ∃ n os, w' = grow (w.drewN n) os := by
  obtain ⟨h1, h2⟩ := h.bre
  obtain ⟨h3, h4⟩ := h.bim
  obtain ⟨g1, g2⟩ := g.bre
  obtain ⟨g3, g4⟩ := g.bim
  obtain ⟨k1, k2⟩ := k.bre
  obtain ⟨k3, k4⟩ := k.bim
  obtain ⟨p, q, fp, fq, hs⟩ := cplx_sub h.re h.im k.re k.im (by omega) (by omega)
  obtain ⟨p', q', fp', fq', hs'⟩ := cplx_sub g.re g.im k.re k.im (by omega) (by omega)
  have C1 := Aside0.mk (spot_half.calls fp fq)
  have C2 := Aside0.mk (spot_half.calls fp' fq')
  have C3 := Aside0.mk (fun w => cmp_Compare_int.calls _ _ _ w (cmp_int_f (hlf (a - o1) (b - o2)) (hlf (c - o1) (d - o2))))
  have C4 := Aside0.mk (spot_Turn.calls k h g)
  have C5 := Aside0.mk (spot_Square.calls k h)
  have C6 := Aside0.mk (spot_Square.calls k g)
  have C7 := Aside0.mk (fun w => cmp_Compare_int64.calls _ _ _ w (cmp_int64_f (sqd o1 o2 a b) (sqd o1 o2 c d)))
  unfold ordS
  have r1 := sgn_range (crs o1 o2 a b c d)
  generalize hlf (a - o1) (b - o2) = H1 at C1 C3 ⊢
  generalize hlf (c - o1) (d - o2) = H2 at C2 C3 ⊢
  generalize cmpI H1 H2 = e1 at C3 ⊢
  generalize sgn (crs o1 o2 a b c d) = T at C4 r1 ⊢
  generalize sqd o1 o2 a b = S1 at C5 C7 ⊢
  generalize sqd o1 o2 c d = S2 at C6 C7 ⊢
  generalize cmpI S1 S2 = e3 at C7 ⊢
  have wr : wrap64 (-T) = -T := by unfold wrap64; omega
  have C8 := Aside0.mk (or_f e1 (-T) e3)
  clear h1 h2 h3 h4 g1 g2 g3 g4 k1 k2 k3 k4 fp fq fp' fq' h g k r1
  go_enter Try.func22, Try.ntmps22
  go_wp2_with (first
    | (go_at_call 30; with_reducible refine (C1.out _).mono ?_; rintro e w1 ⟨rfl, rfl⟩)
    | (go_at_call 30; with_reducible refine (C2.out _).mono ?_; rintro e w1 ⟨rfl, rfl⟩)
    | (go_at_call 29; with_reducible refine (C3.out _).mono ?_; rintro e w1 ⟨rfl, ⟨n1, rfl⟩⟩)
    | (go_at_call 10; with_reducible refine (C4.out _).mono ?_; rintro e w1 ⟨rfl, rfl⟩)
    | (go_at_call 11; with_reducible refine (C5.out _).mono ?_; rintro e w1 ⟨rfl, rfl⟩)
    | (go_at_call 11; with_reducible refine (C6.out _).mono ?_; rintro e w1 ⟨rfl, rfl⟩)
    | (go_at_call 31; with_reducible refine (C7.out _).mono ?_; rintro e w1 ⟨rfl, ⟨n2, rfl⟩⟩)
    | (go_at_call 28; refine (cmp_Or_int.calls 4 _ 3 [e1, -T, e3] _ _ (row_new3 _ _ 3 e1 (-T) e3) (Nat.le_refl 3) C8.out).mono ?_; rintro e w2 ⟨rfl, ⟨n3, rfl⟩⟩))
  go_ret
  exact ⟨rfl, _, _, grow_drawn _ _ _ _⟩
theorem spot_Before.calls {s t x y u v : Nat} {o1 o2 a b c d : Int} (k : Spot s t o1 o2) (h : Spot x y a b) (g : Spot u v c d) (w : World) :
    Calls Try.prog 13 #[.complex .f64 s t, .complex .f64 x y, .complex .f64 u v] w fun e w' => e = .returned (.bool (decide (ordS o1 o2 a b c d < 0))) ∧ Below w.heap.size w w' := by
  have C1 := Aside0.mk (spot_order.calls k h g)
  have C2 := Aside0.mk (spot_Good.calls k)
  have C3 := Aside0.mk (spot_Good.calls h)
  have C4 := Aside0.mk (spot_Good.calls g)
  generalize ordS o1 o2 a b c d = z at C1 ⊢
  clear h g k
  go_enter Try.func13, Try.ntmps13
  go_wp2_with (first
    | (go_at_call 22; with_reducible refine (C1.out _).mono ?_; rintro e w1 ⟨rfl, n, os, rfl⟩)
    | (go_at_call 16; with_reducible refine (C2.out _).mono ?_; rintro e w1 ⟨rfl, rfl⟩)
    | (go_at_call 16; with_reducible refine (C3.out _).mono ?_; rintro e w1 ⟨rfl, rfl⟩)
    | (go_at_call 16; with_reducible refine (C4.out _).mono ?_; rintro e w1 ⟨rfl, rfl⟩))
  go_ret
  exact ⟨rfl, below_grown _ _ _⟩
end Go.Proofs.Ytajblfmabokgkaa.P
