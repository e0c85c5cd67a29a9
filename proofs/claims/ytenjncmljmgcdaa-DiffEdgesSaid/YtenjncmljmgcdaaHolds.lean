/- What Holds gives. -/
import Derived.Test.YtenjncmljmgcdaaSolve
namespace Go.Proofs.Ytenjncmljmgcdaa.P
open Go.Proofs.YtenjncmljmgcdaaR
open Go.Shelf Go.RowKit Go.Proofs.YtenjncmljmgcdaaW.PrintWords Go.Proofs.YtenjncmljmgcdaaW.PrintLast Go.Proofs.YtenjncmljmgcdaaW.PrintMore
set_option linter.unusedVariables false
set_option linter.unusedSimpArgs false
set_option maxHeartbeats 8000000
set_option maxRecDepth 100000
def outX (x : Int) : Bool := decide (x < -1152921504606846976) || decide (1152921504606846976 < x)
theorem diff_Holds_1.calls (w : World) (x : Int) : Calls Try.prog 26 (#[.int .i64 x] ++ #[]) w fun e' w' => e' = .returned (.bool (outX x)) ∧ Below w.heap.size w w' := by
  show Calls Try.prog 26 #[.int .i64 x] w fun e' w' => e' = .returned (.bool (decide (x < -1152921504606846976) || decide (1152921504606846976 < x))) ∧ Below w.heap.size w w'
  cases d1 : decide (x < -1152921504606846976)
  · cases d2 : decide (1152921504606846976 < x)
    all_goals
      go_enter Try.func26, Try.ntmps26
      go_wp2
      go_ret
      exact ⟨rfl, Below.refl _ _⟩
  · go_enter Try.func26, Try.ntmps26
    go_wp2
    go_ret
    exact ⟨rfl, Below.refl _ _⟩
/-- An edge does not hold. -/
def badH (xs : List Int) (e : S42) : Bool := decide (e.f0 < 0) || decide ((xs.length : Int) ≤ e.f0) || decide (e.f1 < 0) || decide ((xs.length : Int) ≤ e.f1) || decide (e.f2 < wrap64 (rd xs e.f1 - rd xs e.f0))
theorem diff_Holds_2.calls (xs : List Int) (A : Option Addr) (c : Nat) (g : Nat) (w : World) (hg : w.cell? ⟨g, 0, none⟩ = some (.slice A xs.length c)) (hC : Kd.C (Kd.int .i64) w A xs.length xs) (e : S42) :
    Calls Try.prog 27 (#[.agg #[.int .i64 e.f0, .int .i64 e.f1, .int .i64 e.f2]] ++ #[.pointer (some ⟨g, 0, none⟩)]) w fun e' w' => e' = .returned (.bool (badH xs e)) ∧ Below w.heap.size w w' := by
  obtain ⟨a, b, x⟩ := e
  show Calls Try.prog 27 #[.agg #[.int .i64 a, .int .i64 b, .int .i64 x], .pointer (some ⟨g, 0, none⟩)] w fun e' w' => e' = .returned (.bool (decide (a < 0) || decide ((xs.length : Int) ≤ a) || decide (b < 0) || decide ((xs.length : Int) ≤ b) || decide (x < wrap64 (rd xs b - rd xs a)))) ∧ Below w.heap.size w w'
  obtain ⟨W, hW⟩ : ∃ W, W = w.alloc (.cells #[.int .i64 a, .int .i64 b, .int .i64 x] 42) := ⟨_, rfl⟩
  have hBW : Below w.heap.size w W := by rw [hW]; exact below_alloc (Below.refl _ _) _
  have hg2 : W.cell? ⟨g, 0, none⟩ = some (.slice A xs.length c) := cell_below hBW hg
  have hC2 := Kd.C_below hC hBW
  have k0 : W.cell? ⟨w.heap.size, 0, none⟩ = some (.int .i64 a) := by rw [hW]; simp
  have k1 : W.cell? ⟨w.heap.size, 1, none⟩ = some (.int .i64 b) := by rw [hW]; simp
  have k2 : W.cell? ⟨w.heap.size, 2, none⟩ = some (.int .i64 x) := by rw [hW]; simp
  have HBW := Aside0.mk hBW
  obtain ⟨n, hn⟩ : ∃ n, n = xs.length := ⟨_, rfl⟩
  rw [← hn] at hg2 hC2 ⊢
  clear hg hC hn hBW
  subst hW
  cases d1 : decide (a < 0)
  · cases d2 : decide ((n : Int) ≤ a)
    · cases d3 : decide (b < 0)
      · cases d4 : decide ((n : Int) ≤ b)
        · have a0 := of_decide_eq_false d1
          have a1 := of_decide_eq_false d2
          have b0 := of_decide_eq_false d3
          have b1 := of_decide_eq_false d4
          obtain ⟨u, rfl⟩ : ∃ u : Nat, a = u := ⟨a.toNat, by omega⟩
          obtain ⟨v, rfl⟩ : ∃ v : Nat, b = v := ⟨b.toNat, by omega⟩
          obtain ⟨ad, rfl, l0⟩ := Kd.at_int hC2 (u : Int) (by omega) (by omega)
          obtain ⟨ad', h', l1⟩ := Kd.at_int hC2 (v : Int) (by omega) (by omega)
          cases h'
          rw [Int.toNat_natCast] at l0 l1
          have p1 : (0 : Int) ≤ (u : Int) := by omega
          have p2 : (u : Int) < (n : Int) := by omega
          have p3 : (0 : Int) ≤ (v : Int) := by omega
          have p4 : (v : Int) < (n : Int) := by omega
          generalize rd xs (u : Int) = y at l0 ⊢
          generalize rd xs (v : Int) = z at l1 ⊢
          have d2n : decide (n ≤ u) = false := by simp; omega
          have d4n : decide (n ≤ v) = false := by simp; omega
          clear hC2 a0 a1 b0 b1
          cases d5 : decide (x < wrap64 (z - y))
          all_goals
            go_enter Try.func27, Try.ntmps27
            go_wp2_with fail
            go_quiet (fail)
            go_wp2
            go_ret
            exact ⟨rfl, pw_below_drewN HBW.out _⟩
        · clear hC2
          go_enter Try.func27, Try.ntmps27
          go_wp2_with fail
          go_quiet (fail)
          go_wp2
          go_ret
          exact ⟨rfl, pw_below_drewN HBW.out _⟩
      · clear hC2
        go_enter Try.func27, Try.ntmps27
        go_wp2_with fail
        go_quiet (fail)
        go_wp2
        go_ret
        exact ⟨rfl, pw_below_drewN HBW.out _⟩
    · clear hC2
      go_enter Try.func27, Try.ntmps27
      go_wp2_with fail
      go_quiet (fail)
      go_wp2
      go_ret
      exact ⟨rfl, pw_below_drewN HBW.out _⟩
  · clear hC2
    go_enter Try.func27, Try.ntmps27
    go_wp2_with fail
    go_quiet (fail)
    go_wp2
    go_ret
    exact ⟨rfl, pw_below_drewN HBW.out _⟩
def holdsB (es : List S42) (xs : List Int) : Bool := !xs.any outX && !es.any (badH xs)
theorem diff_Holds.runs (A0 : Option Addr) (c0 : Nat) (es : List S42) (A1 : Option Addr) (c1 : Nat) (xs : List Int) (w : World) (hE : Kd.C k42 w A0 es.length es) (hc0 : es.length ≤ c0) (hX : Kd.C (Kd.int .i64) w A1 xs.length xs) (hc1 : xs.length ≤ c1) :
    Calls Try.prog 17 #[.slice A0 es.length c0, .slice A1 xs.length c1] w fun e w' => e = .returned (.bool (holdsB es xs)) ∧ Below w.heap.size w w' := by
  have hW : Below w.heap.size w (w.alloc (.cells #[.slice A1 xs.length c1] 24)) := below_alloc (Below.refl _ _) _
  have hcell : (w.alloc (.cells #[.slice A1 xs.length c1] 24)).cell? ⟨w.heap.size, 0, none⟩ = some (.slice A1 xs.length c1) := by simp
  have C1 := slices_ContainsFunc_int64.calls 26 #[] outX A1 c1 xs (w.alloc (.cells #[.slice A1 xs.length c1] 24)) (enters_of Try.func26 (by kernel_rfl) rfl) (fun W x hb => diff_Holds_1.calls W x) (Kd.C_below hX hW) hc1
  rw [any_int] at C1
  have C1 := Aside0.mk C1
  have C2 := Aside0.mk (fun (w2 : World) (hb : Below (w.alloc (.cells #[.slice A1 xs.length c1] 24)).heap.size (w.alloc (.cells #[.slice A1 xs.length c1] 24)) w2) =>
    slices_ContainsFunc_Edge.calls 27 #[.pointer (some ⟨w.heap.size, 0, none⟩)] (badH xs) A0 c0 es w2 (enters_of Try.func27 (by kernel_rfl) rfl)
      (fun W x hb2 => diff_Holds_2.calls xs A1 c1 w.heap.size W (cell_below (hb.trans (hb2.mono hb.size)) hcell) (Kd.C_below (Kd.C_below hX hW) (hb.trans (hb2.mono hb.size))) x) (Kd.C_below (Kd.C_below hE hW) hb) hc0)
  simp only [any_edge] at C2
  unfold holdsB
  generalize xs.any outX = z1 at C1 ⊢
  generalize es.any (badH xs) = z2 at C2 ⊢
  have HW := Aside0.mk hW
  clear hE hc0 hX hc1 hW
  generalize xs.length = n at C1 C2 hcell HW ⊢
  generalize es.length = m at C2 ⊢
  cases z1
  · go_enter Try.func17, Try.ntmps17
    go_wp2_with (first
      | (go_at_call 25; refine C1.out.mono ?_; rintro e w1 ⟨rfl, hb⟩; have B1 := Aside0.mk hb; clear hb)
      | (go_at_call 21; refine (C2.out _ B1.out).mono ?_; rintro e w2 ⟨rfl, hb⟩; have B2 := Aside0.mk hb; clear hb))
    go_ret
    exact ⟨rfl, HW.out.trans ((B1.out.trans (B2.out.mono B1.out.size)).mono HW.out.size)⟩
  · go_enter Try.func17, Try.ntmps17
    go_wp2_with (first
      | (go_at_call 25; refine C1.out.mono ?_; rintro e w1 ⟨rfl, hb⟩; have B1 := Aside0.mk hb; clear hb))
    go_ret
    exact ⟨rfl, HW.out.trans (B1.out.mono HW.out.size)⟩
end Go.Proofs.Ytenjncmljmgcdaa.P
