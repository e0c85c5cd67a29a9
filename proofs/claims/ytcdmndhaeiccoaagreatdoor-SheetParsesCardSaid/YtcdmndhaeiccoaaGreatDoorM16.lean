/- The check of an instance that was read. -/
import Derived.Test.YtcdmndhaeiccoaaGreatDoorMkit
import Derived.Test.YtcdmndhaeiccoaaGreatDoorM15
namespace Go.Proofs.YtcdmndhaeiccoaaGreatDoor.P
open Go Go.Proofs.YtcdmndhaeiccoaaGreatDoorR
open Go.RowKit Go.Proofs.YtcdmndhaeiccoaaGreatDoorW.PrintWords Go.Proofs.YtcdmndhaeiccoaaGreatDoorW.PrintLast
set_option linter.unusedVariables false
set_option linter.unusedSimpArgs false
set_option maxHeartbeats 8000000
set_option maxRecDepth 100000
/-- What every instance has that was read to its end. -/
structure GoodI (x : InstP) : Prop where
  cars0 : x.cars.length ≠ 0
  cars64 : x.cars.length ≤ 64
  stops : x.stops.length = 2 * x.rides.length + 2
  most : x.stops.length ≤ 4096
  small : ∀ s ∈ x.stops, Sm s.f0.f0 ∧ Sm s.f0.f1
  spots : ∀ s ∈ x.stops, ∃ p q, Spot s.f4.1 s.f4.2 p q
  rows : x.rows = [] ∨ (x.rows.length = x.stops.length ∧ ∀ r ∈ x.rows, r.length = x.stops.length)
def loadsBad (x : InstP) : Bool := (List.range x.stops.length).any (loadBad x.rides.length x.stops)
def chkI (x : InstP) : Int := if rangesB x then (if loadsBad x then 33 else if matB x then 23 else 0) else 23
theorem inst_Check.calls (p : Lie) (x : InstP) (w : World) (h : InC w p x) (g : GoodI x) :
    Calls Tryz.prog 12 #[.agg (instCs p x)] w fun e w' => e = .returned (.int .i64 (chkI x)) ∧ Below w.heap.size w w' := by
  have S1 := Aside0.mk (fun W => sizes_calls p.A0 p.A1 p.A2 p.A3 x.cars.length p.c0 x.stops.length p.c1 x.rides.length p.c2 x.rows.length p.c3 g.cars0 g.cars64 g.stops g.most W)
  have S2 := Aside0.mk (fun W (hb : Below w.heap.size w W) => inst_ranges.calls p x W (h.below hb))
  have S3 := Aside0.mk (fun W (hb : Below w.heap.size w W) => inst_loads.calls' p x W (h.below hb) g.stops g.most g.small)
  have S4 := Aside0.mk (fun W (hb : Below w.heap.size w W) (hr : x.rows.length = x.stops.length ∧ ∀ r ∈ x.rows, r.length = x.stops.length) => inst_matrix.calls p x W (h.below hb) hr.1 hr.2 g.most)
  have S5 := Aside0.mk (fun W (hb : Below w.heap.size w W) => ContainsFunc_Stop.calls 38 #[] (fun _ => false) p.A1 p.c1 x.stops W (enters_of Tryz.func38 (by kernel_rfl) rfl) (fun W2 s hs _ => by obtain ⟨a, b, hsp⟩ := g.spots s hs; exact badSpot_calls s W2 a b hsp) (h.below hb).h1 h.g1)
  have hany : x.stops.any (fun _ => false) = false := by rw [Bool.eq_false_iff]; intro hc; obtain ⟨_, _, hq⟩ := List.any_eq_true.1 hc; cases hq
  rw [hany] at S5
  have hst := g.stops
  have hrows := g.rows
  have hmat0 : x.rows = [] → matB x = false := fun h => by unfold matB; rw [h]; rfl
  unfold chkI loadsBad
  unfold instCs at S2 S3 S4
  obtain ⟨A0, c0, A1, c1, A2, c2, A3, c3⟩ := p
  show Calls Tryz.prog 12 #[.agg #[.slice A0 x.cars.length c0, .slice A1 x.stops.length c1, .slice A2 x.rides.length c2, .slice A3 x.rows.length c3]] w _
  generalize rangesB x = z1 at S2 ⊢
  generalize (List.range x.stops.length).any (loadBad x.rides.length x.stops) = z2 at S3 ⊢
  generalize matB x = z3 at S4 hmat0 ⊢
  clear h hany g
  have hl : (x.rows.length = 0 ∧ z3 = false) ∨ (x.rows.length ≠ 0 ∧ (x.rows.length = x.stops.length ∧ ∀ r ∈ x.rows, r.length = x.stops.length)) := by
    rcases hrows with h | h
    · exact .inl ⟨by rw [h]; rfl, hmat0 h⟩
    · exact .inr ⟨by omega, h⟩
  clear hrows hmat0 hst
  generalize x.cars.length = n0 at S1 S2 S3 S4 ⊢
  generalize (∀ r ∈ x.rows, r.length = x.stops.length) = R at S4 hl
  generalize x.stops.length = n1 at S1 S2 S3 S4 S5 hl ⊢
  generalize x.rides.length = n2 at S1 S2 S3 S4 ⊢
  generalize x.rows.length = n3 at S1 S2 S3 S4 hl ⊢
  have HB := Aside0.mk (below_alloc (Below.refl w.heap.size w) (.cells #[.slice A0 n0 c0, .slice A1 n1 c1, .slice A2 n2 c2, .slice A3 n3 c3] 28 (0, 0)))
  have HW := Aside0.mk (heap_alloc_new w (.cells #[.slice A0 n0 c0, .slice A1 n1 c1, .slice A2 n2 c2, .slice A3 n3 c3] 28 (0, 0)))
  have CL := Aside0.mk (fun (W : World) (h : W.heap[w.heap.size]? = some (.cells #[.slice A0 n0 c0, .slice A1 n1 c1, .slice A2 n2 c2, .slice A3 n3 c3] 28 (0, 0))) => four_of h)
  cases z1
  · go_enter Tryz.func12, Tryz.ntmps12
    go_wp2_with (first
      | (go_at_call 33; refine (S1.out _).mono ?_; rintro e w1 ⟨rfl, hb⟩; have B1 := Aside0.mk (HB.out.trans (hb.mono HB.out.size)); have HW1 := Aside0.mk ((hb.block _ (Array.getElem?_eq_some_iff.1 HW.out).1).trans HW.out); clear hb; obtain ⟨⟨y0, y1, y2, y3⟩, f0, f1, f2, f3⟩ := CL.out w1 HW1.out)
      | (go_at_call 34; refine (S2.out _ B1.out).mono ?_; rintro e w2 ⟨rfl, hb⟩; have B2 := Aside0.mk (B1.out.trans (hb.mono B1.out.size)); clear hb y0 y1 y2 y3 f0 f1 f2 f3))
    go_ret
    exact ⟨rfl, B2.out⟩
  · cases z2
    · rcases hl with ⟨hl, rfl⟩ | ⟨hl, hr⟩
      · subst hl
        go_enter Tryz.func12, Tryz.ntmps12
        go_wp2_with (first
          | (go_at_call 33; refine (S1.out _).mono ?_; rintro e w1 ⟨rfl, hb⟩; have B1 := Aside0.mk (HB.out.trans (hb.mono HB.out.size)); have HW1 := Aside0.mk ((hb.block _ (Array.getElem?_eq_some_iff.1 HW.out).1).trans HW.out); clear hb; obtain ⟨⟨y0, y1, y2, y3⟩, f0, f1, f2, f3⟩ := CL.out w1 HW1.out)
          | (go_at_call 34; refine (S2.out _ B1.out).mono ?_; rintro e w2 ⟨rfl, hb⟩; have B2 := Aside0.mk (B1.out.trans (hb.mono B1.out.size)); have HW2 := Aside0.mk ((hb.block _ (Array.getElem?_eq_some_iff.1 HW1.out).1).trans HW1.out); clear hb y0 y1 y2 y3 f0 f1 f2 f3; obtain ⟨⟨y0, y1, y2, y3⟩, f0, f1, f2, f3⟩ := CL.out w2 HW2.out)
          | (go_at_call 35; refine (S3.out _ B2.out).mono ?_; rintro e w3 ⟨rfl, hb⟩; have B3 := Aside0.mk (B2.out.trans (hb.mono B2.out.size)); have HW3 := Aside0.mk ((hb.block _ (Array.getElem?_eq_some_iff.1 HW2.out).1).trans HW2.out); clear hb y0 y1 y2 y3 f0 f1 f2 f3; obtain ⟨⟨y0, y1, y2, y3⟩, f0, f1, f2, f3⟩ := CL.out w3 HW3.out)
          | (go_at_call 37; refine (S5.out _ B3.out).mono ?_; rintro e w4 ⟨rfl, hb⟩; have B4 := Aside0.mk (B3.out.trans (hb.mono B3.out.size)); clear hb y0 y1 y2 y3 f0 f1 f2 f3))
        go_ret
        exact ⟨rfl, B4.out⟩
      · have d1 : decide ((0 : Int) < (n3 : Int)) = true := by simp; omega
        have d2 : decide (0 < n3) = true := by simp; omega
        have HR := Aside0.mk hr
        clear hl hr
        go_enter Tryz.func12, Tryz.ntmps12
        go_wp2_with (first
          | (go_at_call 33; refine (S1.out _).mono ?_; rintro e w1 ⟨rfl, hb⟩; have B1 := Aside0.mk (HB.out.trans (hb.mono HB.out.size)); have HW1 := Aside0.mk ((hb.block _ (Array.getElem?_eq_some_iff.1 HW.out).1).trans HW.out); clear hb; obtain ⟨⟨y0, y1, y2, y3⟩, f0, f1, f2, f3⟩ := CL.out w1 HW1.out)
          | (go_at_call 34; refine (S2.out _ B1.out).mono ?_; rintro e w2 ⟨rfl, hb⟩; have B2 := Aside0.mk (B1.out.trans (hb.mono B1.out.size)); have HW2 := Aside0.mk ((hb.block _ (Array.getElem?_eq_some_iff.1 HW1.out).1).trans HW1.out); clear hb y0 y1 y2 y3 f0 f1 f2 f3; obtain ⟨⟨y0, y1, y2, y3⟩, f0, f1, f2, f3⟩ := CL.out w2 HW2.out)
          | (go_at_call 35; refine (S3.out _ B2.out).mono ?_; rintro e w3 ⟨rfl, hb⟩; have B3 := Aside0.mk (B2.out.trans (hb.mono B2.out.size)); have HW3 := Aside0.mk ((hb.block _ (Array.getElem?_eq_some_iff.1 HW2.out).1).trans HW2.out); clear hb y0 y1 y2 y3 f0 f1 f2 f3; obtain ⟨⟨y0, y1, y2, y3⟩, f0, f1, f2, f3⟩ := CL.out w3 HW3.out)
          | (go_at_call 36; refine (S4.out _ B3.out HR.out).mono ?_; rintro e w4 ⟨rfl, hb⟩; have B4 := Aside0.mk (B3.out.trans (hb.mono B3.out.size)); clear hb y0 y1 y2 y3 f0 f1 f2 f3))
        all_goals (go_ret; exact ⟨rfl, B4.out⟩)
    · go_enter Tryz.func12, Tryz.ntmps12
      go_wp2_with (first
        | (go_at_call 33; refine (S1.out _).mono ?_; rintro e w1 ⟨rfl, hb⟩; have B1 := Aside0.mk (HB.out.trans (hb.mono HB.out.size)); have HW1 := Aside0.mk ((hb.block _ (Array.getElem?_eq_some_iff.1 HW.out).1).trans HW.out); clear hb; obtain ⟨⟨y0, y1, y2, y3⟩, f0, f1, f2, f3⟩ := CL.out w1 HW1.out)
        | (go_at_call 34; refine (S2.out _ B1.out).mono ?_; rintro e w2 ⟨rfl, hb⟩; have B2 := Aside0.mk (B1.out.trans (hb.mono B1.out.size)); have HW2 := Aside0.mk ((hb.block _ (Array.getElem?_eq_some_iff.1 HW1.out).1).trans HW1.out); clear hb y0 y1 y2 y3 f0 f1 f2 f3; obtain ⟨⟨y0, y1, y2, y3⟩, f0, f1, f2, f3⟩ := CL.out w2 HW2.out)
        | (go_at_call 35; refine (S3.out _ B2.out).mono ?_; rintro e w3 ⟨rfl, hb⟩; have B3 := Aside0.mk (B2.out.trans (hb.mono B2.out.size)); clear hb y0 y1 y2 y3 f0 f1 f2 f3))
      go_ret
      exact ⟨rfl, B3.out⟩
end Go.Proofs.YtcdmndhaeiccoaaGreatDoor.P
