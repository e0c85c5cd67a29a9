-- printed by the session's own program wip/xprint.py (over the kit's printer); nothing here is trusted: Lean checks it
import Derived.Test.YtenjncmljmgcdaaP0
import Derived.Test.YtenjncmljmgcdaaP4
import Derived.Test.YtenjncmljmgcdaaP5
import Derived.Test.YtenjncmljmgcdaaP10
namespace Go.Proofs.Ytenjncmljmgcdaa.P
open Go.Proofs.YtenjncmljmgcdaaR
open Go.RowKit Go.Proofs.YtenjncmljmgcdaaW.PrintWords Go.Proofs.YtenjncmljmgcdaaW.PrintLast Go.Proofs.YtenjncmljmgcdaaW.PrintMore
attribute [local go_sem] max2_int min2_int max_two min_two max_three min_three max_four min_four   -- for this text's walks alone
set_option linter.unusedVariables false
set_option linter.unusedSimpArgs false

/-! ### jitneylaw07_DiffEdges: function 6 -/
mutual
def jitneylaw07_DiffEdges.j0 : Nat → Int → List (S42) → Int → Bool → Int → Int → Int → Option (Bool)
  | 0, _, _, _, _, _, _, _ => none
  | k + 1, x0, x1, x2, x29, x225000, x225001, x225002 => if x29 = true then (some true) else ((diff_Solve.f x0 x1 x2).bind fun bt226 => ((some (([] : List (S42)) : List (S42))).bind fun y233 => (if y233.length + x1.length < 5864062014805 then ((some (y233 ++ x1 : List (S42))).bind fun y236 => ((some (([(⟨x225000, x225001, x225002⟩ : S42)] : List (S42)) : List (S42))).bind fun y239 => (if y236.length + y239.length < 5864062014805 then ((diff_Solve.f x0 (y236 ++ y239) x2).bind fun bt245 => (if bt226.2.2 = 0 then (jitneylaw07_DiffEdges.j1 k x0 x1 x2 bt226.1 bt226.2.1 bt226.2.2 bt245.1 bt245.2.1 bt245.2.2 (bt245.2.2 != 0) x225000 x225001 x225002) else (jitneylaw07_DiffEdges.j1 k x0 x1 x2 bt226.1 bt226.2.1 bt226.2.2 bt245.1 bt245.2.1 bt245.2.2 true x225000 x225001 x225002))) else (none)))) else (none))))
def jitneylaw07_DiffEdges.j1 : Nat → Int → List (S42) → Int → List Int → List Int → Int → List Int → List Int → Int → Bool → Int → Int → Int → Option (Bool)
  | 0, _, _, _, _, _, _, _, _, _, _, _, _, _ => none
  | k + 1, x0, x1, x2, x9, x10, x11, x13, x14, x15, x57, x225000, x225001, x225002 => if x57 = true then (if x11 = 0 then (some true) else (some (x15 != 0))) else (if (x10.length : Int) > 0 then (some (decide ((x14.length : Int) > 0))) else (if (x14.length : Int) > 0 then (some true) else (jitneylaw07_DiffEdges.l0 k x0 x1 x2 x9 x13 (x9.length : Int) 0 x225000 x225001 x225002)))
def jitneylaw07_DiffEdges.l0 : Nat → Int → List (S42) → Int → List Int → List Int → Int → Int → Int → Int → Int → Option (Bool)
  | 0, _, _, _, _, _, _, _, _, _, _ => none
  | k + 1, x0, x1, x2, x9, x13, x74, x75, x225000, x225001, x225002 => if x75 < x74 then (if 0 ≤ x75 then (if x75 < (x13.length : Int) then (if x75 < (x9.length : Int) then (if (rd x13 x75) > (rd x9 x75) then (some false) else (jitneylaw07_DiffEdges.l0 k x0 x1 x2 x9 x13 x74 (wrap64 (x75 + 1)) x225000 x225001 x225002)) else (none)) else (none)) else (none)) else (if 0 ≤ x225000 then (if x225000 < (x9.length : Int) then (if (rd x9 x225000) = 1152921504606846976 then (jitneylaw07_DiffEdges.j3 k x0 x1 x2 x9 true x225000 x225001 x225002) else (if 0 ≤ x225001 then (if x225001 < (x9.length : Int) then (jitneylaw07_DiffEdges.j3 k x0 x1 x2 x9 ((rd x9 x225001) == 1152921504606846976) x225000 x225001 x225002) else (none)) else (none))) else (none)) else (none))
def jitneylaw07_DiffEdges.j3 : Nat → Int → List (S42) → Int → List Int → Bool → Int → Int → Int → Option (Bool)
  | 0, _, _, _, _, _, _, _, _ => none
  | k + 1, x0, x1, x2, x9, x101, x225000, x225001, x225002 => if x101 = true then (some true) else (if 0 ≤ x225001 then (if x225001 < (x9.length : Int) then (if 0 ≤ x225000 then (if x225000 < (x9.length : Int) then (if (mx (wrap64 ((rd x9 x225001) - (rd x9 x225000))) 0) > 2199023255552 then (some true) else ((some (([] : List (S42)) : List (S42))).bind fun y258 => (if y258.length + x1.length < 5864062014805 then ((some (y258 ++ x1 : List (S42))).bind fun y261 => ((some (([(⟨x225000, x225001, mx (wrap64 ((rd x9 x225001) - (rd x9 x225000))) 0⟩ : S42)] : List (S42)) : List (S42))).bind fun y264 => (if y261.length + y264.length < 5864062014805 then ((diff_Solve.f x0 (y261 ++ y264) x2).bind fun bt270 => ((jitneyref01_SameLongs.f k bt270.1 x9).bind fun t277 => (some t277))) else (none)))) else (none)))) else (none)) else (none)) else (none)) else (none))
end
def jitneylaw07_DiffEdges.f (k : Nat) (a0 : Int) (l1 : List (S42)) (a2 : Int) (a3_0 : Int) (a3_1 : Int) (a3_2 : Int) : Option (Bool) := (jitneylaw07_alive.f).bind fun t225 => (if t225 = true then (if a0 > 60 then (jitneylaw07_DiffEdges.j0 k a0 l1 a2 true a3_0 a3_1 a3_2) else (jitneylaw07_DiffEdges.j0 k a0 l1 a2 (decide ((l1.length : Int) > 200)) a3_0 a3_1 a3_2)) else (some false))
theorem jitneylaw07_DiffEdges.mono_l : ∀ k, (∀ y0 y1 y2 y3 y4 y5 y6, LeO (jitneylaw07_DiffEdges.j0 k y0 y1 y2 y3 y4 y5 y6) (jitneylaw07_DiffEdges.j0 (k + 1) y0 y1 y2 y3 y4 y5 y6)) ∧ (∀ y0 y1 y2 y3 y4 y5 y6 y7 y8 y9 y10 y11 y12, LeO (jitneylaw07_DiffEdges.j1 k y0 y1 y2 y3 y4 y5 y6 y7 y8 y9 y10 y11 y12) (jitneylaw07_DiffEdges.j1 (k + 1) y0 y1 y2 y3 y4 y5 y6 y7 y8 y9 y10 y11 y12)) ∧ (∀ y0 y1 y2 y3 y4 y5 y6 y7 y8 y9, LeO (jitneylaw07_DiffEdges.l0 k y0 y1 y2 y3 y4 y5 y6 y7 y8 y9) (jitneylaw07_DiffEdges.l0 (k + 1) y0 y1 y2 y3 y4 y5 y6 y7 y8 y9)) ∧ (∀ y0 y1 y2 y3 y4 y5 y6 y7, LeO (jitneylaw07_DiffEdges.j3 k y0 y1 y2 y3 y4 y5 y6 y7) (jitneylaw07_DiffEdges.j3 (k + 1) y0 y1 y2 y3 y4 y5 y6 y7))
  | 0 => ⟨fun _ _ _ _ _ _ _ r h => by simp [jitneylaw07_DiffEdges.j0] at h, fun _ _ _ _ _ _ _ _ _ _ _ _ _ r h => by simp [jitneylaw07_DiffEdges.j1] at h, fun _ _ _ _ _ _ _ _ _ _ r h => by simp [jitneylaw07_DiffEdges.l0] at h, fun _ _ _ _ _ _ _ _ r h => by simp [jitneylaw07_DiffEdges.j3] at h⟩
  | k + 1 => by
    obtain ⟨ih0, ih1, ih2, ih3⟩ := jitneylaw07_DiffEdges.mono_l k
    refine ⟨?_, ?_, ?_, ?_⟩
    · intro y0 y1 y2 y3 y4 y5 y6
      unfold jitneylaw07_DiffEdges.j0
      repeat' first
      | (with_reducible exact ih0 _ _ _ _ _ _ _)
      | (with_reducible exact ih1 _ _ _ _ _ _ _ _ _ _ _ _ _)
      | (with_reducible exact ih2 _ _ _ _ _ _ _ _ _ _)
      | (with_reducible exact ih3 _ _ _ _ _ _ _ _)
      | (with_reducible exact jitneyref01_SameLongs.mono _ _ _)
      | (with_reducible exact LeO.refl _)
      | (with_reducible exact LeO.none _)
      | (with_reducible refine LeO.ite ?_ ?_)
      | (with_reducible refine LeO.bind ?_ (fun _ => ?_))
      | exact ih0 _ _ _ _ _ _ _
      | exact ih1 _ _ _ _ _ _ _ _ _ _ _ _ _
      | exact ih2 _ _ _ _ _ _ _ _ _ _
      | exact ih3 _ _ _ _ _ _ _ _
      | exact jitneyref01_SameLongs.mono _ _ _
      | exact LeO.none _
      | refine LeO.ite ?_ ?_
      | refine LeO.bind ?_ (fun _ => ?_)
    · intro y0 y1 y2 y3 y4 y5 y6 y7 y8 y9 y10 y11 y12
      unfold jitneylaw07_DiffEdges.j1
      repeat' first
      | (with_reducible exact ih0 _ _ _ _ _ _ _)
      | (with_reducible exact ih1 _ _ _ _ _ _ _ _ _ _ _ _ _)
      | (with_reducible exact ih2 _ _ _ _ _ _ _ _ _ _)
      | (with_reducible exact ih3 _ _ _ _ _ _ _ _)
      | (with_reducible exact jitneyref01_SameLongs.mono _ _ _)
      | (with_reducible exact LeO.refl _)
      | (with_reducible exact LeO.none _)
      | (with_reducible refine LeO.ite ?_ ?_)
      | (with_reducible refine LeO.bind ?_ (fun _ => ?_))
      | exact ih0 _ _ _ _ _ _ _
      | exact ih1 _ _ _ _ _ _ _ _ _ _ _ _ _
      | exact ih2 _ _ _ _ _ _ _ _ _ _
      | exact ih3 _ _ _ _ _ _ _ _
      | exact jitneyref01_SameLongs.mono _ _ _
      | exact LeO.none _
      | refine LeO.ite ?_ ?_
      | refine LeO.bind ?_ (fun _ => ?_)
    · intro y0 y1 y2 y3 y4 y5 y6 y7 y8 y9
      unfold jitneylaw07_DiffEdges.l0
      repeat' first
      | (with_reducible exact ih0 _ _ _ _ _ _ _)
      | (with_reducible exact ih1 _ _ _ _ _ _ _ _ _ _ _ _ _)
      | (with_reducible exact ih2 _ _ _ _ _ _ _ _ _ _)
      | (with_reducible exact ih3 _ _ _ _ _ _ _ _)
      | (with_reducible exact jitneyref01_SameLongs.mono _ _ _)
      | (with_reducible exact LeO.refl _)
      | (with_reducible exact LeO.none _)
      | (with_reducible refine LeO.ite ?_ ?_)
      | (with_reducible refine LeO.bind ?_ (fun _ => ?_))
      | exact ih0 _ _ _ _ _ _ _
      | exact ih1 _ _ _ _ _ _ _ _ _ _ _ _ _
      | exact ih2 _ _ _ _ _ _ _ _ _ _
      | exact ih3 _ _ _ _ _ _ _ _
      | exact jitneyref01_SameLongs.mono _ _ _
      | exact LeO.none _
      | refine LeO.ite ?_ ?_
      | refine LeO.bind ?_ (fun _ => ?_)
    · intro y0 y1 y2 y3 y4 y5 y6 y7
      unfold jitneylaw07_DiffEdges.j3
      repeat' first
      | (with_reducible exact ih0 _ _ _ _ _ _ _)
      | (with_reducible exact ih1 _ _ _ _ _ _ _ _ _ _ _ _ _)
      | (with_reducible exact ih2 _ _ _ _ _ _ _ _ _ _)
      | (with_reducible exact ih3 _ _ _ _ _ _ _ _)
      | (with_reducible exact jitneyref01_SameLongs.mono _ _ _)
      | (with_reducible exact LeO.refl _)
      | (with_reducible exact LeO.none _)
      | (with_reducible refine LeO.ite ?_ ?_)
      | (with_reducible refine LeO.bind ?_ (fun _ => ?_))
      | exact ih0 _ _ _ _ _ _ _
      | exact ih1 _ _ _ _ _ _ _ _ _ _ _ _ _
      | exact ih2 _ _ _ _ _ _ _ _ _ _
      | exact ih3 _ _ _ _ _ _ _ _
      | exact jitneyref01_SameLongs.mono _ _ _
      | exact LeO.none _
      | refine LeO.ite ?_ ?_
      | refine LeO.bind ?_ (fun _ => ?_)
theorem jitneylaw07_DiffEdges.mono : ∀ a0 a1 a2 a3 a4 a5 k, LeO (jitneylaw07_DiffEdges.f k a0 a1 a2 a3 a4 a5) (jitneylaw07_DiffEdges.f (k + 1) a0 a1 a2 a3 a4 a5) := by
  intro a0 a1 a2 a3 a4 a5 k
  obtain ⟨ih0, ih1, ih2, ih3⟩ := jitneylaw07_DiffEdges.mono_l k
  unfold jitneylaw07_DiffEdges.f
  repeat' first
      | (with_reducible exact ih0 _ _ _ _ _ _ _)
      | (with_reducible exact ih1 _ _ _ _ _ _ _ _ _ _ _ _ _)
      | (with_reducible exact ih2 _ _ _ _ _ _ _ _ _ _)
      | (with_reducible exact ih3 _ _ _ _ _ _ _ _)
      | (with_reducible exact jitneyref01_SameLongs.mono _ _ _)
      | (with_reducible exact LeO.refl _)
      | (with_reducible exact LeO.none _)
      | (with_reducible refine LeO.ite ?_ ?_)
      | (with_reducible refine LeO.bind ?_ (fun _ => ?_))
      | exact ih0 _ _ _ _ _ _ _
      | exact ih1 _ _ _ _ _ _ _ _ _ _ _ _ _
      | exact ih2 _ _ _ _ _ _ _ _ _ _
      | exact ih3 _ _ _ _ _ _ _ _
      | exact jitneyref01_SameLongs.mono _ _ _
      | exact LeO.none _
      | refine LeO.ite ?_ ?_
      | refine LeO.bind ?_ (fun _ => ?_)
def jitneylaw07_DiffEdges.T17 : Bool × List (List Nat × List Nat) := (true, [([], []), ([], []), ([0, 1], [0, 1]), ([2], [2]), ([], []), ([], []), ([4, 5], [4, 5]), ([6], [6]), ([3, 7], [3, 7])])
def jitneylaw07_DiffEdges.B17 : List Nat := [0, 0, 3, 7, 0, 0, 48, 112, 255]
theorem jitneylaw07_DiffEdges.tab17 : rtab .any (opsOf Try.f6 17) = jitneylaw07_DiffEdges.T17 := by kernel_rfl
theorem jitneylaw07_DiffEdges.bits17 : waitsOk jitneylaw07_DiffEdges.T17.2 jitneylaw07_DiffEdges.B17 = true := by kernel_rfl
def jitneylaw07_DiffEdges.T22 : Bool × List (List Nat × List Nat) := (true, [([], []), ([], []), ([1], [1]), ([0, 2], [0, 2]), ([3], [3]), ([], []), ([], []), ([6], [6]), ([5, 7], [5, 7]), ([8], [8]), ([4, 9], [4, 9]), ([10], [10]), ([11, 0, 1, 2, 3, 4, 5, 6, 7, 8, 9, 10, 11], [11])])
def jitneylaw07_DiffEdges.B22 : List Nat := [0, 0, 2, 7, 15, 0, 0, 64, 224, 480, 1023, 2047, 4095]
theorem jitneylaw07_DiffEdges.tab22 : rtab .any (opsOf Try.f6 22) = jitneylaw07_DiffEdges.T22 := by kernel_rfl
theorem jitneylaw07_DiffEdges.bits22 : waitsOk jitneylaw07_DiffEdges.T22.2 jitneylaw07_DiffEdges.B22 = true := by kernel_rfl
def jitneylaw07_DiffEdges.T25 : Bool × List (List Nat × List Nat) := (true, [([], []), ([], []), ([], []), ([1, 2], [1, 2]), ([], []), ([4], [4]), ([], []), ([6], [6]), ([], []), ([5, 7, 8], [5, 7, 8]), ([9], [9]), ([3, 10, 3], [3, 10]), ([], []), ([0, 11, 12, 11], [0, 11, 12]), ([13], [13]), ([14], [14]), ([14], [14]), ([14], [14]), ([15, 13, 0, 1, 2, 3, 4, 5, 6, 7, 8, 9, 10, 11, 12, 13, 14, 15], [15]), ([16, 18, 0, 1, 2, 3, 4, 5, 6, 7, 8, 9, 10, 11, 12, 13, 14, 15, 16, 18], [16]), ([17, 19, 0, 1, 2, 3, 4, 5, 6, 7, 8, 9, 10, 11, 12, 13, 14, 15, 16, 17, 18, 19], [17])])
def jitneylaw07_DiffEdges.B25 : List Nat := [0, 0, 0, 6, 0, 16, 0, 64, 0, 496, 1008, 2046, 0, 8191, 16383, 32767, 32767, 32767, 65535, 393215, 1048575]
theorem jitneylaw07_DiffEdges.tab25 : rtab .any (opsOf Try.f6 25) = jitneylaw07_DiffEdges.T25 := by kernel_rfl
theorem jitneylaw07_DiffEdges.bits25 : waitsOk jitneylaw07_DiffEdges.T25.2 jitneylaw07_DiffEdges.B25 = true := by kernel_rfl
set_option maxHeartbeats 8000000 in
set_option maxRecDepth 100000 in
theorem jitneylaw07_DiffEdges.calls (k : Nat) (a0 : Int) (A1 : Option Addr) (c1 : Nat) (l1 : List (S42)) (a2 : Int) (a3_0 : Int) (a3_1 : Int) (a3_2 : Int) (r : Bool) (w : World) (hr1 : Kd.C k42 w A1 l1.length l1) (hc1 : l1.length ≤ c1) (h : jitneylaw07_DiffEdges.f k a0 l1 a2 a3_0 a3_1 a3_2 = some r) :
    Calls Try.prog 6 #[.int .i64 a0, .slice A1 l1.length c1, .int .i64 a2, .agg #[.int .i64 a3_0, .int .i64 a3_1, .int .i64 a3_2]] w fun e w' => e = .returned (.bool r) ∧ Below w.heap.size w w' := by
  have hu42 := Try.underlying42
  have HR1 := Aside0.mk hr1
  have HC1 := Aside0.mk hc1
  clear hr1 hc1
  have HB := Aside0.mk (Below.refl w.heap.size w)
  have H : ((jitneylaw07_alive.f).bind fun t225 => (if t225 = true then (if a0 > 60 then (jitneylaw07_DiffEdges.j0 k a0 l1 a2 true a3_0 a3_1 a3_2) else (jitneylaw07_DiffEdges.j0 k a0 l1 a2 (decide ((l1.length : Int) > 200)) a3_0 a3_1 a3_2)) else (some false))) = some r := h
  clear h
  replace H := Option.bind_eq_some_iff.mp H
  obtain ⟨t225, A50, H⟩ := H
  replace H : (if t225 = true then (if a0 > 60 then (jitneylaw07_DiffEdges.j0 k a0 l1 a2 true a3_0 a3_1 a3_2) else (jitneylaw07_DiffEdges.j0 k a0 l1 a2 (decide ((l1.length : Int) > 200)) a3_0 a3_1 a3_2)) else (some false)) = some r := H
  have A5 := Aside0.mk A50
  clear A50
  by_cases c6 : t225 = true
  · subst c6
    have H1 : (if a0 > 60 then (jitneylaw07_DiffEdges.j0 k a0 l1 a2 true a3_0 a3_1 a3_2) else (jitneylaw07_DiffEdges.j0 k a0 l1 a2 (decide ((l1.length : Int) > 200)) a3_0 a3_1 a3_2)) = some r := by rw [if_pos rfl] at H; exact H
    clear H
    have H := H1
    clear H1
    have HC7 := Aside0.mk H
    clear H
    go_enter Try.func6, Try.ntmps6
    go_upto_region 3 with (first | ((with_reducible refine gate_dst (N := 7) rfl ?_); (try (refine gate_guard (by rfl) ?_; dsimp only)); refine box_event ?hg (N := 7) ?hd (cs := #[.int .i64 a3_0, .int .i64 a3_1, .int .i64 a3_2]) (t := 42) ?hr ?_; (case hd => rfl); (case hg => rfl); (case hr => first | (go_simp; done) | (go_simp; rfl)); intro gb224 hg w8 hbox hb; have n0_ := Aside0.mk (below_step (by repeat (first | (with_reducible first | exact HB.out | apply below_alloc | apply pw_below_drewN | apply below_drew1) | exact HB.out)) hb); have n1_ := Aside0.mk (hbox); have n2_ := Aside0.mk ((by rw [hg]; exact (below_size (by repeat (first | (with_reducible first | exact HB.out | apply below_alloc | apply pw_below_drewN | apply below_drew1) | exact HB.out))) : w.heap.size ≤ gb224)); have n3_ := Aside0.mk ((by rw [hg]; exact (below_size (by repeat (first | (with_reducible first | exact HB.out | apply below_alloc | apply pw_below_drewN | apply below_drew1) | exact HB.out))) : w.heap.size ≤ gb224)); clear HB; have HB := n0_; have BK224 := n1_; have GW224 := n2_; have GE224 := n3_; clear n0_ n1_ n2_ n3_; clear hb hbox hg) | ((with_reducible refine gate_callee (f := 8) rfl ?_); refine goesL_ (some 21) rfl rfl Try.func8 (by kernel_rfl) rfl #[] rfl (by (try simp only [List.map_toArray, List.map_cons, List.map_nil]); first | done | rfl | (simp only [List.length_drop, List.length_take]; rfl)) ?_; (with_reducible refine (jitneylaw07_alive.calls  true _ A5.out).mono ?_); rintro e w9 ⟨rfl, hb⟩; refine ⟨_, rfl, ?_⟩; have n0_ := Aside0.mk (blk_below (g := gb224) (o := .cells #[.int .i64 a3_0, .int .i64 a3_1, .int .i64 a3_2] 42 (0, 0)) (by (with_reducible repeat (first | refine blk_drewN ?_ _ | refine blk_drew ?_ | refine blk_alloc ?_ _)); exact BK224.out) hb); have n1_ := Aside0.mk (below_step (by repeat (first | (with_reducible first | exact HB.out | apply below_alloc | apply pw_below_drewN | apply below_drew1 | refine below_set ?_ GE224.out) | exact HB.out)) hb); clear BK224; clear HB; have BK224 := n0_; have HB := n1_; clear n0_ n1_; (try clear hb); (try clear hb2); (try clear hk); (try clear hi)))
    (try simp only [Act.put, List.setIfInBounds_toArray, List.set_cons_zero, List.set_cons_succ])
    go_cut [29] (fun v29 wc => ∃ (kq : Nat) (x29_6 : Bool), v29 = .bool x29_6 ∧ Aside0 (jitneylaw07_DiffEdges.j0 kq a0 l1 a2 x29_6 a3_0 a3_1 a3_2 = some r) ∧ Aside0 (kq ≤ k) ∧ Aside0 (wc.heap[gb224]? = some (.cells #[.int .i64 a3_0, .int .i64 a3_1, .int .i64 a3_2] 42 (0, 0))) ∧ Aside0 (Below w.heap.size w wc))
    case first =>
      have H := HC7.out
      clear HC7
      by_cases c10 : a0 > 60
      · rw [if_pos c10] at H
        have c10b0 : decide (60 < a0) = true := decide_eq_true c10
        clear c10
        (first | rw [c10b0] | (simp only [i64_w, i32_w]; rw [c10b0]) | skip)
        have H' := Aside0.mk H
        clear H
        go_wp2
        go_meet
        case rel => exact ⟨_, (true), (by first | rfl | (simp; done) | (simp [*]; done)), H', ⟨by first | omega | exact Nat.le_refl _⟩, ⟨by (with_reducible repeat (first | refine blk_drewN ?_ _ | refine blk_drew ?_ | refine blk_alloc ?_ _)); exact BK224.out⟩, ⟨by repeat (first | (with_reducible first | exact HB.out | apply below_alloc | apply pw_below_drewN | apply below_drew1 | refine below_set ?_ GE224.out) | exact HB.out)⟩⟩
      · rw [if_neg c10] at H
        have c10b0 : decide (60 < a0) = false := decide_eq_false c10
        clear c10
        (first | rw [c10b0] | (simp only [i64_w, i32_w]; rw [c10b0]) | skip)
        have H' := Aside0.mk H
        clear H
        go_wp2
        go_meet
        case rel => exact ⟨_, (decide ((l1.length : Int) > 200)), (by first | rfl | (simp; done) | (simp [*]; done)), H', ⟨by first | omega | exact Nat.le_refl _⟩, ⟨by (with_reducible repeat (first | refine blk_drewN ?_ _ | refine blk_drew ?_ | refine blk_alloc ?_ _)); exact BK224.out⟩, ⟨by repeat (first | (with_reducible first | exact HB.out | apply below_alloc | apply pw_below_drewN | apply below_drew1 | refine below_set ?_ GE224.out) | exact HB.out)⟩⟩
    case rest =>
      clear HC7
      try clear c1
      try clear p2
      try clear c6
      try clear c8
      try clear c10
      try clear c10b0
      obtain ⟨kq, x29_6, rfl, HA, HJ6, BK224, HB⟩ := hcut
      cases kq with
      | zero => exact absurd HA.out (by simp [jitneylaw07_DiffEdges.j0])
      | succ kj6 =>
        have H := HA.out
        clear HA
        simp only [jitneylaw07_DiffEdges.j0] at H
        by_cases c11 : x29_6 = true
        · subst c11
          have H1 : (some true) = some r := by rw [if_pos rfl] at H; exact H
          clear H
          have H := H1
          clear H1
          obtain rfl := Option.some.inj H
          go_wp2
          go_ret
          exact ⟨by first | rfl | (simp [errW_none, errW_some] <;> rfl) | (simp [*, errW_none, errW_some] <;> rfl), by repeat (first | (with_reducible first | exact HB.out | apply below_alloc | apply pw_below_drewN | apply below_drew1 | refine below_set ?_ GE224.out) | exact HB.out)⟩
        · replace c11 := Bool.eq_false_iff.mpr c11
          subst c11
          have H1 : ((diff_Solve.f a0 l1 a2).bind fun bt226 => ((some (([] : List (S42)) : List (S42))).bind fun y233 => (if y233.length + l1.length < 5864062014805 then ((some (y233 ++ l1 : List (S42))).bind fun y236 => ((some (([(⟨a3_0, a3_1, a3_2⟩ : S42)] : List (S42)) : List (S42))).bind fun y239 => (if y236.length + y239.length < 5864062014805 then ((diff_Solve.f a0 (y236 ++ y239) a2).bind fun bt245 => (if bt226.2.2 = 0 then (jitneylaw07_DiffEdges.j1 kj6 a0 l1 a2 bt226.1 bt226.2.1 bt226.2.2 bt245.1 bt245.2.1 bt245.2.2 (bt245.2.2 != 0) a3_0 a3_1 a3_2) else (jitneylaw07_DiffEdges.j1 kj6 a0 l1 a2 bt226.1 bt226.2.1 bt226.2.2 bt245.1 bt245.2.1 bt245.2.2 true a3_0 a3_1 a3_2))) else (none)))) else (none)))) = some r := by rw [if_neg (show ¬ (false = true) by decide)] at H; exact H
          clear H
          have H := H1
          clear H1
          replace H := Option.bind_eq_some_iff.mp H
          obtain ⟨⟨t226, t227, t228⟩, A120, H⟩ := H
          replace H : ((some (([] : List (S42)) : List (S42))).bind fun y233 => (if y233.length + l1.length < 5864062014805 then ((some (y233 ++ l1 : List (S42))).bind fun y236 => ((some (([(⟨a3_0, a3_1, a3_2⟩ : S42)] : List (S42)) : List (S42))).bind fun y239 => (if y236.length + y239.length < 5864062014805 then ((diff_Solve.f a0 (y236 ++ y239) a2).bind fun bt245 => (if t228 = 0 then (jitneylaw07_DiffEdges.j1 kj6 a0 l1 a2 t226 t227 t228 bt245.1 bt245.2.1 bt245.2.2 (bt245.2.2 != 0) a3_0 a3_1 a3_2) else (jitneylaw07_DiffEdges.j1 kj6 a0 l1 a2 t226 t227 t228 bt245.1 bt245.2.1 bt245.2.2 true a3_0 a3_1 a3_2))) else (none)))) else (none))) = some r := H
          have A12 := Aside0.mk A120
          clear A120
          obtain ⟨y233, hy233⟩ : ∃ y_ : List (S42), y_ = (([] : List (S42))) := ⟨_, rfl⟩
          replace H : (if y233.length + l1.length < 5864062014805 then ((some (y233 ++ l1 : List (S42))).bind fun y236 => ((some (([(⟨a3_0, a3_1, a3_2⟩ : S42)] : List (S42)) : List (S42))).bind fun y239 => (if y236.length + y239.length < 5864062014805 then ((diff_Solve.f a0 (y236 ++ y239) a2).bind fun bt245 => (if t228 = 0 then (jitneylaw07_DiffEdges.j1 kj6 a0 l1 a2 t226 t227 t228 bt245.1 bt245.2.1 bt245.2.2 (bt245.2.2 != 0) a3_0 a3_1 a3_2) else (jitneylaw07_DiffEdges.j1 kj6 a0 l1 a2 t226 t227 t228 bt245.1 bt245.2.1 bt245.2.2 true a3_0 a3_1 a3_2))) else (none)))) else (none)) = some r := by first | (rw [hy233]; with_reducible exact H) | (have H2_ := (Option.bind_some _ _).symm.trans H; rw [hy233]; with_reducible exact H2_) | (have H2_ := (Option.bind_some _ _).symm.trans H; with_reducible exact H2_) | with_reducible exact H | (rw [hy233]; exact H) | exact H
          have Ny233 := Aside0.mk hy233
          clear hy233
          by_cases c13 : y233.length + l1.length < 5864062014805
          · rw [if_pos c13] at H
            have LMc13 := Aside0.mk c13
            clear c13
            obtain ⟨y236, hy236⟩ : ∃ y_ : List (S42), y_ = (y233 ++ l1) := ⟨_, rfl⟩
            replace H : ((some (([(⟨a3_0, a3_1, a3_2⟩ : S42)] : List (S42)) : List (S42))).bind fun y239 => (if y236.length + y239.length < 5864062014805 then ((diff_Solve.f a0 (y236 ++ y239) a2).bind fun bt245 => (if t228 = 0 then (jitneylaw07_DiffEdges.j1 kj6 a0 l1 a2 t226 t227 t228 bt245.1 bt245.2.1 bt245.2.2 (bt245.2.2 != 0) a3_0 a3_1 a3_2) else (jitneylaw07_DiffEdges.j1 kj6 a0 l1 a2 t226 t227 t228 bt245.1 bt245.2.1 bt245.2.2 true a3_0 a3_1 a3_2))) else (none))) = some r := by first | (rw [hy236]; with_reducible exact H) | (have H2_ := (Option.bind_some _ _).symm.trans H; rw [hy236]; with_reducible exact H2_) | (have H2_ := (Option.bind_some _ _).symm.trans H; with_reducible exact H2_) | with_reducible exact H | (rw [hy236]; exact H) | exact H
            have Ny236 := Aside0.mk hy236
            clear hy236
            obtain ⟨y239, hy239⟩ : ∃ y_ : List (S42), y_ = (([(⟨a3_0, a3_1, a3_2⟩ : S42)] : List (S42))) := ⟨_, rfl⟩
            replace H : (if y236.length + y239.length < 5864062014805 then ((diff_Solve.f a0 (y236 ++ y239) a2).bind fun bt245 => (if t228 = 0 then (jitneylaw07_DiffEdges.j1 kj6 a0 l1 a2 t226 t227 t228 bt245.1 bt245.2.1 bt245.2.2 (bt245.2.2 != 0) a3_0 a3_1 a3_2) else (jitneylaw07_DiffEdges.j1 kj6 a0 l1 a2 t226 t227 t228 bt245.1 bt245.2.1 bt245.2.2 true a3_0 a3_1 a3_2))) else (none)) = some r := by first | (rw [hy239]; with_reducible exact H) | (have H2_ := (Option.bind_some _ _).symm.trans H; rw [hy239]; with_reducible exact H2_) | (have H2_ := (Option.bind_some _ _).symm.trans H; with_reducible exact H2_) | with_reducible exact H | (rw [hy239]; exact H) | exact H
            have Ny239 := Aside0.mk hy239
            clear hy239
            by_cases c14 : y236.length + y239.length < 5864062014805
            · rw [if_pos c14] at H
              have LMc14 := Aside0.mk c14
              clear c14
              obtain ⟨y242, hy242⟩ : ∃ y_ : List (S42), y_ = (y236 ++ y239) := ⟨_, rfl⟩
              replace H : ((diff_Solve.f a0 y242 a2).bind fun bt245 => (if t228 = 0 then (jitneylaw07_DiffEdges.j1 kj6 a0 l1 a2 t226 t227 t228 bt245.1 bt245.2.1 bt245.2.2 (bt245.2.2 != 0) a3_0 a3_1 a3_2) else (jitneylaw07_DiffEdges.j1 kj6 a0 l1 a2 t226 t227 t228 bt245.1 bt245.2.1 bt245.2.2 true a3_0 a3_1 a3_2))) = some r := by first | (rw [hy242]; with_reducible exact H) | (have H2_ := (Option.bind_some _ _).symm.trans H; rw [hy242]; with_reducible exact H2_) | (have H2_ := (Option.bind_some _ _).symm.trans H; with_reducible exact H2_) | with_reducible exact H | (rw [hy242]; exact H) | exact H
              have Ny242 := Aside0.mk hy242
              clear hy242
              replace H := Option.bind_eq_some_iff.mp H
              obtain ⟨⟨t245, t246, t247⟩, A150, H⟩ := H
              replace H : (if t228 = 0 then (jitneylaw07_DiffEdges.j1 kj6 a0 l1 a2 t226 t227 t228 t245 t246 t247 (t247 != 0) a3_0 a3_1 a3_2) else (jitneylaw07_DiffEdges.j1 kj6 a0 l1 a2 t226 t227 t228 t245 t246 t247 true a3_0 a3_1 a3_2)) = some r := H
              have A15 := Aside0.mk A150
              clear A150
              have HC16 := Aside0.mk H
              clear H
              try go_wp2_with (first | ((with_reducible refine gate_callee (f := 9) rfl ?_); refine goesL_ (some 34) rfl rfl Try.func9 (by kernel_rfl) rfl #[.int .i64 a0, .slice A1 l1.length c1, .int .i64 a2] rfl (by (try simp only [List.map_toArray, List.map_cons, List.map_nil]); first | done | rfl | (simp only [List.length_drop, List.length_take]; rfl)) ?_; (with_reducible refine (diff_Solve.calls a0 _ _ l1 a2 t226 t227 t228 _ ?side1 ?side2 A12.out).mono ?_); (case side1 => repeat (first | exact (Kd.C_below HR1.out HB.out) | (with_reducible refine Kd.C_alloc ?_ _) | (with_reducible refine Kd.C_drewN ?_ _) | (with_reducible refine Kd.C_drew ?_))); (case side2 => exact HC1.out); rintro e w17 ⟨v229, v231, rfl, ho0, ho1, hb⟩; refine ⟨_, rfl, ?_⟩; have n0_ := Aside0.mk (Kd.R_lower ho0 (below_size (by repeat (first | (with_reducible first | exact HB.out | apply below_alloc | apply pw_below_drewN | apply below_drew1 | refine below_set ?_ GE224.out) | exact HB.out)))); have n1_ := Aside0.mk (Kd.R_lower ho1 (below_size (by repeat (first | (with_reducible first | exact HB.out | apply below_alloc | apply pw_below_drewN | apply below_drew1 | refine below_set ?_ GE224.out) | exact HB.out)))); have n2_ := Aside0.mk (blk_below (g := gb224) (o := .cells #[.int .i64 a3_0, .int .i64 a3_1, .int .i64 a3_2] 42 (0, 0)) (by (with_reducible repeat (first | refine blk_drewN ?_ _ | refine blk_drew ?_ | refine blk_alloc ?_ _)); exact BK224.out) hb); have n3_ := Aside0.mk (below_step (by repeat (first | (with_reducible first | exact HB.out | apply below_alloc | apply pw_below_drewN | apply below_drew1 | refine below_set ?_ GE224.out) | exact HB.out)) hb); clear BK224; clear HB; have HO230 := n0_; have HO232 := n1_; have BK224 := n2_; have HB := n3_; clear n0_ n1_ n2_ n3_; (try clear hb); (try clear hb2); (try clear hk); (try clear hi); (try clear ho0); (try clear ho1)))
              have n0_ := Aside0.mk (Kd.R_drew HO230.out)
              have n1_ := Aside0.mk (Kd.R_drew HO232.out)
              have n2_ := Aside0.mk (blk_drew BK224.out)
              have n3_ := Aside0.mk (below_drew1 HB.out)
              clear HO230
              clear HO232
              clear BK224
              clear HB
              have HO230 := n0_
              have HO232 := n1_
              have BK224 := n2_
              have HB := n3_
              clear n0_ n1_ n2_ n3_
              refine start_ (n := 7) (S := fun w' => w'.cell? ⟨gb224, 0, none⟩ = some (.int .i64 a3_0) ∧ w'.cell? ⟨gb224, 1, none⟩ = some (.int .i64 a3_1) ∧ w'.cell? ⟨gb224, 2, none⟩ = some (.int .i64 a3_2)) (ds := []) #[false, false, false, false, false, false, false] (by kernel_rfl) rfl rfl ⟨(blk_cell BK224.out 0).trans rfl, (blk_cell BK224.out 1).trans rfl, (blk_cell BK224.out 2).trans rfl⟩ (fun hHeld => ?_)
              generalize w17.drew = w18 at HO230 HO232 BK224 HB hHeld ⊢
              refine pure_ (i := 1) (N := some 39) (v := ?_) (a' := ?_) #[false, true, false, false, false, false, false] rfl rfl (by kernel_rfl) (fun _ _ _ h => h) (Or.inl ⟨by rfl, ?_⟩) ?_ ?_
              rotate_left
              · intro w'
                go_simp
                with_reducible rfl
              rotate_left
              · simp only [Act.put, List.setIfInBounds_toArray, List.set_cons_zero, List.set_cons_succ, i64_w, i32_w]
                rfl
              refine take_ (i := 3) (N := some 41) (v := ?_) (a' := ?_) #[false, true, false, true, false, false, false] rfl rfl (by kernel_rfl) (fun _ _ _ h => h) (Or.inl ⟨by rfl, ?_⟩) hHeld ?_ ?_
              rotate_left
              · rintro w' ⟨s0, s1, s2⟩
                go_simp
                with_reducible rfl
              rotate_left
              · simp only [Act.put, List.setIfInBounds_toArray, List.set_cons_zero, List.set_cons_succ, i64_w, i32_w]
                rfl
              refine join_ (σ := Value × Value × Value) 2 #[true, true, true, true, true, false, false] (fun s_ => [(38, s_.1), (40, s_.2.1), (42, s_.2.2)]) (fun s_ w' => (w'.cell? ⟨gb224, 0, none⟩ = some (.int .i64 a3_0) ∧ w'.cell? ⟨gb224, 1, none⟩ = some (.int .i64 a3_1) ∧ w'.cell? ⟨gb224, 2, none⟩ = some (.int .i64 a3_2)) ∧ (Kd.R (Kd.int .i64) 2 w' w.heap.size (fun _ => True) v229 t226) ∧ (Kd.R (Kd.int .i64) 3 w' w.heap.size (fun _ => True) v231 t227) ∧ (Kd.R k42 42 w' w.heap.size (fun k_ => some k_ ≠ (s_.2.2 : Value).ownBlock ∧ k_ ≠ gb224) s_.2.1 y236) ∧ (Kd.R k42 42 w' w.heap.size (fun k_ => some k_ ≠ (s_.2.1 : Value).ownBlock ∧ k_ ≠ gb224) s_.2.2 y239) ∧ (w'.heap[gb224]? = some (.cells #[.int .i64 a3_0, .int .i64 a3_1, .int .i64 a3_2] 42 (0, 0))) ∧ (Below w.heap.size w w')) ?_ ?_
              rotate_left
              · intro hCont
                refine two_ (i := 0) (j := 4) (Ni := some 38) (Nj := some 42) #[true, true, false, true, false, false, false] #[false, true, false, true, true, false, false] rfl rfl rfl rfl (by kernel_rfl) (by decide) (by decide) (fun K hK => ?_) (fun K hK => ?_)
                · skip
                  refine Kd.R_lit_step k42 _ 42 ?hg (N := 38) ?hd (xs := ([] : List (S42))) (inner := []) (ok := fun _ => True) (okp := fun _ => True) ?hr ?hp (fun _ hk => hk) trivial (Below.refl _ _) (Nat.le_refl _) (by simp) ?_; (case hd => rfl); (case hg => rfl); (case hr => first | (go_simp; done) | (go_simp; rfl)); (case hp => exact (Reps.none _ _))
                  intro v234 w19 ho20 hb hg_ hnew_
                  clear hg_ hnew_
                  (first | rw [← Ny233.out] at ho20 | (simp only [Int.reduceToNat] at ho20; rw [← Ny233.out] at ho20))
                  have n0_ := Aside0.mk (Kd.R_below (by (with_reducible repeat (first | apply Kd.R_alloc | apply Kd.R_drewN | apply Kd.R_drew)); exact HO230.out) hb)
                  have n1_ := Aside0.mk (Kd.R_below (by (with_reducible repeat (first | apply Kd.R_alloc | apply Kd.R_drewN | apply Kd.R_drew)); exact HO232.out) hb)
                  have n2_ := Aside0.mk (Kd.R_lower (Kd.R_newB ho20 (g := gb224) (o := .cells #[.int .i64 a3_0, .int .i64 a3_1, .int .i64 a3_2] 42 (0, 0)) (by (with_reducible repeat (first | refine blk_drewN ?_ _ | refine blk_drew ?_ | refine blk_alloc ?_ _)); exact BK224.out)) (below_size (by repeat (first | (with_reducible first | exact HB.out | apply below_alloc | apply pw_below_drewN | apply below_drew1 | refine below_set ?_ GE224.out) | exact HB.out))))
                  have n3_ := Aside0.mk (blk_below (g := gb224) (o := .cells #[.int .i64 a3_0, .int .i64 a3_1, .int .i64 a3_2] 42 (0, 0)) (by (with_reducible repeat (first | refine blk_drewN ?_ _ | refine blk_drew ?_ | refine blk_alloc ?_ _)); exact BK224.out) hb)
                  have n4_ := Aside0.mk (below_step (by repeat (first | (with_reducible first | exact HB.out | apply below_alloc | apply pw_below_drewN | apply below_drew1 | refine below_set ?_ GE224.out) | exact HB.out)) hb)
                  clear HO230
                  clear HO232
                  clear BK224
                  clear HB
                  have HO230 := n0_
                  have HO232 := n1_
                  have HO235 := n2_
                  have BK224 := n3_
                  have HB := n4_
                  clear n0_ n1_ n2_ n3_ n4_
                  clear hb ho20
                  refine hK.out _ _ ⟨(blk_cell BK224.out 0).trans rfl, (blk_cell BK224.out 1).trans rfl, (blk_cell BK224.out 2).trans rfl⟩ (fun hHeld => ?_)
                  clear hK K
                  refine norm_ (a' := ?_) ?_ ?_
                  rotate_left
                  · show Act.put _ (some 38) _ = _
                    simp only [Act.put, List.setIfInBounds_toArray, List.set_cons_zero, List.set_cons_succ, i64_w, i32_w]
                    rfl
                  refine two_ (i := 2) (j := 4) (Ni := some 40) (Nj := some 42) #[true, true, true, true, false, false, false] #[true, true, false, true, true, false, false] rfl rfl rfl rfl (by kernel_rfl) (by decide) (by decide) (fun K hK => ?_) (fun K hK => ?_)
                  · skip
                    refine Kd.R_append_rows_step k42 (w0 := w) w.heap.size (by rfl) (.tmp 38) (.tmp 39) 22 42 (.agg #[(.int .i64 0), (.int .i64 0), (.int .i64 0)]) 24 rfl Try.underlying22 info42 rfl (by decide) (by omega) v234 y233 l1 _ _ _ (fun k_ => k_ ≠ gb224) (fun _ => False) rfl rfl ?aO ?aR (fun _ _ h => h) (fun _ h => h.elim) ?aF ?aB ?aS ?aL ?_
                    (case aR => repeat (first | exact (Kd.C_below HR1.out HB.out) | (with_reducible refine Kd.C_alloc ?_ _) | (with_reducible refine Kd.C_drewN ?_ _) | (with_reducible refine Kd.C_drew ?_)))
                    (case aB => exact (by repeat (first | (with_reducible first | exact HB.out | apply below_alloc | apply pw_below_drewN | apply below_drew1 | refine below_set ?_ GE224.out) | exact HB.out)))
                    (case aF => exact (fun k_ hk => Kd.freshB (g := gb224) (o := .cells #[.int .i64 a3_0, .int .i64 a3_1, .int .i64 a3_2] 42 (0, 0)) (by (with_reducible repeat (first | refine blk_drewN ?_ _ | refine blk_drew ?_ | refine blk_alloc ?_ _)); exact BK224.out) k_ hk))
                    (case aO => exact (by (with_reducible repeat (first | apply Kd.R_alloc | apply Kd.R_drewN | apply Kd.R_drew)); exact Kd.R_mono HO235.out (fun _ hk => hk.2)))
                    (case aS => exact (below_size (by repeat (first | (with_reducible first | exact HB.out | apply below_alloc | apply pw_below_drewN | apply below_drew1 | refine below_set ?_ GE224.out) | exact HB.out))))
                    (case aL => have := LMc13.out; omega)
                    intro v237 w21 ho hb hg hat
                    rw [← Ny236.out] at ho
                    have n0_ := Aside0.mk (blk_grown (g := gb224) (o := .cells #[.int .i64 a3_0, .int .i64 a3_1, .int .i64 a3_2] 42 (0, 0)) (by (with_reducible repeat (first | refine blk_drewN ?_ _ | refine blk_drew ?_ | refine blk_alloc ?_ _)); exact BK224.out) hg (Kd.R_away HO235.out (fun _ hk => hk.2)))
                    have n1_ := Aside0.mk (Kd.R_over' (by (with_reducible repeat (first | apply Kd.R_alloc | apply Kd.R_drewN | apply Kd.R_drew)); exact HO230.out) (Kd.R_typed (by (with_reducible repeat (first | apply Kd.R_alloc | apply Kd.R_drewN | apply Kd.R_drew)); exact HO235.out)) (by decide) hg)
                    have n2_ := Aside0.mk (Kd.R_over' (by (with_reducible repeat (first | apply Kd.R_alloc | apply Kd.R_drewN | apply Kd.R_drew)); exact HO232.out) (Kd.R_typed (by (with_reducible repeat (first | apply Kd.R_alloc | apply Kd.R_drewN | apply Kd.R_drew)); exact HO235.out)) (by decide) hg)
                    have n3_ := Aside0.mk (hb)
                    have n4_ := Aside0.mk (ho)
                    clear BK224
                    clear HO230
                    clear HO232
                    clear HB
                    clear HO235
                    have BK224 := n0_
                    have HO230 := n1_
                    have HO232 := n2_
                    have HB := n3_
                    have HO238 := n4_
                    clear n0_ n1_ n2_ n3_ n4_
                    clear ho hb hg hat
                    refine hK.out _ _ ⟨(blk_cell BK224.out 0).trans rfl, (blk_cell BK224.out 1).trans rfl, (blk_cell BK224.out 2).trans rfl⟩ (fun hHeld => ?_)
                    clear hK K
                    refine norm_ (a' := ?_) ?_ ?_
                    rotate_left
                    · show Act.put _ (some 40) _ = _
                      simp only [Act.put, List.setIfInBounds_toArray, List.set_cons_zero, List.set_cons_succ, i64_w, i32_w]
                      rfl
                    refine one_ (i := 4) (N := some 42) #[true, true, true, true, true, false, false] rfl rfl (by kernel_rfl) (by decide) (fun K hK => ?_)
                    refine Kd.R_lit_step k42 _ 42 ?hg (N := 42) ?hd (xs := ([(⟨a3_0, a3_1, a3_2⟩ : S42)] : List (S42))) (inner := [.int .i64 a3_0, .int .i64 a3_1, .int .i64 a3_2]) (ok := fun _ => True) (okp := fun _ => True) ?hr ?hp (fun _ hk => hk) trivial (Below.refl _ _) (Nat.le_refl _) (by simp) ?_; (case hd => rfl); (case hg => rfl); (case hr => first | (go_simp; done) | (go_simp; rfl)); (case hp => exact (Reps.c3 (show Kd.M k42 _ _ _ (⟨a3_0, a3_1, a3_2⟩ : S42) [.int .i64 a3_0, .int .i64 a3_1, .int .i64 a3_2] from (k42_mkM _ _ _ (⟨a3_0, a3_1, a3_2⟩ : S42) )) (Reps.none _ _)))
                    intro v240 w22 ho23 hb hg_ hnew_
                    clear hg_ hnew_
                    (first | rw [← Ny239.out] at ho23 | (simp only [Int.reduceToNat] at ho23; rw [← Ny239.out] at ho23))
                    have n0_ := Aside0.mk (Kd.R_below (by (with_reducible repeat (first | apply Kd.R_alloc | apply Kd.R_drewN | apply Kd.R_drew)); exact HO230.out) hb)
                    have n1_ := Aside0.mk (Kd.R_below (by (with_reducible repeat (first | apply Kd.R_alloc | apply Kd.R_drewN | apply Kd.R_drew)); exact HO232.out) hb)
                    have n2_ := Aside0.mk (Kd.R_elder' (by (with_reducible repeat (first | apply Kd.R_alloc | apply Kd.R_drewN | apply Kd.R_drew)); exact HO238.out) (Kd.R_base ho23) hb)
                    have n3_ := Aside0.mk (Kd.R_lower (Kd.R_newB (Kd.R_new' ho23 (Kd.R_lt (by (with_reducible repeat (first | apply Kd.R_alloc | apply Kd.R_drewN | apply Kd.R_drew)); exact HO238.out))) (g := gb224) (o := .cells #[.int .i64 a3_0, .int .i64 a3_1, .int .i64 a3_2] 42 (0, 0)) (by (with_reducible repeat (first | refine blk_drewN ?_ _ | refine blk_drew ?_ | refine blk_alloc ?_ _)); exact BK224.out)) (below_size (by repeat (first | (with_reducible first | exact HB.out | apply below_alloc | apply pw_below_drewN | apply below_drew1 | refine below_set ?_ GE224.out) | exact HB.out))))
                    have n4_ := Aside0.mk (blk_below (g := gb224) (o := .cells #[.int .i64 a3_0, .int .i64 a3_1, .int .i64 a3_2] 42 (0, 0)) (by (with_reducible repeat (first | refine blk_drewN ?_ _ | refine blk_drew ?_ | refine blk_alloc ?_ _)); exact BK224.out) hb)
                    have n5_ := Aside0.mk (below_step (by repeat (first | (with_reducible first | exact HB.out | apply below_alloc | apply pw_below_drewN | apply below_drew1 | refine below_set ?_ GE224.out) | exact HB.out)) hb)
                    clear HO230
                    clear HO232
                    clear HO238
                    clear BK224
                    clear HB
                    have HO230 := n0_
                    have HO232 := n1_
                    have HO238 := n2_
                    have HO241 := n3_
                    have BK224 := n4_
                    have HB := n5_
                    clear n0_ n1_ n2_ n3_ n4_ n5_
                    clear hb ho23
                    refine hK.out _ _ ⟨(blk_cell BK224.out 0).trans rfl, (blk_cell BK224.out 1).trans rfl, (blk_cell BK224.out 2).trans rfl⟩ (fun hHeld => ?_)
                    clear hK K
                    refine norm_ (a' := ?_) ?_ ?_
                    rotate_left
                    · show Act.put _ (some 42) _ = _
                      simp only [Act.put, List.setIfInBounds_toArray, List.set_cons_zero, List.set_cons_succ, i64_w, i32_w]
                      rfl
                    exact norm_ (by simp only [putAll, Act.put, List.setIfInBounds_toArray, List.set_cons_zero, List.set_cons_succ]) (hCont (v234, v237, v240) _ ⟨hHeld, (by (with_reducible repeat (first | apply Kd.R_alloc | apply Kd.R_drewN | apply Kd.R_drew)); exact HO230.out), (by (with_reducible repeat (first | apply Kd.R_alloc | apply Kd.R_drewN | apply Kd.R_drew)); exact HO232.out), (by (with_reducible repeat (first | apply Kd.R_alloc | apply Kd.R_drewN | apply Kd.R_drew)); exact Kd.R_mono HO238.out (fun _ hk => ⟨hk.2, hk.1⟩)), (by (with_reducible repeat (first | apply Kd.R_alloc | apply Kd.R_drewN | apply Kd.R_drew)); exact Kd.R_mono HO241.out (fun _ hk => ⟨hk.1.2, hk.2⟩)), (by (with_reducible repeat (first | refine blk_drewN ?_ _ | refine blk_drew ?_ | refine blk_alloc ?_ _)); exact BK224.out), (by repeat (first | (with_reducible first | exact HB.out | apply below_alloc | apply pw_below_drewN | apply below_drew1 | refine below_set ?_ GE224.out) | exact HB.out))⟩)
                  · skip
                    refine Kd.R_lit_step k42 _ 42 ?hg (N := 42) ?hd (xs := ([(⟨a3_0, a3_1, a3_2⟩ : S42)] : List (S42))) (inner := [.int .i64 a3_0, .int .i64 a3_1, .int .i64 a3_2]) (ok := fun _ => True) (okp := fun _ => True) ?hr ?hp (fun _ hk => hk) trivial (Below.refl _ _) (Nat.le_refl _) (by simp) ?_; (case hd => rfl); (case hg => rfl); (case hr => first | (go_simp; done) | (go_simp; rfl)); (case hp => exact (Reps.c3 (show Kd.M k42 _ _ _ (⟨a3_0, a3_1, a3_2⟩ : S42) [.int .i64 a3_0, .int .i64 a3_1, .int .i64 a3_2] from (k42_mkM _ _ _ (⟨a3_0, a3_1, a3_2⟩ : S42) )) (Reps.none _ _)))
                    intro v240 w21 ho22 hb hg_ hnew_
                    clear hg_ hnew_
                    (first | rw [← Ny239.out] at ho22 | (simp only [Int.reduceToNat] at ho22; rw [← Ny239.out] at ho22))
                    have n0_ := Aside0.mk (Kd.R_below (by (with_reducible repeat (first | apply Kd.R_alloc | apply Kd.R_drewN | apply Kd.R_drew)); exact HO230.out) hb)
                    have n1_ := Aside0.mk (Kd.R_below (by (with_reducible repeat (first | apply Kd.R_alloc | apply Kd.R_drewN | apply Kd.R_drew)); exact HO232.out) hb)
                    have n2_ := Aside0.mk (Kd.R_elder' (by (with_reducible repeat (first | apply Kd.R_alloc | apply Kd.R_drewN | apply Kd.R_drew)); exact HO235.out) (Kd.R_base ho22) hb)
                    have n3_ := Aside0.mk (Kd.R_lower (Kd.R_newB (Kd.R_new' ho22 (Kd.R_lt (by (with_reducible repeat (first | apply Kd.R_alloc | apply Kd.R_drewN | apply Kd.R_drew)); exact HO235.out))) (g := gb224) (o := .cells #[.int .i64 a3_0, .int .i64 a3_1, .int .i64 a3_2] 42 (0, 0)) (by (with_reducible repeat (first | refine blk_drewN ?_ _ | refine blk_drew ?_ | refine blk_alloc ?_ _)); exact BK224.out)) (below_size (by repeat (first | (with_reducible first | exact HB.out | apply below_alloc | apply pw_below_drewN | apply below_drew1 | refine below_set ?_ GE224.out) | exact HB.out))))
                    have n4_ := Aside0.mk (blk_below (g := gb224) (o := .cells #[.int .i64 a3_0, .int .i64 a3_1, .int .i64 a3_2] 42 (0, 0)) (by (with_reducible repeat (first | refine blk_drewN ?_ _ | refine blk_drew ?_ | refine blk_alloc ?_ _)); exact BK224.out) hb)
                    have n5_ := Aside0.mk (below_step (by repeat (first | (with_reducible first | exact HB.out | apply below_alloc | apply pw_below_drewN | apply below_drew1 | refine below_set ?_ GE224.out) | exact HB.out)) hb)
                    clear HO230
                    clear HO232
                    clear HO235
                    clear BK224
                    clear HB
                    have HO230 := n0_
                    have HO232 := n1_
                    have HO235 := n2_
                    have HO241 := n3_
                    have BK224 := n4_
                    have HB := n5_
                    clear n0_ n1_ n2_ n3_ n4_ n5_
                    clear hb ho22
                    refine hK.out _ _ ⟨(blk_cell BK224.out 0).trans rfl, (blk_cell BK224.out 1).trans rfl, (blk_cell BK224.out 2).trans rfl⟩ (fun hHeld => ?_)
                    clear hK K
                    refine norm_ (a' := ?_) ?_ ?_
                    rotate_left
                    · show Act.put _ (some 42) _ = _
                      simp only [Act.put, List.setIfInBounds_toArray, List.set_cons_zero, List.set_cons_succ, i64_w, i32_w]
                      rfl
                    refine one_ (i := 2) (N := some 40) #[true, true, true, true, true, false, false] rfl rfl (by kernel_rfl) (by decide) (fun K hK => ?_)
                    refine Kd.R_append_rows_step k42 (w0 := w) w.heap.size (by rfl) (.tmp 38) (.tmp 39) 22 42 (.agg #[(.int .i64 0), (.int .i64 0), (.int .i64 0)]) 24 rfl Try.underlying22 info42 rfl (by decide) (by omega) v234 y233 l1 _ _ _ (fun k_ => some k_ ≠ (v240 : Value).ownBlock ∧ k_ ≠ gb224) (fun _ => False) rfl rfl ?aO ?aR (fun _ _ h => h) (fun _ h => h.elim) ?aF ?aB ?aS ?aL ?_
                    (case aR => repeat (first | exact (Kd.C_below HR1.out HB.out) | (with_reducible refine Kd.C_alloc ?_ _) | (with_reducible refine Kd.C_drewN ?_ _) | (with_reducible refine Kd.C_drew ?_)))
                    (case aB => exact (by repeat (first | (with_reducible first | exact HB.out | apply below_alloc | apply pw_below_drewN | apply below_drew1 | refine below_set ?_ GE224.out) | exact HB.out)))
                    (case aF => exact (fun k_ hk => ⟨Kd.fresh' (Kd.R_lt (by (with_reducible repeat (first | apply Kd.R_alloc | apply Kd.R_drewN | apply Kd.R_drew)); exact HO241.out)) k_ hk, Kd.freshB (g := gb224) (o := .cells #[.int .i64 a3_0, .int .i64 a3_1, .int .i64 a3_2] 42 (0, 0)) (by (with_reducible repeat (first | refine blk_drewN ?_ _ | refine blk_drew ?_ | refine blk_alloc ?_ _)); exact BK224.out) k_ hk⟩))
                    (case aO => exact (by (with_reducible repeat (first | apply Kd.R_alloc | apply Kd.R_drewN | apply Kd.R_drew)); exact Kd.R_mono HO235.out (fun _ hk => ⟨hk.2, hk.1.2⟩)))
                    (case aS => exact (below_size (by repeat (first | (with_reducible first | exact HB.out | apply below_alloc | apply pw_below_drewN | apply below_drew1 | refine below_set ?_ GE224.out) | exact HB.out))))
                    (case aL => have := LMc13.out; omega)
                    intro v237 w23 ho hb hg hat
                    rw [← Ny236.out] at ho
                    have n0_ := Aside0.mk (blk_grown (g := gb224) (o := .cells #[.int .i64 a3_0, .int .i64 a3_1, .int .i64 a3_2] 42 (0, 0)) (by (with_reducible repeat (first | refine blk_drewN ?_ _ | refine blk_drew ?_ | refine blk_alloc ?_ _)); exact BK224.out) hg (Kd.R_away HO235.out (fun _ hk => hk.1.2)))
                    have n1_ := Aside0.mk (Kd.R_over' (by (with_reducible repeat (first | apply Kd.R_alloc | apply Kd.R_drewN | apply Kd.R_drew)); exact HO230.out) (Kd.R_typed (by (with_reducible repeat (first | apply Kd.R_alloc | apply Kd.R_drewN | apply Kd.R_drew)); exact HO235.out)) (by decide) hg)
                    have n2_ := Aside0.mk (Kd.R_over' (by (with_reducible repeat (first | apply Kd.R_alloc | apply Kd.R_drewN | apply Kd.R_drew)); exact HO232.out) (Kd.R_typed (by (with_reducible repeat (first | apply Kd.R_alloc | apply Kd.R_drewN | apply Kd.R_drew)); exact HO235.out)) (by decide) hg)
                    have n3_ := Aside0.mk (Kd.R_after (ok := (fun k_ => k_ ≠ gb224)) (by (with_reducible repeat (first | apply Kd.R_alloc | apply Kd.R_drewN | apply Kd.R_drew)); exact Kd.R_mono HO241.out (fun _ hk => ⟨hk.2, hk.1.2⟩)) hg hat)
                    have n4_ := Aside0.mk (hb)
                    have n5_ := Aside0.mk (ho)
                    clear BK224
                    clear HO230
                    clear HO232
                    clear HO241
                    clear HB
                    clear HO235
                    have BK224 := n0_
                    have HO230 := n1_
                    have HO232 := n2_
                    have HO241 := n3_
                    have HB := n4_
                    have HO238 := n5_
                    clear n0_ n1_ n2_ n3_ n4_ n5_
                    clear ho hb hg hat
                    refine hK.out _ _ ⟨(blk_cell BK224.out 0).trans rfl, (blk_cell BK224.out 1).trans rfl, (blk_cell BK224.out 2).trans rfl⟩ (fun hHeld => ?_)
                    clear hK K
                    refine norm_ (a' := ?_) ?_ ?_
                    rotate_left
                    · show Act.put _ (some 40) _ = _
                      simp only [Act.put, List.setIfInBounds_toArray, List.set_cons_zero, List.set_cons_succ, i64_w, i32_w]
                      rfl
                    exact norm_ (by simp only [putAll, Act.put, List.setIfInBounds_toArray, List.set_cons_zero, List.set_cons_succ]) (hCont (v234, v237, v240) _ ⟨hHeld, (by (with_reducible repeat (first | apply Kd.R_alloc | apply Kd.R_drewN | apply Kd.R_drew)); exact HO230.out), (by (with_reducible repeat (first | apply Kd.R_alloc | apply Kd.R_drewN | apply Kd.R_drew)); exact HO232.out), (by (with_reducible repeat (first | apply Kd.R_alloc | apply Kd.R_drewN | apply Kd.R_drew)); exact HO238.out), (by (with_reducible repeat (first | apply Kd.R_alloc | apply Kd.R_drewN | apply Kd.R_drew)); exact Kd.R_mono HO241.out (fun _ hk => ⟨hk.2, hk.1⟩)), (by (with_reducible repeat (first | refine blk_drewN ?_ _ | refine blk_drew ?_ | refine blk_alloc ?_ _)); exact BK224.out), (by repeat (first | (with_reducible first | exact HB.out | apply below_alloc | apply pw_below_drewN | apply below_drew1 | refine below_set ?_ GE224.out) | exact HB.out))⟩)
                · skip
                  refine Kd.R_lit_step k42 _ 42 ?hg (N := 42) ?hd (xs := ([(⟨a3_0, a3_1, a3_2⟩ : S42)] : List (S42))) (inner := [.int .i64 a3_0, .int .i64 a3_1, .int .i64 a3_2]) (ok := fun _ => True) (okp := fun _ => True) ?hr ?hp (fun _ hk => hk) trivial (Below.refl _ _) (Nat.le_refl _) (by simp) ?_; (case hd => rfl); (case hg => rfl); (case hr => first | (go_simp; done) | (go_simp; rfl)); (case hp => exact (Reps.c3 (show Kd.M k42 _ _ _ (⟨a3_0, a3_1, a3_2⟩ : S42) [.int .i64 a3_0, .int .i64 a3_1, .int .i64 a3_2] from (k42_mkM _ _ _ (⟨a3_0, a3_1, a3_2⟩ : S42) )) (Reps.none _ _)))
                  intro v240 w19 ho20 hb hg_ hnew_
                  clear hg_ hnew_
                  (first | rw [← Ny239.out] at ho20 | (simp only [Int.reduceToNat] at ho20; rw [← Ny239.out] at ho20))
                  have n0_ := Aside0.mk (Kd.R_below (by (with_reducible repeat (first | apply Kd.R_alloc | apply Kd.R_drewN | apply Kd.R_drew)); exact HO230.out) hb)
                  have n1_ := Aside0.mk (Kd.R_below (by (with_reducible repeat (first | apply Kd.R_alloc | apply Kd.R_drewN | apply Kd.R_drew)); exact HO232.out) hb)
                  have n2_ := Aside0.mk (Kd.R_lower (Kd.R_newB ho20 (g := gb224) (o := .cells #[.int .i64 a3_0, .int .i64 a3_1, .int .i64 a3_2] 42 (0, 0)) (by (with_reducible repeat (first | refine blk_drewN ?_ _ | refine blk_drew ?_ | refine blk_alloc ?_ _)); exact BK224.out)) (below_size (by repeat (first | (with_reducible first | exact HB.out | apply below_alloc | apply pw_below_drewN | apply below_drew1 | refine below_set ?_ GE224.out) | exact HB.out))))
                  have n3_ := Aside0.mk (blk_below (g := gb224) (o := .cells #[.int .i64 a3_0, .int .i64 a3_1, .int .i64 a3_2] 42 (0, 0)) (by (with_reducible repeat (first | refine blk_drewN ?_ _ | refine blk_drew ?_ | refine blk_alloc ?_ _)); exact BK224.out) hb)
                  have n4_ := Aside0.mk (below_step (by repeat (first | (with_reducible first | exact HB.out | apply below_alloc | apply pw_below_drewN | apply below_drew1 | refine below_set ?_ GE224.out) | exact HB.out)) hb)
                  clear HO230
                  clear HO232
                  clear BK224
                  clear HB
                  have HO230 := n0_
                  have HO232 := n1_
                  have HO241 := n2_
                  have BK224 := n3_
                  have HB := n4_
                  clear n0_ n1_ n2_ n3_ n4_
                  clear hb ho20
                  refine hK.out _ _ ⟨(blk_cell BK224.out 0).trans rfl, (blk_cell BK224.out 1).trans rfl, (blk_cell BK224.out 2).trans rfl⟩ (fun hHeld => ?_)
                  clear hK K
                  refine norm_ (a' := ?_) ?_ ?_
                  rotate_left
                  · show Act.put _ (some 42) _ = _
                    simp only [Act.put, List.setIfInBounds_toArray, List.set_cons_zero, List.set_cons_succ, i64_w, i32_w]
                    rfl
                  refine one_ (i := 0) (N := some 38) #[true, true, false, true, true, false, false] rfl rfl (by kernel_rfl) (by decide) (fun K hK => ?_)
                  refine Kd.R_lit_step k42 _ 42 ?hg (N := 38) ?hd (xs := ([] : List (S42))) (inner := []) (ok := fun _ => True) (okp := fun _ => True) ?hr ?hp (fun _ hk => hk) trivial (Below.refl _ _) (Nat.le_refl _) (by simp) ?_; (case hd => rfl); (case hg => rfl); (case hr => first | (go_simp; done) | (go_simp; rfl)); (case hp => exact (Reps.none _ _))
                  intro v234 w21 ho22 hb hg_ hnew_
                  clear hg_ hnew_
                  (first | rw [← Ny233.out] at ho22 | (simp only [Int.reduceToNat] at ho22; rw [← Ny233.out] at ho22))
                  have n0_ := Aside0.mk (Kd.R_below (by (with_reducible repeat (first | apply Kd.R_alloc | apply Kd.R_drewN | apply Kd.R_drew)); exact HO230.out) hb)
                  have n1_ := Aside0.mk (Kd.R_below (by (with_reducible repeat (first | apply Kd.R_alloc | apply Kd.R_drewN | apply Kd.R_drew)); exact HO232.out) hb)
                  have n2_ := Aside0.mk (Kd.R_elder' (by (with_reducible repeat (first | apply Kd.R_alloc | apply Kd.R_drewN | apply Kd.R_drew)); exact HO241.out) (Kd.R_base ho22) hb)
                  have n3_ := Aside0.mk (Kd.R_lower (Kd.R_newB (Kd.R_new' ho22 (Kd.R_lt (by (with_reducible repeat (first | apply Kd.R_alloc | apply Kd.R_drewN | apply Kd.R_drew)); exact HO241.out))) (g := gb224) (o := .cells #[.int .i64 a3_0, .int .i64 a3_1, .int .i64 a3_2] 42 (0, 0)) (by (with_reducible repeat (first | refine blk_drewN ?_ _ | refine blk_drew ?_ | refine blk_alloc ?_ _)); exact BK224.out)) (below_size (by repeat (first | (with_reducible first | exact HB.out | apply below_alloc | apply pw_below_drewN | apply below_drew1 | refine below_set ?_ GE224.out) | exact HB.out))))
                  have n4_ := Aside0.mk (blk_below (g := gb224) (o := .cells #[.int .i64 a3_0, .int .i64 a3_1, .int .i64 a3_2] 42 (0, 0)) (by (with_reducible repeat (first | refine blk_drewN ?_ _ | refine blk_drew ?_ | refine blk_alloc ?_ _)); exact BK224.out) hb)
                  have n5_ := Aside0.mk (below_step (by repeat (first | (with_reducible first | exact HB.out | apply below_alloc | apply pw_below_drewN | apply below_drew1 | refine below_set ?_ GE224.out) | exact HB.out)) hb)
                  clear HO230
                  clear HO232
                  clear HO241
                  clear BK224
                  clear HB
                  have HO230 := n0_
                  have HO232 := n1_
                  have HO241 := n2_
                  have HO235 := n3_
                  have BK224 := n4_
                  have HB := n5_
                  clear n0_ n1_ n2_ n3_ n4_ n5_
                  clear hb ho22
                  refine hK.out _ _ ⟨(blk_cell BK224.out 0).trans rfl, (blk_cell BK224.out 1).trans rfl, (blk_cell BK224.out 2).trans rfl⟩ (fun hHeld => ?_)
                  clear hK K
                  refine norm_ (a' := ?_) ?_ ?_
                  rotate_left
                  · show Act.put _ (some 38) _ = _
                    simp only [Act.put, List.setIfInBounds_toArray, List.set_cons_zero, List.set_cons_succ, i64_w, i32_w]
                    rfl
                  refine one_ (i := 2) (N := some 40) #[true, true, true, true, true, false, false] rfl rfl (by kernel_rfl) (by decide) (fun K hK => ?_)
                  refine Kd.R_append_rows_step k42 (w0 := w) w.heap.size (by rfl) (.tmp 38) (.tmp 39) 22 42 (.agg #[(.int .i64 0), (.int .i64 0), (.int .i64 0)]) 24 rfl Try.underlying22 info42 rfl (by decide) (by omega) v234 y233 l1 _ _ _ (fun k_ => some k_ ≠ (v240 : Value).ownBlock ∧ k_ ≠ gb224) (fun _ => False) rfl rfl ?aO ?aR (fun _ _ h => h) (fun _ h => h.elim) ?aF ?aB ?aS ?aL ?_
                  (case aR => repeat (first | exact (Kd.C_below HR1.out HB.out) | (with_reducible refine Kd.C_alloc ?_ _) | (with_reducible refine Kd.C_drewN ?_ _) | (with_reducible refine Kd.C_drew ?_)))
                  (case aB => exact (by repeat (first | (with_reducible first | exact HB.out | apply below_alloc | apply pw_below_drewN | apply below_drew1 | refine below_set ?_ GE224.out) | exact HB.out)))
                  (case aF => exact (fun k_ hk => ⟨Kd.fresh' (Kd.R_lt (by (with_reducible repeat (first | apply Kd.R_alloc | apply Kd.R_drewN | apply Kd.R_drew)); exact HO241.out)) k_ hk, Kd.freshB (g := gb224) (o := .cells #[.int .i64 a3_0, .int .i64 a3_1, .int .i64 a3_2] 42 (0, 0)) (by (with_reducible repeat (first | refine blk_drewN ?_ _ | refine blk_drew ?_ | refine blk_alloc ?_ _)); exact BK224.out) k_ hk⟩))
                  (case aO => exact (by (with_reducible repeat (first | apply Kd.R_alloc | apply Kd.R_drewN | apply Kd.R_drew)); exact Kd.R_mono HO235.out (fun _ hk => ⟨hk.1.2, hk.2⟩)))
                  (case aS => exact (below_size (by repeat (first | (with_reducible first | exact HB.out | apply below_alloc | apply pw_below_drewN | apply below_drew1 | refine below_set ?_ GE224.out) | exact HB.out))))
                  (case aL => have := LMc13.out; omega)
                  intro v237 w23 ho hb hg hat
                  rw [← Ny236.out] at ho
                  have n0_ := Aside0.mk (blk_grown (g := gb224) (o := .cells #[.int .i64 a3_0, .int .i64 a3_1, .int .i64 a3_2] 42 (0, 0)) (by (with_reducible repeat (first | refine blk_drewN ?_ _ | refine blk_drew ?_ | refine blk_alloc ?_ _)); exact BK224.out) hg (Kd.R_away HO235.out (fun _ hk => hk.2)))
                  have n1_ := Aside0.mk (Kd.R_over' (by (with_reducible repeat (first | apply Kd.R_alloc | apply Kd.R_drewN | apply Kd.R_drew)); exact HO230.out) (Kd.R_typed (by (with_reducible repeat (first | apply Kd.R_alloc | apply Kd.R_drewN | apply Kd.R_drew)); exact HO235.out)) (by decide) hg)
                  have n2_ := Aside0.mk (Kd.R_over' (by (with_reducible repeat (first | apply Kd.R_alloc | apply Kd.R_drewN | apply Kd.R_drew)); exact HO232.out) (Kd.R_typed (by (with_reducible repeat (first | apply Kd.R_alloc | apply Kd.R_drewN | apply Kd.R_drew)); exact HO235.out)) (by decide) hg)
                  have n3_ := Aside0.mk (Kd.R_after (ok := (fun k_ => k_ ≠ gb224)) (by (with_reducible repeat (first | apply Kd.R_alloc | apply Kd.R_drewN | apply Kd.R_drew)); exact Kd.R_mono HO241.out (fun _ hk => ⟨hk.1.2, hk.2⟩)) hg hat)
                  have n4_ := Aside0.mk (hb)
                  have n5_ := Aside0.mk (ho)
                  clear BK224
                  clear HO230
                  clear HO232
                  clear HO241
                  clear HB
                  clear HO235
                  have BK224 := n0_
                  have HO230 := n1_
                  have HO232 := n2_
                  have HO241 := n3_
                  have HB := n4_
                  have HO238 := n5_
                  clear n0_ n1_ n2_ n3_ n4_ n5_
                  clear ho hb hg hat
                  refine hK.out _ _ ⟨(blk_cell BK224.out 0).trans rfl, (blk_cell BK224.out 1).trans rfl, (blk_cell BK224.out 2).trans rfl⟩ (fun hHeld => ?_)
                  clear hK K
                  refine norm_ (a' := ?_) ?_ ?_
                  rotate_left
                  · show Act.put _ (some 40) _ = _
                    simp only [Act.put, List.setIfInBounds_toArray, List.set_cons_zero, List.set_cons_succ, i64_w, i32_w]
                    rfl
                  exact norm_ (by simp only [putAll, Act.put, List.setIfInBounds_toArray, List.set_cons_zero, List.set_cons_succ]) (hCont (v234, v237, v240) _ ⟨hHeld, (by (with_reducible repeat (first | apply Kd.R_alloc | apply Kd.R_drewN | apply Kd.R_drew)); exact HO230.out), (by (with_reducible repeat (first | apply Kd.R_alloc | apply Kd.R_drewN | apply Kd.R_drew)); exact HO232.out), (by (with_reducible repeat (first | apply Kd.R_alloc | apply Kd.R_drewN | apply Kd.R_drew)); exact HO238.out), (by (with_reducible repeat (first | apply Kd.R_alloc | apply Kd.R_drewN | apply Kd.R_drew)); exact Kd.R_mono HO241.out (fun _ hk => ⟨hk.2, hk.1⟩)), (by (with_reducible repeat (first | refine blk_drewN ?_ _ | refine blk_drew ?_ | refine blk_alloc ?_ _)); exact BK224.out), (by repeat (first | (with_reducible first | exact HB.out | apply below_alloc | apply pw_below_drewN | apply below_drew1 | refine below_set ?_ GE224.out) | exact HB.out))⟩)
              rintro ⟨v234, v237, v240⟩ w24 ⟨hS_, h0_, h1_, h2_, h3_, h4_, h5_⟩
              have n0_ : Aside0 (Kd.R (Kd.int .i64) 2 w24 w.heap.size (fun _ => True) v229 t226) := ⟨h0_⟩
              have n1_ : Aside0 (Kd.R (Kd.int .i64) 3 w24 w.heap.size (fun _ => True) v231 t227) := ⟨h1_⟩
              have n2_ : Aside0 (Kd.R k42 42 w24 w.heap.size (fun k_ => some k_ ≠ (v240 : Value).ownBlock ∧ k_ ≠ gb224) v237 y236) := ⟨h2_⟩
              have n3_ : Aside0 (Kd.R k42 42 w24 w.heap.size (fun k_ => some k_ ≠ (v237 : Value).ownBlock ∧ k_ ≠ gb224) v240 y239) := ⟨h3_⟩
              have n4_ : Aside0 (w24.heap[gb224]? = some (.cells #[.int .i64 a3_0, .int .i64 a3_1, .int .i64 a3_2] 42 (0, 0))) := ⟨h4_⟩
              have n5_ : Aside0 (Below w.heap.size w w24) := ⟨h5_⟩
              clear HO230
              clear HO232
              clear BK224
              clear HB
              clear h0_ h1_ h2_ h3_ h4_ h5_
              have HO230 := n0_
              have HO232 := n1_
              have HO238 := n2_
              have HO241 := n3_
              have BK224 := n4_
              have HB := n5_
              clear n0_ n1_ n2_ n3_ n4_ n5_
              have hHeld : w24.cell? ⟨gb224, 0, none⟩ = some (.int .i64 a3_0) ∧ w24.cell? ⟨gb224, 1, none⟩ = some (.int .i64 a3_1) ∧ w24.cell? ⟨gb224, 2, none⟩ = some (.int .i64 a3_2) := hS_
              obtain ⟨Ao26, co26, eo26⟩ := Kd.R_slice HO241.out
              (first | subst eo26 | (injection eo26 with f1_ f2_ f3_; have f4_ := f1_.symm; have f5_ := f3_.symm; clear f1_ f2_ f3_; subst f4_; subst f5_))
              refine norm_ (a' := ?_) ?_ ?_
              rotate_left
              · simp only [putAll, Act.put, List.setIfInBounds_toArray, List.set_cons_zero, List.set_cons_succ]
                rfl
              refine one_ (i := 5) (N := some 43) #[true, true, true, true, true, true, false] rfl rfl (by kernel_rfl) (by decide) (fun K hK => ?_)
              refine Kd.R_append_rows_step k42 (w0 := w) w.heap.size (by rfl) (.tmp 40) (.tmp 42) 22 42 (.agg #[(.int .i64 0), (.int .i64 0), (.int .i64 0)]) 24 rfl Try.underlying22 info42 rfl (by decide) (by omega) v237 y236 y239 _ _ _ (fun k_ => some k_ ≠ (.slice Ao26 y239.length co26 : Value).ownBlock ∧ k_ ≠ gb224) (fun _ => False) rfl rfl ?aO ?aR (fun _ _ h => h) (fun _ h => h.elim) ?aF ?aB ?aS ?aL ?_
              (case aR => repeat (first | exact (Kd.R_reads' HO241.out).2.2 | (with_reducible refine Kd.C_alloc ?_ _) | (with_reducible refine Kd.C_drewN ?_ _) | (with_reducible refine Kd.C_drew ?_)))
              (case aB => exact (by repeat (first | (with_reducible first | exact HB.out | apply below_alloc | apply pw_below_drewN | apply below_drew1 | refine below_set ?_ GE224.out) | exact HB.out)))
              (case aF => exact (fun k_ hk => ⟨Kd.fresh' (Kd.R_lt (by (with_reducible repeat (first | apply Kd.R_alloc | apply Kd.R_drewN | apply Kd.R_drew)); exact HO241.out)) k_ hk, Kd.freshB (g := gb224) (o := .cells #[.int .i64 a3_0, .int .i64 a3_1, .int .i64 a3_2] 42 (0, 0)) (by (with_reducible repeat (first | refine blk_drewN ?_ _ | refine blk_drew ?_ | refine blk_alloc ?_ _)); exact BK224.out) k_ hk⟩))
              (case aO => exact (by (with_reducible repeat (first | apply Kd.R_alloc | apply Kd.R_drewN | apply Kd.R_drew)); exact HO238.out))
              (case aS => exact (below_size (by repeat (first | (with_reducible first | exact HB.out | apply below_alloc | apply pw_below_drewN | apply below_drew1 | refine below_set ?_ GE224.out) | exact HB.out))))
              (case aL => have := LMc14.out; omega)
              intro v243 w25 ho hb hg hat
              rw [← Ny242.out] at ho
              have n0_ := Aside0.mk (blk_grown (g := gb224) (o := .cells #[.int .i64 a3_0, .int .i64 a3_1, .int .i64 a3_2] 42 (0, 0)) (by (with_reducible repeat (first | refine blk_drewN ?_ _ | refine blk_drew ?_ | refine blk_alloc ?_ _)); exact BK224.out) hg (Kd.R_away HO238.out (fun _ hk => hk.2)))
              have n1_ := Aside0.mk (Kd.R_over' (by (with_reducible repeat (first | apply Kd.R_alloc | apply Kd.R_drewN | apply Kd.R_drew)); exact HO230.out) (Kd.R_typed (by (with_reducible repeat (first | apply Kd.R_alloc | apply Kd.R_drewN | apply Kd.R_drew)); exact HO238.out)) (by decide) hg)
              have n2_ := Aside0.mk (Kd.R_over' (by (with_reducible repeat (first | apply Kd.R_alloc | apply Kd.R_drewN | apply Kd.R_drew)); exact HO232.out) (Kd.R_typed (by (with_reducible repeat (first | apply Kd.R_alloc | apply Kd.R_drewN | apply Kd.R_drew)); exact HO238.out)) (by decide) hg)
              have n3_ := Aside0.mk (Kd.R_after (ok := (fun k_ => k_ ≠ gb224)) (by (with_reducible repeat (first | apply Kd.R_alloc | apply Kd.R_drewN | apply Kd.R_drew)); exact Kd.R_mono HO241.out (fun _ hk => ⟨hk.2, hk.1⟩)) hg hat)
              have n4_ := Aside0.mk (hb)
              have n5_ := Aside0.mk (ho)
              clear BK224
              clear HO230
              clear HO232
              clear HO241
              clear HB
              clear HO238
              have BK224 := n0_
              have HO230 := n1_
              have HO232 := n2_
              have HO241 := n3_
              have HB := n4_
              have HO244 := n5_
              clear n0_ n1_ n2_ n3_ n4_ n5_
              clear ho hb hg hat
              refine hK.out _ _ ⟨(blk_cell BK224.out 0).trans rfl, (blk_cell BK224.out 1).trans rfl, (blk_cell BK224.out 2).trans rfl⟩ (fun hHeld => ?_)
              clear hK K
              refine norm_ (a' := ?_) ?_ ?_
              rotate_left
              · show Act.put _ (some 43) _ = _
                simp only [Act.put, List.setIfInBounds_toArray, List.set_cons_zero, List.set_cons_succ, i64_w, i32_w]
                rfl
              refine pure_ (i := 6) (N := some 12) (v := ?_) (a' := ?_) #[true, true, true, true, true, true, true] rfl rfl (by kernel_rfl) (fun _ _ _ h => h) (Or.inl ⟨by rfl, ?_⟩) ?_ ?_
              rotate_left
              · intro w'
                go_simp
                with_reducible rfl
              rotate_left
              · simp only [Act.put, List.setIfInBounds_toArray, List.set_cons_zero, List.set_cons_succ, i64_w, i32_w]
                rfl
              refine done_ (by kernel_rfl) ?_
              obtain ⟨Ao27, co27, eo27⟩ := Kd.R_slice HO244.out
              subst eo27
              go_upto_region 8 with (first | ((with_reducible refine gate_callee (f := 9) rfl ?_); refine goesL_ (some 48) rfl rfl Try.func9 (by kernel_rfl) rfl #[.int .i64 a0, .slice Ao27 y242.length co27, .int .i64 a2] rfl (by (try simp only [List.map_toArray, List.map_cons, List.map_nil]); first | done | rfl | (simp only [List.length_drop, List.length_take]; rfl)) ?_; (with_reducible refine (diff_Solve.calls a0 _ _ y242 a2 t245 t246 t247 _ ?side1 ?side2 A15.out).mono ?_); (case side1 => repeat (first | exact (Kd.R_reads' HO244.out).2.2 | (with_reducible refine Kd.C_alloc ?_ _) | (with_reducible refine Kd.C_drewN ?_ _) | (with_reducible refine Kd.C_drew ?_))); (case side2 => exact (Kd.R_reads' HO244.out).2.1); rintro e w28 ⟨v248, v250, rfl, ho0, ho1, hb⟩; refine ⟨_, rfl, ?_⟩; have n0_ := Aside0.mk (Kd.R_elder' (by (with_reducible repeat (first | apply Kd.R_alloc | apply Kd.R_drewN | apply Kd.R_drew)); exact HO230.out) (Kd.R_base ho0) hb); have n1_ := Aside0.mk (Kd.R_elder' (by (with_reducible repeat (first | apply Kd.R_alloc | apply Kd.R_drewN | apply Kd.R_drew)); exact HO232.out) (Kd.R_base ho1) hb); have n2_ := Aside0.mk (Kd.R_below (by (with_reducible repeat (first | apply Kd.R_alloc | apply Kd.R_drewN | apply Kd.R_drew)); exact HO241.out) hb); have n3_ := Aside0.mk (Kd.R_below (by (with_reducible repeat (first | apply Kd.R_alloc | apply Kd.R_drewN | apply Kd.R_drew)); exact HO244.out) hb); have n4_ := Aside0.mk (Kd.R_lower (Kd.R_new' ho0 (Kd.R_lt (by (with_reducible repeat (first | apply Kd.R_alloc | apply Kd.R_drewN | apply Kd.R_drew)); exact HO230.out))) (below_size (by repeat (first | (with_reducible first | exact HB.out | apply below_alloc | apply pw_below_drewN | apply below_drew1 | refine below_set ?_ GE224.out) | exact HB.out)))); have n5_ := Aside0.mk (Kd.R_lower (Kd.R_new' ho1 (Kd.R_lt (by (with_reducible repeat (first | apply Kd.R_alloc | apply Kd.R_drewN | apply Kd.R_drew)); exact HO232.out))) (below_size (by repeat (first | (with_reducible first | exact HB.out | apply below_alloc | apply pw_below_drewN | apply below_drew1 | refine below_set ?_ GE224.out) | exact HB.out)))); have n6_ := Aside0.mk (blk_below (g := gb224) (o := .cells #[.int .i64 a3_0, .int .i64 a3_1, .int .i64 a3_2] 42 (0, 0)) (by (with_reducible repeat (first | refine blk_drewN ?_ _ | refine blk_drew ?_ | refine blk_alloc ?_ _)); exact BK224.out) hb); have n7_ := Aside0.mk (below_step (by repeat (first | (with_reducible first | exact HB.out | apply below_alloc | apply pw_below_drewN | apply below_drew1 | refine below_set ?_ GE224.out) | exact HB.out)) hb); clear HO230; clear HO232; clear HO241; clear HO244; clear BK224; clear HB; have HO230 := n0_; have HO232 := n1_; have HO241 := n2_; have HO244 := n3_; have HO249 := n4_; have HO251 := n5_; have BK224 := n6_; have HB := n7_; clear n0_ n1_ n2_ n3_ n4_ n5_ n6_ n7_; (try clear hb); (try clear hb2); (try clear hk); (try clear hi); (try clear ho0); (try clear ho1)))
              (try simp only [Act.put, List.setIfInBounds_toArray, List.set_cons_zero, List.set_cons_succ])
              go_cut [57] (fun v57 wc => ∃ (kq : Nat) (x57_15 : Bool), v57 = .bool x57_15 ∧ Aside0 (jitneylaw07_DiffEdges.j1 kq a0 l1 a2 t226 t227 t228 t245 t246 t247 x57_15 a3_0 a3_1 a3_2 = some r) ∧ Aside0 (kq ≤ kj6) ∧ Aside0 (Kd.R (Kd.int .i64) 2 wc w.heap.size (fun k_ => some k_ ≠ (v248 : Value).ownBlock) v229 t226) ∧ Aside0 (Kd.R (Kd.int .i64) 3 wc w.heap.size (fun k_ => some k_ ≠ (v250 : Value).ownBlock) v231 t227) ∧ Aside0 (Kd.R (Kd.int .i64) 2 wc w.heap.size (fun k_ => some k_ ≠ (v229 : Value).ownBlock) v248 t245) ∧ Aside0 (Kd.R (Kd.int .i64) 3 wc w.heap.size (fun k_ => some k_ ≠ (v231 : Value).ownBlock) v250 t246) ∧ Aside0 (wc.heap[gb224]? = some (.cells #[.int .i64 a3_0, .int .i64 a3_1, .int .i64 a3_2] 42 (0, 0))) ∧ Aside0 (Below w.heap.size w wc))
              case first =>
                have H := HC16.out
                clear HC16
                by_cases c29 : t228 = 0
                · rw [if_pos c29] at H
                  have c29b0 : (t228 == 0) = true := beq_iff_eq.mpr c29
                  have c29b1 : (t228 != 0) = false := bne_eq_false_iff_eq.mpr c29
                  clear c29
                  (first | rw [c29b0] | (simp only [i64_w, i32_w]; rw [c29b0]) | skip)
                  have H' := Aside0.mk H
                  clear H
                  go_wp2
                  go_meet
                  case rel => exact ⟨_, ((t247 != 0)), (by first | rfl | (simp; done) | (simp [*]; done)), H', ⟨by have := HJ6.out; first | omega | exact Nat.le_refl _⟩, ⟨by (with_reducible repeat (first | apply Kd.R_alloc | apply Kd.R_drewN | apply Kd.R_drew)); exact Kd.R_mono HO230.out (fun _ hk => hk.2)⟩, ⟨by (with_reducible repeat (first | apply Kd.R_alloc | apply Kd.R_drewN | apply Kd.R_drew)); exact Kd.R_mono HO232.out (fun _ hk => hk.2)⟩, ⟨by (with_reducible repeat (first | apply Kd.R_alloc | apply Kd.R_drewN | apply Kd.R_drew)); exact Kd.R_mono HO249.out (fun _ hk => hk.2)⟩, ⟨by (with_reducible repeat (first | apply Kd.R_alloc | apply Kd.R_drewN | apply Kd.R_drew)); exact Kd.R_mono HO251.out (fun _ hk => hk.2)⟩, ⟨by (with_reducible repeat (first | refine blk_drewN ?_ _ | refine blk_drew ?_ | refine blk_alloc ?_ _)); exact BK224.out⟩, ⟨by repeat (first | (with_reducible first | exact HB.out | apply below_alloc | apply pw_below_drewN | apply below_drew1 | refine below_set ?_ GE224.out) | exact HB.out)⟩⟩
                · rw [if_neg c29] at H
                  have c29b0 : (t228 == 0) = false := beq_eq_false_iff_ne.mpr c29
                  have c29b1 : (t228 != 0) = true := bne_iff_ne.mpr c29
                  (first | rw [c29b0] | (simp only [i64_w, i32_w]; rw [c29b0]) | skip)
                  have H' := Aside0.mk H
                  clear H
                  go_wp2
                  go_meet
                  case rel => exact ⟨_, (true), (by first | rfl | (simp; done) | (simp [*]; done)), H', ⟨by have := HJ6.out; first | omega | exact Nat.le_refl _⟩, ⟨by (with_reducible repeat (first | apply Kd.R_alloc | apply Kd.R_drewN | apply Kd.R_drew)); exact Kd.R_mono HO230.out (fun _ hk => hk.2)⟩, ⟨by (with_reducible repeat (first | apply Kd.R_alloc | apply Kd.R_drewN | apply Kd.R_drew)); exact Kd.R_mono HO232.out (fun _ hk => hk.2)⟩, ⟨by (with_reducible repeat (first | apply Kd.R_alloc | apply Kd.R_drewN | apply Kd.R_drew)); exact Kd.R_mono HO249.out (fun _ hk => hk.2)⟩, ⟨by (with_reducible repeat (first | apply Kd.R_alloc | apply Kd.R_drewN | apply Kd.R_drew)); exact Kd.R_mono HO251.out (fun _ hk => hk.2)⟩, ⟨by (with_reducible repeat (first | refine blk_drewN ?_ _ | refine blk_drew ?_ | refine blk_alloc ?_ _)); exact BK224.out⟩, ⟨by repeat (first | (with_reducible first | exact HB.out | apply below_alloc | apply pw_below_drewN | apply below_drew1 | refine below_set ?_ GE224.out) | exact HB.out)⟩⟩
              case rest =>
                clear HC16
                try clear c1
                try clear c2
                try clear p2
                try clear c3
                try clear c6
                try clear c8
                try clear c9
                try clear c10
                try clear c10b0
                try clear c11
                try clear c13
                try clear c14
                try clear c29
                try clear c29b0
                try clear c29b1
                try clear p2
                obtain ⟨kq, x57_15, rfl, HA, HJ15, HO_9, HO_10, HO_13, HO_14, BK224, HB⟩ := hcut
                cases kq with
                | zero => exact absurd HA.out (by simp [jitneylaw07_DiffEdges.j1])
                | succ kj15 =>
                  have H := HA.out
                  clear HA
                  simp only [jitneylaw07_DiffEdges.j1] at H
                  by_cases c30 : x57_15 = true
                  · subst c30
                    have H1 : (if t228 = 0 then (some true) else (some (t247 != 0))) = some r := by rw [if_pos rfl] at H; exact H
                    clear H
                    have H := H1
                    clear H1
                    by_cases c31 : t228 = 0
                    · rw [if_pos c31] at H
                      have c31b0 : (t228 == 0) = true := beq_iff_eq.mpr c31
                      have c31b1 : (t228 != 0) = false := bne_eq_false_iff_eq.mpr c31
                      clear c31
                      obtain rfl := Option.some.inj H
                      go_wp2
                      go_ret
                      exact ⟨by first | rfl | (simp [errW_none, errW_some] <;> rfl) | (simp [*, errW_none, errW_some] <;> rfl), by repeat (first | (with_reducible first | exact HB.out | apply below_alloc | apply pw_below_drewN | apply below_drew1 | refine below_set ?_ GE224.out) | exact HB.out)⟩
                    · rw [if_neg c31] at H
                      have c31b0 : (t228 == 0) = false := beq_eq_false_iff_ne.mpr c31
                      have c31b1 : (t228 != 0) = true := bne_iff_ne.mpr c31
                      obtain rfl := Option.some.inj H
                      go_wp2
                      go_ret
                      exact ⟨by first | rfl | (simp [errW_none, errW_some] <;> rfl) | (simp [*, errW_none, errW_some] <;> rfl), by repeat (first | (with_reducible first | exact HB.out | apply below_alloc | apply pw_below_drewN | apply below_drew1 | refine below_set ?_ GE224.out) | exact HB.out)⟩
                  · replace c30 := Bool.eq_false_iff.mpr c30
                    subst c30
                    have H1 : (if (t227.length : Int) > 0 then (some (decide ((t246.length : Int) > 0))) else (if (t246.length : Int) > 0 then (some true) else (jitneylaw07_DiffEdges.l0 kj15 a0 l1 a2 t226 t245 (t226.length : Int) 0 a3_0 a3_1 a3_2))) = some r := by rw [if_neg (show ¬ (false = true) by decide)] at H; exact H
                    clear H
                    have H := H1
                    clear H1
                    by_cases c32 : (t227.length : Int) > 0
                    · rw [if_pos c32] at H
                      have c32b0 : decide (0 < (t227.length : Int)) = true := decide_eq_true c32
                      have c32b1 : decide (0 < t227.length) = true := decide_eq_true (by omega)
                      clear c32
                      obtain rfl := Option.some.inj H
                      obtain ⟨Ao33, co33, eo33⟩ := Kd.R_slice HO_10.out
                      subst eo33
                      obtain ⟨Ao34, co34, eo34⟩ := Kd.R_slice HO_14.out
                      subst eo34
                      go_wp2
                      go_ret
                      exact ⟨by first | rfl | (simp [errW_none, errW_some] <;> rfl) | (simp [*, errW_none, errW_some] <;> rfl), by repeat (first | (with_reducible first | exact HB.out | apply below_alloc | apply pw_below_drewN | apply below_drew1 | refine below_set ?_ GE224.out) | exact HB.out)⟩
                    · rw [if_neg c32] at H
                      have c32b0 : decide (0 < (t227.length : Int)) = false := decide_eq_false c32
                      have c32b1 : decide (0 < t227.length) = false := decide_eq_false (by omega)
                      clear c32
                      by_cases c35 : (t246.length : Int) > 0
                      · rw [if_pos c35] at H
                        have c35b0 : decide (0 < (t246.length : Int)) = true := decide_eq_true c35
                        have c35b1 : decide (0 < t246.length) = true := decide_eq_true (by omega)
                        clear c35
                        obtain rfl := Option.some.inj H
                        obtain ⟨Ao36, co36, eo36⟩ := Kd.R_slice HO_10.out
                        subst eo36
                        obtain ⟨Ao37, co37, eo37⟩ := Kd.R_slice HO_14.out
                        subst eo37
                        go_wp2
                        go_ret
                        exact ⟨by first | rfl | (simp [errW_none, errW_some] <;> rfl) | (simp [*, errW_none, errW_some] <;> rfl), by repeat (first | (with_reducible first | exact HB.out | apply below_alloc | apply pw_below_drewN | apply below_drew1 | refine below_set ?_ GE224.out) | exact HB.out)⟩
                      · rw [if_neg c35] at H
                        have c35b0 : decide (0 < (t246.length : Int)) = false := decide_eq_false c35
                        have c35b1 : decide (0 < t246.length) = false := decide_eq_false (by omega)
                        clear c35
                        have H' := Aside0.mk H
                        clear H
                        obtain ⟨Ao38, co38, eo38⟩ := Kd.R_slice HO_10.out
                        subst eo38
                        obtain ⟨Ao39, co39, eo39⟩ := Kd.R_slice HO_14.out
                        subst eo39
                        obtain ⟨Ao40, co40, eo40⟩ := Kd.R_slice HO_9.out
                        subst eo40
                        go_wp2
                        go_loopg [75] kj15 (fun kq v75 w' => ∃ (x75_3 : Int), v75 = .int .i64 x75_3 ∧ Aside0 (jitneylaw07_DiffEdges.l0 kq a0 l1 a2 t226 t245 (t226.length : Int) x75_3 a3_0 a3_1 a3_2 = some r) ∧ Aside0 (kq ≤ kj15) ∧ Aside0 (Kd.R (Kd.int .i64) 2 w' w.heap.size (fun k_ => some k_ ≠ (v248 : Value).ownBlock) (.slice Ao40 t226.length co40) t226) ∧ Aside0 (Kd.R (Kd.int .i64) 2 w' w.heap.size (fun k_ => some k_ ≠ ((.slice Ao40 t226.length co40) : Value).ownBlock) v248 t245) ∧ Aside0 (w'.heap[gb224]? = some (.cells #[.int .i64 a3_0, .int .i64 a3_1, .int .i64 a3_2] 42 (0, 0))) ∧ Aside0 (Below w.heap.size w w'))
                        case atStart => exact ⟨(0), (by first | rfl | (simp; done) | (simp [*]; done)), H', ⟨Nat.le_refl _⟩, ⟨by (with_reducible repeat (first | apply Kd.R_alloc | apply Kd.R_drewN | apply Kd.R_drew)); exact HO_9.out⟩, ⟨by (with_reducible repeat (first | apply Kd.R_alloc | apply Kd.R_drewN | apply Kd.R_drew)); exact HO_13.out⟩, ⟨by (with_reducible repeat (first | refine blk_drewN ?_ _ | refine blk_drew ?_ | refine blk_alloc ?_ _)); exact BK224.out⟩, ⟨by repeat (first | (with_reducible first | exact HB.out | apply below_alloc | apply pw_below_drewN | apply below_drew1 | refine below_set ?_ GE224.out) | exact HB.out)⟩⟩
                        case round =>
                          clear H'
                          try clear c1
                          try clear c2
                          try clear p2
                          try clear c3
                          try clear c6
                          try clear c8
                          try clear c9
                          try clear c10
                          try clear c10b0
                          try clear c11
                          try clear c13
                          try clear c14
                          try clear c29
                          try clear c29b0
                          try clear c29b1
                          try clear c30
                          try clear c31
                          try clear c31b0
                          try clear c31b1
                          try clear c32
                          try clear c32b0
                          try clear c32b1
                          try clear c35
                          try clear c35b0
                          try clear c35b1
                          try clear p2
                          obtain ⟨x75_3, rfl, HA, HK3, HO_9, HO_13, BK224, HB⟩ := hrel
                          cases gk with
                          | zero => exact absurd HA.out (by simp [jitneylaw07_DiffEdges.l0])
                          | succ k3 =>
                            have H := HA.out
                            clear HA
                            simp only [jitneylaw07_DiffEdges.l0] at H
                            by_cases c41 : x75_3 < (t226.length : Int)
                            · rw [if_pos c41] at H
                              have c41b0 : decide (x75_3 < (t226.length : Int)) = true := decide_eq_true c41
                              clear c41
                              by_cases c42 : 0 ≤ x75_3
                              · rw [if_pos c42] at H
                                have c42b0 : decide (0 ≤ x75_3) = true := decide_eq_true c42
                                clear c42
                                by_cases c43 : x75_3 < (t245.length : Int)
                                · rw [if_pos c43] at H
                                  have c43b0 : decide (x75_3 < (t245.length : Int)) = true := decide_eq_true c43
                                  clear c43
                                  by_cases c44 : x75_3 < (t226.length : Int)
                                  · rw [if_pos c44] at H
                                    have c44b0 : decide (x75_3 < (t226.length : Int)) = true := decide_eq_true c44
                                    clear c44
                                    by_cases c45 : (rd t245 x75_3) > (rd t226 x75_3)
                                    · rw [if_pos c45] at H
                                      have c45b0 : decide ((rd t226 x75_3) < (rd t245 x75_3)) = true := decide_eq_true c45
                                      clear c45
                                      obtain rfl := Option.some.inj H
                                      try go_wp2
                                      have n0_ := Aside0.mk (Kd.R_drew HO_9.out)
                                      have n1_ := Aside0.mk (Kd.R_drew HO_13.out)
                                      have n2_ := Aside0.mk (blk_drew BK224.out)
                                      have n3_ := Aside0.mk (below_drew1 HB.out)
                                      clear HO_9
                                      clear HO_13
                                      clear BK224
                                      clear HB
                                      have HO_9 := n0_
                                      have HO_13 := n1_
                                      have BK224 := n2_
                                      have HB := n3_
                                      clear n0_ n1_ n2_ n3_
                                      obtain ⟨Ao47, co47, eo47⟩ := Kd.R_slice HO_13.out
                                      (first | subst eo47 | (injection eo47 with f1_ f2_ f3_; have f4_ := f1_.symm; have f5_ := f3_.symm; clear f1_ f2_ f3_; subst f4_; subst f5_))
                                      have p252 : 0 ≤ (x75_3 : Int) := of_decide_eq_true (by first | (with_reducible assumption) | assumption)
                                      have q252 : x75_3 < (t245.length : Int) := of_decide_eq_true (by first | (with_reducible assumption) | assumption)
                                      obtain ⟨ad252, e252, hx252_0⟩ := Kd.at_int (Kd.R_reads' HO_13.out).2.2 x75_3 p252 q252
                                      cases e252
                                      replace p252 := eq_true p252
                                      replace q252 := eq_true q252
                                      have p253 : 0 ≤ (x75_3 : Int) := of_decide_eq_true (by first | (with_reducible assumption) | assumption)
                                      have q253 : x75_3 < (t226.length : Int) := of_decide_eq_true (by first | (with_reducible assumption) | assumption)
                                      obtain ⟨ad253, e253, hx253_0⟩ := Kd.at_int (Kd.R_reads' HO_9.out).2.2 x75_3 p253 q253
                                      cases e253
                                      replace p253 := eq_true p253
                                      replace q253 := eq_true q253
                                      refine start_ (n := 9) (S := fun w' => w'.cell? (ad252.add (x75_3).toNat) = some (.int .i64 (rd t245 x75_3)) ∧ w'.cell? (ad253.add (x75_3).toNat) = some (.int .i64 (rd t226 x75_3))) (ds := []) #[false, false, false, false, false, false, false, false, false] (by kernel_rfl) rfl rfl ⟨hx252_0, hx253_0⟩ (fun hHeld => ?_); refine with_tabW jitneylaw07_DiffEdges.tab17 jitneylaw07_DiffEdges.bits17 (fun HT_ HW_ => ?_)
                                      generalize wr.drew = w46 at HO_9 HO_13 BK224 HB hx252_0 hx253_0 hHeld ⊢
                                      refine pure_ (i := 0) (N := some 78) (v := ?_) (a' := ?_) #[true, false, false, false, false, false, false, false, false] rfl rfl (any_of HT_.out (by kernel_rfl)) (fun _ _ _ h => h) (Or.inl ⟨by rfl, ?_⟩) ?_ ?_
                                      rotate_left
                                      · intro w'
                                        go_simp
                                        with_reducible rfl
                                      rotate_left
                                      · simp only [Act.put, List.setIfInBounds_toArray, List.set_cons_zero, List.set_cons_succ, i64_w, i32_w]
                                        rfl
                                      refine pure_ (i := 1) (N := some 79) (v := ?_) (a' := ?_) #[true, true, false, false, false, false, false, false, false] rfl rfl (any_of HT_.out (by kernel_rfl)) (fun _ _ _ h => h) (Or.inl ⟨by rfl, ?_⟩) ?_ ?_
                                      rotate_left
                                      · intro w'
                                        go_simp
                                        with_reducible rfl
                                      rotate_left
                                      · simp only [Act.put, List.setIfInBounds_toArray, List.set_cons_zero, List.set_cons_succ, i64_w, i32_w]
                                        rfl
                                      refine pure_ (i := 2) (N := some 80) (v := ?_) (a' := ?_) #[true, true, true, false, false, false, false, false, false] rfl rfl (any_of HT_.out (by kernel_rfl)) (fun _ _ _ h => h) (Or.inl ⟨by rfl, ?_⟩) ?_ ?_
                                      rotate_left
                                      · intro w'
                                        go_simp
                                        with_reducible rfl
                                      rotate_left
                                      · simp only [Act.put, List.setIfInBounds_toArray, List.set_cons_zero, List.set_cons_succ, i64_w, i32_w]
                                        rfl
                                      refine pure_ (i := 4) (N := some 82) (v := ?_) (a' := ?_) #[true, true, true, false, true, false, false, false, false] rfl rfl (any_of HT_.out (by kernel_rfl)) (fun _ _ _ h => h) (Or.inl ⟨by rfl, ?_⟩) ?_ ?_
                                      rotate_left
                                      · intro w'
                                        go_simp
                                        with_reducible rfl
                                      rotate_left
                                      · simp only [Act.put, List.setIfInBounds_toArray, List.set_cons_zero, List.set_cons_succ, i64_w, i32_w]
                                        rfl
                                      refine pure_ (i := 5) (N := some 83) (v := ?_) (a' := ?_) #[true, true, true, false, true, true, false, false, false] rfl rfl (any_of HT_.out (by kernel_rfl)) (fun _ _ _ h => h) (Or.inl ⟨by rfl, ?_⟩) ?_ ?_
                                      rotate_left
                                      · intro w'
                                        go_simp
                                        with_reducible rfl
                                      rotate_left
                                      · simp only [Act.put, List.setIfInBounds_toArray, List.set_cons_zero, List.set_cons_succ, i64_w, i32_w]
                                        rfl
                                      refine pure_ (i := 6) (N := some 84) (v := ?_) (a' := ?_) #[true, true, true, false, true, true, true, false, false] rfl rfl (any_of HT_.out (by kernel_rfl)) (fun _ _ _ h => h) (Or.inl ⟨by rfl, ?_⟩) ?_ ?_
                                      rotate_left
                                      · intro w'
                                        go_simp
                                        with_reducible rfl
                                      rotate_left
                                      · simp only [Act.put, List.setIfInBounds_toArray, List.set_cons_zero, List.set_cons_succ, i64_w, i32_w]
                                        rfl
                                      refine take_ (i := 3) (N := some 81) (v := ?_) (a' := ?_) #[true, true, true, true, true, true, true, false, false] rfl rfl (take_ofW HT_.out HW_.out (by kernel_rfl)) (fun _ _ _ h => h) (Or.inl ⟨by rfl, ?_⟩) hHeld ?_ ?_
                                      rotate_left
                                      · rintro w' ⟨s0, s1⟩
                                        go_simp
                                        with_reducible rfl
                                      rotate_left
                                      · simp only [Act.put, List.setIfInBounds_toArray, List.set_cons_zero, List.set_cons_succ, i64_w, i32_w]
                                        rfl
                                      refine take_ (i := 7) (N := some 85) (v := ?_) (a' := ?_) #[true, true, true, true, true, true, true, true, false] rfl rfl (take_ofW HT_.out HW_.out (by kernel_rfl)) (fun _ _ _ h => h) (Or.inl ⟨by rfl, ?_⟩) hHeld ?_ ?_
                                      rotate_left
                                      · rintro w' ⟨s0, s1⟩
                                        go_simp
                                        with_reducible rfl
                                      rotate_left
                                      · simp only [Act.put, List.setIfInBounds_toArray, List.set_cons_zero, List.set_cons_succ, i64_w, i32_w]
                                        rfl
                                      refine pure_ (i := 8) (N := some 86) (v := ?_) (a' := ?_) #[true, true, true, true, true, true, true, true, true] rfl rfl (any_of HT_.out (by kernel_rfl)) (fun _ _ _ h => h) (Or.inl ⟨by rfl, ?_⟩) ?_ ?_
                                      rotate_left
                                      · intro w'
                                        go_simp
                                        with_reducible rfl
                                      rotate_left
                                      · simp only [Act.put, List.setIfInBounds_toArray, List.set_cons_zero, List.set_cons_succ, i64_w, i32_w]
                                        rfl
                                      refine done_ (done_of HT_.out (by kernel_rfl)) ?_
                                      try go_wp2
                                      go_ret
                                      exact ⟨by first | rfl | (simp [errW_none, errW_some] <;> rfl) | (simp [*, errW_none, errW_some] <;> rfl), by repeat (first | (with_reducible first | exact HB.out | apply below_alloc | apply pw_below_drewN | apply below_drew1 | refine below_set ?_ GE224.out) | exact HB.out)⟩
                                    · rw [if_neg c45] at H
                                      have c45b0 : decide ((rd t226 x75_3) < (rd t245 x75_3)) = false := decide_eq_false c45
                                      clear c45
                                      have H' := Aside0.mk H
                                      clear H
                                      try go_wp2
                                      have n0_ := Aside0.mk (Kd.R_drew HO_9.out)
                                      have n1_ := Aside0.mk (Kd.R_drew HO_13.out)
                                      have n2_ := Aside0.mk (blk_drew BK224.out)
                                      have n3_ := Aside0.mk (below_drew1 HB.out)
                                      clear HO_9
                                      clear HO_13
                                      clear BK224
                                      clear HB
                                      have HO_9 := n0_
                                      have HO_13 := n1_
                                      have BK224 := n2_
                                      have HB := n3_
                                      clear n0_ n1_ n2_ n3_
                                      obtain ⟨Ao49, co49, eo49⟩ := Kd.R_slice HO_13.out
                                      (first | subst eo49 | (injection eo49 with f1_ f2_ f3_; have f4_ := f1_.symm; have f5_ := f3_.symm; clear f1_ f2_ f3_; subst f4_; subst f5_))
                                      have p252 : 0 ≤ (x75_3 : Int) := of_decide_eq_true (by first | (with_reducible assumption) | assumption)
                                      have q252 : x75_3 < (t245.length : Int) := of_decide_eq_true (by first | (with_reducible assumption) | assumption)
                                      obtain ⟨ad252, e252, hx252_0⟩ := Kd.at_int (Kd.R_reads' HO_13.out).2.2 x75_3 p252 q252
                                      cases e252
                                      replace p252 := eq_true p252
                                      replace q252 := eq_true q252
                                      have p253 : 0 ≤ (x75_3 : Int) := of_decide_eq_true (by first | (with_reducible assumption) | assumption)
                                      have q253 : x75_3 < (t226.length : Int) := of_decide_eq_true (by first | (with_reducible assumption) | assumption)
                                      obtain ⟨ad253, e253, hx253_0⟩ := Kd.at_int (Kd.R_reads' HO_9.out).2.2 x75_3 p253 q253
                                      cases e253
                                      replace p253 := eq_true p253
                                      replace q253 := eq_true q253
                                      refine start_ (n := 9) (S := fun w' => w'.cell? (ad252.add (x75_3).toNat) = some (.int .i64 (rd t245 x75_3)) ∧ w'.cell? (ad253.add (x75_3).toNat) = some (.int .i64 (rd t226 x75_3))) (ds := []) #[false, false, false, false, false, false, false, false, false] (by kernel_rfl) rfl rfl ⟨hx252_0, hx253_0⟩ (fun hHeld => ?_); refine with_tabW jitneylaw07_DiffEdges.tab17 jitneylaw07_DiffEdges.bits17 (fun HT_ HW_ => ?_)
                                      generalize wr.drew = w48 at HO_9 HO_13 BK224 HB hx252_0 hx253_0 hHeld ⊢
                                      refine pure_ (i := 0) (N := some 78) (v := ?_) (a' := ?_) #[true, false, false, false, false, false, false, false, false] rfl rfl (any_of HT_.out (by kernel_rfl)) (fun _ _ _ h => h) (Or.inl ⟨by rfl, ?_⟩) ?_ ?_
                                      rotate_left
                                      · intro w'
                                        go_simp
                                        with_reducible rfl
                                      rotate_left
                                      · simp only [Act.put, List.setIfInBounds_toArray, List.set_cons_zero, List.set_cons_succ, i64_w, i32_w]
                                        rfl
                                      refine pure_ (i := 1) (N := some 79) (v := ?_) (a' := ?_) #[true, true, false, false, false, false, false, false, false] rfl rfl (any_of HT_.out (by kernel_rfl)) (fun _ _ _ h => h) (Or.inl ⟨by rfl, ?_⟩) ?_ ?_
                                      rotate_left
                                      · intro w'
                                        go_simp
                                        with_reducible rfl
                                      rotate_left
                                      · simp only [Act.put, List.setIfInBounds_toArray, List.set_cons_zero, List.set_cons_succ, i64_w, i32_w]
                                        rfl
                                      refine pure_ (i := 2) (N := some 80) (v := ?_) (a' := ?_) #[true, true, true, false, false, false, false, false, false] rfl rfl (any_of HT_.out (by kernel_rfl)) (fun _ _ _ h => h) (Or.inl ⟨by rfl, ?_⟩) ?_ ?_
                                      rotate_left
                                      · intro w'
                                        go_simp
                                        with_reducible rfl
                                      rotate_left
                                      · simp only [Act.put, List.setIfInBounds_toArray, List.set_cons_zero, List.set_cons_succ, i64_w, i32_w]
                                        rfl
                                      refine pure_ (i := 4) (N := some 82) (v := ?_) (a' := ?_) #[true, true, true, false, true, false, false, false, false] rfl rfl (any_of HT_.out (by kernel_rfl)) (fun _ _ _ h => h) (Or.inl ⟨by rfl, ?_⟩) ?_ ?_
                                      rotate_left
                                      · intro w'
                                        go_simp
                                        with_reducible rfl
                                      rotate_left
                                      · simp only [Act.put, List.setIfInBounds_toArray, List.set_cons_zero, List.set_cons_succ, i64_w, i32_w]
                                        rfl
                                      refine pure_ (i := 5) (N := some 83) (v := ?_) (a' := ?_) #[true, true, true, false, true, true, false, false, false] rfl rfl (any_of HT_.out (by kernel_rfl)) (fun _ _ _ h => h) (Or.inl ⟨by rfl, ?_⟩) ?_ ?_
                                      rotate_left
                                      · intro w'
                                        go_simp
                                        with_reducible rfl
                                      rotate_left
                                      · simp only [Act.put, List.setIfInBounds_toArray, List.set_cons_zero, List.set_cons_succ, i64_w, i32_w]
                                        rfl
                                      refine pure_ (i := 6) (N := some 84) (v := ?_) (a' := ?_) #[true, true, true, false, true, true, true, false, false] rfl rfl (any_of HT_.out (by kernel_rfl)) (fun _ _ _ h => h) (Or.inl ⟨by rfl, ?_⟩) ?_ ?_
                                      rotate_left
                                      · intro w'
                                        go_simp
                                        with_reducible rfl
                                      rotate_left
                                      · simp only [Act.put, List.setIfInBounds_toArray, List.set_cons_zero, List.set_cons_succ, i64_w, i32_w]
                                        rfl
                                      refine take_ (i := 3) (N := some 81) (v := ?_) (a' := ?_) #[true, true, true, true, true, true, true, false, false] rfl rfl (take_ofW HT_.out HW_.out (by kernel_rfl)) (fun _ _ _ h => h) (Or.inl ⟨by rfl, ?_⟩) hHeld ?_ ?_
                                      rotate_left
                                      · rintro w' ⟨s0, s1⟩
                                        go_simp
                                        with_reducible rfl
                                      rotate_left
                                      · simp only [Act.put, List.setIfInBounds_toArray, List.set_cons_zero, List.set_cons_succ, i64_w, i32_w]
                                        rfl
                                      refine take_ (i := 7) (N := some 85) (v := ?_) (a' := ?_) #[true, true, true, true, true, true, true, true, false] rfl rfl (take_ofW HT_.out HW_.out (by kernel_rfl)) (fun _ _ _ h => h) (Or.inl ⟨by rfl, ?_⟩) hHeld ?_ ?_
                                      rotate_left
                                      · rintro w' ⟨s0, s1⟩
                                        go_simp
                                        with_reducible rfl
                                      rotate_left
                                      · simp only [Act.put, List.setIfInBounds_toArray, List.set_cons_zero, List.set_cons_succ, i64_w, i32_w]
                                        rfl
                                      refine pure_ (i := 8) (N := some 86) (v := ?_) (a' := ?_) #[true, true, true, true, true, true, true, true, true] rfl rfl (any_of HT_.out (by kernel_rfl)) (fun _ _ _ h => h) (Or.inl ⟨by rfl, ?_⟩) ?_ ?_
                                      rotate_left
                                      · intro w'
                                        go_simp
                                        with_reducible rfl
                                      rotate_left
                                      · simp only [Act.put, List.setIfInBounds_toArray, List.set_cons_zero, List.set_cons_succ, i64_w, i32_w]
                                        rfl
                                      refine done_ (done_of HT_.out (by kernel_rfl)) ?_
                                      try go_wp2
                                      go_roundg k3
                                      case measure => have := HJ6.out; have := HJ15.out; have := HK3.out; omega
                                      case rel => exact ⟨(wrap64 (x75_3 + 1)), (by first | rfl | (simp; done) | (simp [*]; done)), H', ⟨by have := HJ6.out; have := HJ15.out; have := HK3.out; omega⟩, ⟨by (with_reducible repeat (first | apply Kd.R_alloc | apply Kd.R_drewN | apply Kd.R_drew)); exact HO_9.out⟩, ⟨by (with_reducible repeat (first | apply Kd.R_alloc | apply Kd.R_drewN | apply Kd.R_drew)); exact HO_13.out⟩, ⟨by (with_reducible repeat (first | refine blk_drewN ?_ _ | refine blk_drew ?_ | refine blk_alloc ?_ _)); exact BK224.out⟩, ⟨by repeat (first | (with_reducible first | exact HB.out | apply below_alloc | apply pw_below_drewN | apply below_drew1 | refine below_set ?_ GE224.out) | exact HB.out)⟩⟩
                                  · rw [if_neg c44] at H
                                    exact absurd H (by simp)
                                · rw [if_neg c43] at H
                                  exact absurd H (by simp)
                              · rw [if_neg c42] at H
                                exact absurd H (by simp)
                            · rw [if_neg c41] at H
                              have c41b0 : decide (x75_3 < (t226.length : Int)) = false := decide_eq_false c41
                              clear c41
                              have HC50 := Aside0.mk H
                              clear H
                              go_upto_region 20 with (fail)
                              go_cut [101] (fun v101 wc => ∃ (kq : Nat) (x101_49 : Bool), v101 = .bool x101_49 ∧ Aside0 (jitneylaw07_DiffEdges.j3 kq a0 l1 a2 t226 x101_49 a3_0 a3_1 a3_2 = some r) ∧ Aside0 (kq ≤ k3) ∧ Aside0 (Kd.R (Kd.int .i64) 2 wc w.heap.size (fun _ => True) (.slice Ao40 t226.length co40) t226) ∧ Aside0 (wc.heap[gb224]? = some (.cells #[.int .i64 a3_0, .int .i64 a3_1, .int .i64 a3_2] 42 (0, 0))) ∧ Aside0 (Below w.heap.size w wc))
                              case first =>
                                have H := HC50.out
                                clear HC50
                                by_cases c51 : 0 ≤ a3_0
                                · rw [if_pos c51] at H
                                  have c51b0 : decide (0 ≤ a3_0) = true := decide_eq_true c51
                                  clear c51
                                  (first | rw [c51b0] | (simp only [i64_w, i32_w]; rw [c51b0]) | skip)
                                  by_cases c52 : a3_0 < (t226.length : Int)
                                  · rw [if_pos c52] at H
                                    have c52b0 : decide (a3_0 < (t226.length : Int)) = true := decide_eq_true c52
                                    clear c52
                                    by_cases c53 : (rd t226 a3_0) = 1152921504606846976
                                    · rw [if_pos c53] at H
                                      have c53b0 : ((rd t226 a3_0) == 1152921504606846976) = true := beq_iff_eq.mpr c53
                                      have c53b1 : ((rd t226 a3_0) != 1152921504606846976) = false := bne_eq_false_iff_eq.mpr c53
                                      clear c53
                                      have H' := Aside0.mk H
                                      clear H
                                      have hcz54_0 : wr.cell? ⟨gb224, 0, none⟩ = some (.int .i64 a3_0) := (blk_cell BK224.out 0).trans rfl
                                      have hcz54_1 : wr.cell? ⟨gb224, 1, none⟩ = some (.int .i64 a3_1) := (blk_cell BK224.out 1).trans rfl
                                      have hcz54_2 : wr.cell? ⟨gb224, 2, none⟩ = some (.int .i64 a3_2) := (blk_cell BK224.out 2).trans rfl
                                      have hfz54_0 := blk_frozen BK224.out 0
                                      have hfz54_1 := blk_frozen BK224.out 1
                                      have hfz54_2 := blk_frozen BK224.out 2
                                      have p254 : 0 ≤ (a3_0 : Int) := of_decide_eq_true (by first | (with_reducible assumption) | assumption)
                                      have q254 : a3_0 < (t226.length : Int) := of_decide_eq_true (by first | (with_reducible assumption) | assumption)
                                      obtain ⟨ad254, e254, hx254_0⟩ := Kd.at_int (Kd.R_reads' HO_9.out).2.2 a3_0 p254 q254
                                      cases e254
                                      replace p254 := eq_true p254
                                      replace q254 := eq_true q254
                                      go_wp2
                                      go_meet
                                      case rel => exact ⟨_, (true), (by first | rfl | (simp; done) | (simp [*]; done)), H', ⟨by have := HJ6.out; have := HJ15.out; have := HK3.out; first | omega | exact Nat.le_refl _⟩, ⟨by (with_reducible repeat (first | apply Kd.R_alloc | apply Kd.R_drewN | apply Kd.R_drew)); exact Kd.R_mono HO_9.out (fun _ hk => trivial)⟩, ⟨by (with_reducible repeat (first | refine blk_drewN ?_ _ | refine blk_drew ?_ | refine blk_alloc ?_ _)); exact BK224.out⟩, ⟨by repeat (first | (with_reducible first | exact HB.out | apply below_alloc | apply pw_below_drewN | apply below_drew1 | refine below_set ?_ GE224.out) | exact HB.out)⟩⟩
                                    · rw [if_neg c53] at H
                                      have c53b0 : ((rd t226 a3_0) == 1152921504606846976) = false := beq_eq_false_iff_ne.mpr c53
                                      have c53b1 : ((rd t226 a3_0) != 1152921504606846976) = true := bne_iff_ne.mpr c53
                                      by_cases c55 : 0 ≤ a3_1
                                      · rw [if_pos c55] at H
                                        have c55b0 : decide (0 ≤ a3_1) = true := decide_eq_true c55
                                        clear c55
                                        by_cases c56 : a3_1 < (t226.length : Int)
                                        · rw [if_pos c56] at H
                                          have c56b0 : decide (a3_1 < (t226.length : Int)) = true := decide_eq_true c56
                                          clear c56
                                          have H' := Aside0.mk H
                                          clear H
                                          have hcz57_0 : wr.cell? ⟨gb224, 0, none⟩ = some (.int .i64 a3_0) := (blk_cell BK224.out 0).trans rfl
                                          have hcz57_1 : wr.cell? ⟨gb224, 1, none⟩ = some (.int .i64 a3_1) := (blk_cell BK224.out 1).trans rfl
                                          have hcz57_2 : wr.cell? ⟨gb224, 2, none⟩ = some (.int .i64 a3_2) := (blk_cell BK224.out 2).trans rfl
                                          have hfz57_0 := blk_frozen BK224.out 0
                                          have hfz57_1 := blk_frozen BK224.out 1
                                          have hfz57_2 := blk_frozen BK224.out 2
                                          have p254 : 0 ≤ (a3_0 : Int) := of_decide_eq_true (by first | (with_reducible assumption) | assumption)
                                          have q254 : a3_0 < (t226.length : Int) := of_decide_eq_true (by first | (with_reducible assumption) | assumption)
                                          obtain ⟨ad254, e254, hx254_0⟩ := Kd.at_int (Kd.R_reads' HO_9.out).2.2 a3_0 p254 q254
                                          cases e254
                                          replace p254 := eq_true p254
                                          replace q254 := eq_true q254
                                          have p255 : 0 ≤ (a3_1 : Int) := of_decide_eq_true (by first | (with_reducible assumption) | assumption)
                                          have q255 : a3_1 < (t226.length : Int) := of_decide_eq_true (by first | (with_reducible assumption) | assumption)
                                          obtain ⟨ad255, e255, hx255_0⟩ := Kd.at_int (Kd.R_reads' HO_9.out).2.2 a3_1 p255 q255
                                          obtain rfl : ad254 = ad255 := (by injection e255)
                                          replace p255 := eq_true p255
                                          replace q255 := eq_true q255
                                          go_wp2
                                          go_meet
                                          case rel => exact ⟨_, (((rd t226 a3_1) == 1152921504606846976)), (by first | rfl | (simp; done) | (simp [*]; done)), H', ⟨by have := HJ6.out; have := HJ15.out; have := HK3.out; first | omega | exact Nat.le_refl _⟩, ⟨by (with_reducible repeat (first | apply Kd.R_alloc | apply Kd.R_drewN | apply Kd.R_drew)); exact Kd.R_mono HO_9.out (fun _ hk => trivial)⟩, ⟨by (with_reducible repeat (first | refine blk_drewN ?_ _ | refine blk_drew ?_ | refine blk_alloc ?_ _)); exact BK224.out⟩, ⟨by repeat (first | (with_reducible first | exact HB.out | apply below_alloc | apply pw_below_drewN | apply below_drew1 | refine below_set ?_ GE224.out) | exact HB.out)⟩⟩
                                        · rw [if_neg c56] at H
                                          exact absurd H (by simp)
                                      · rw [if_neg c55] at H
                                        exact absurd H (by simp)
                                  · rw [if_neg c52] at H
                                    exact absurd H (by simp)
                                · rw [if_neg c51] at H
                                  exact absurd H (by simp)
                              case rest =>
                                clear HC50
                                try clear c1
                                try clear c2
                                try clear p2
                                try clear q2
                                try clear hx2
                                try clear c3
                                try clear c4
                                try clear c5
                                try clear c6
                                try clear p6
                                try clear c8
                                try clear c9
                                try clear c10
                                try clear c10b0
                                try clear c11
                                try clear c13
                                try clear c14
                                try clear p25
                                try clear q25
                                try clear hx25
                                try clear c29
                                try clear c29b0
                                try clear c29b1
                                try clear c30
                                try clear c31
                                try clear c31b0
                                try clear c31b1
                                try clear c32
                                try clear c32b0
                                try clear c32b1
                                try clear c35
                                try clear c35b0
                                try clear c35b1
                                try clear c41
                                try clear c41b0
                                try clear c42
                                try clear c42b0
                                try clear c43
                                try clear c43b0
                                try clear c44
                                try clear c44b0
                                try clear c45
                                try clear c45b0
                                try clear c51
                                try clear c51b0
                                try clear c52
                                try clear c52b0
                                try clear c53
                                try clear c53b0
                                try clear c53b1
                                try clear c55
                                try clear c55b0
                                try clear c56
                                try clear c56b0
                                try clear hcz54_0
                                try clear hcz54_1
                                try clear hcz54_2
                                try clear hcz57_0
                                try clear hcz57_1
                                try clear hcz57_2
                                try clear hfz54_0
                                try clear hfz54_1
                                try clear hfz54_2
                                try clear hfz57_0
                                try clear hfz57_1
                                try clear hfz57_2
                                try clear hx252_0
                                try clear hx253_0
                                try clear hx254_0
                                try clear hx255_0
                                try clear p2
                                try clear p252
                                try clear p253
                                try clear p254
                                try clear p255
                                try clear q252
                                try clear q253
                                try clear q254
                                try clear q255
                                obtain ⟨kq, x101_49, rfl, HA, HJ49, HO_9, BK224, HB⟩ := hcut
                                cases kq with
                                | zero => exact absurd HA.out (by simp [jitneylaw07_DiffEdges.j3])
                                | succ kj49 =>
                                  have H := HA.out
                                  clear HA
                                  simp only [jitneylaw07_DiffEdges.j3] at H
                                  by_cases c58 : x101_49 = true
                                  · subst c58
                                    have H1 : (some true) = some r := by rw [if_pos rfl] at H; exact H
                                    clear H
                                    have H := H1
                                    clear H1
                                    obtain rfl := Option.some.inj H
                                    go_wp2
                                    go_ret
                                    exact ⟨by first | rfl | (simp [errW_none, errW_some] <;> rfl) | (simp [*, errW_none, errW_some] <;> rfl), by repeat (first | (with_reducible first | exact HB.out | apply below_alloc | apply pw_below_drewN | apply below_drew1 | refine below_set ?_ GE224.out) | exact HB.out)⟩
                                  · replace c58 := Bool.eq_false_iff.mpr c58
                                    subst c58
                                    have H1 : (if 0 ≤ a3_1 then (if a3_1 < (t226.length : Int) then (if 0 ≤ a3_0 then (if a3_0 < (t226.length : Int) then (if (mx (wrap64 ((rd t226 a3_1) - (rd t226 a3_0))) 0) > 2199023255552 then (some true) else ((some (([] : List (S42)) : List (S42))).bind fun y258 => (if y258.length + l1.length < 5864062014805 then ((some (y258 ++ l1 : List (S42))).bind fun y261 => ((some (([(⟨a3_0, a3_1, mx (wrap64 ((rd t226 a3_1) - (rd t226 a3_0))) 0⟩ : S42)] : List (S42)) : List (S42))).bind fun y264 => (if y261.length + y264.length < 5864062014805 then ((diff_Solve.f a0 (y261 ++ y264) a2).bind fun bt270 => ((jitneyref01_SameLongs.f kj49 bt270.1 t226).bind fun t277 => (some t277))) else (none)))) else (none)))) else (none)) else (none)) else (none)) else (none)) = some r := by rw [if_neg (show ¬ (false = true) by decide)] at H; exact H
                                    clear H
                                    have H := H1
                                    clear H1
                                    by_cases c59 : 0 ≤ a3_1
                                    · rw [if_pos c59] at H
                                      have c59b0 : decide (0 ≤ a3_1) = true := decide_eq_true c59
                                      clear c59
                                      by_cases c60 : a3_1 < (t226.length : Int)
                                      · rw [if_pos c60] at H
                                        have c60b0 : decide (a3_1 < (t226.length : Int)) = true := decide_eq_true c60
                                        clear c60
                                        by_cases c61 : 0 ≤ a3_0
                                        · rw [if_pos c61] at H
                                          have c61b0 : decide (0 ≤ a3_0) = true := decide_eq_true c61
                                          clear c61
                                          by_cases c62 : a3_0 < (t226.length : Int)
                                          · rw [if_pos c62] at H
                                            have c62b0 : decide (a3_0 < (t226.length : Int)) = true := decide_eq_true c62
                                            clear c62
                                            obtain ⟨ji63, hji63⟩ : ∃ j_ : Int, (mx (wrap64 ((rd t226 a3_1) - (rd t226 a3_0))) 0) = j_ := ⟨_, rfl⟩
                                            replace H : (if (ji63) > 2199023255552 then (some true) else ((some (([] : List (S42)) : List (S42))).bind fun y258 => (if y258.length + l1.length < 5864062014805 then ((some (y258 ++ l1 : List (S42))).bind fun y261 => ((some (([(⟨a3_0, a3_1, ji63⟩ : S42)] : List (S42)) : List (S42))).bind fun y264 => (if y261.length + y264.length < 5864062014805 then ((diff_Solve.f a0 (y261 ++ y264) a2).bind fun bt270 => ((jitneyref01_SameLongs.f kj49 bt270.1 t226).bind fun t277 => (some t277))) else (none)))) else (none)))) = some r := by first | (rw [hji63] at H; exact H) | (simp only [hji63] at H ⊢; exact H)
                                            have hji63_ : (if (wrap64 ((rd t226 a3_1) - (rd t226 a3_0))) < 0 then 0 else (wrap64 ((rd t226 a3_1) - (rd t226 a3_0)))) = ji63 := hji63
                                            by_cases c64 : (ji63) > 2199023255552
                                            · rw [if_pos c64] at H
                                              have c64b0 : decide (2199023255552 < (ji63)) = true := decide_eq_true c64
                                              clear c64
                                              obtain rfl := Option.some.inj H
                                              try go_wp2
                                              have n0_ := Aside0.mk (Kd.R_drew HO_9.out)
                                              have n1_ := Aside0.mk (blk_drew BK224.out)
                                              have n2_ := Aside0.mk (below_drew1 HB.out)
                                              clear HO_9
                                              clear BK224
                                              clear HB
                                              have HO_9 := n0_
                                              have BK224 := n1_
                                              have HB := n2_
                                              clear n0_ n1_ n2_
                                              have p256 : 0 ≤ (a3_1 : Int) := of_decide_eq_true (by first | (with_reducible assumption) | assumption)
                                              have q256 : a3_1 < (t226.length : Int) := of_decide_eq_true (by first | (with_reducible assumption) | assumption)
                                              obtain ⟨ad256, e256, hx256_0⟩ := Kd.at_int (Kd.R_reads' HO_9.out).2.2 a3_1 p256 q256
                                              cases e256
                                              replace p256 := eq_true p256
                                              replace q256 := eq_true q256
                                              have p257 : 0 ≤ (a3_0 : Int) := of_decide_eq_true (by first | (with_reducible assumption) | assumption)
                                              have q257 : a3_0 < (t226.length : Int) := of_decide_eq_true (by first | (with_reducible assumption) | assumption)
                                              obtain ⟨ad257, e257, hx257_0⟩ := Kd.at_int (Kd.R_reads' HO_9.out).2.2 a3_0 p257 q257
                                              obtain rfl : ad256 = ad257 := (by injection e257)
                                              replace p257 := eq_true p257
                                              replace q257 := eq_true q257
                                              refine start_ (n := 13) (S := fun w' => w'.cell? ⟨gb224, 0, none⟩ = some (.int .i64 a3_0) ∧ w'.cell? ⟨gb224, 1, none⟩ = some (.int .i64 a3_1) ∧ w'.cell? ⟨gb224, 2, none⟩ = some (.int .i64 a3_2) ∧ w'.cell? (ad256.add (a3_1).toNat) = some (.int .i64 (rd t226 a3_1)) ∧ w'.cell? (ad256.add (a3_0).toNat) = some (.int .i64 (rd t226 a3_0))) (ds := []) #[false, false, false, false, false, false, false, false, false, false, false, false, false] (by kernel_rfl) rfl rfl ⟨(blk_cell BK224.out 0).trans rfl, (blk_cell BK224.out 1).trans rfl, (blk_cell BK224.out 2).trans rfl, hx256_0, hx257_0⟩ (fun hHeld => ?_); refine with_tabW jitneylaw07_DiffEdges.tab22 jitneylaw07_DiffEdges.bits22 (fun HT_ HW_ => ?_)
                                              generalize wc.drew = w65 at HO_9 BK224 HB hx256_0 hx257_0 hHeld ⊢
                                              refine pure_ (i := 0) (N := some 102) (v := ?_) (a' := ?_) #[true, false, false, false, false, false, false, false, false, false, false, false, false] rfl rfl (any_of HT_.out (by kernel_rfl)) (fun _ _ _ h => h) (Or.inl ⟨by rfl, ?_⟩) ?_ ?_
                                              rotate_left
                                              · intro w'
                                                go_simp
                                                with_reducible rfl
                                              rotate_left
                                              · simp only [Act.put, List.setIfInBounds_toArray, List.set_cons_zero, List.set_cons_succ, i64_w, i32_w]
                                                rfl
                                              refine pure_ (i := 1) (N := some 103) (v := ?_) (a' := ?_) #[true, true, false, false, false, false, false, false, false, false, false, false, false] rfl rfl (any_of HT_.out (by kernel_rfl)) (fun _ _ _ h => h) (Or.inl ⟨by rfl, ?_⟩) ?_ ?_
                                              rotate_left
                                              · intro w'
                                                go_simp
                                                with_reducible rfl
                                              rotate_left
                                              · simp only [Act.put, List.setIfInBounds_toArray, List.set_cons_zero, List.set_cons_succ, i64_w, i32_w]
                                                rfl
                                              refine pure_ (i := 5) (N := some 107) (v := ?_) (a' := ?_) #[true, true, false, false, false, true, false, false, false, false, false, false, false] rfl rfl (any_of HT_.out (by kernel_rfl)) (fun _ _ _ h => h) (Or.inl ⟨by rfl, ?_⟩) ?_ ?_
                                              rotate_left
                                              · intro w'
                                                go_simp
                                                with_reducible rfl
                                              rotate_left
                                              · simp only [Act.put, List.setIfInBounds_toArray, List.set_cons_zero, List.set_cons_succ, i64_w, i32_w]
                                                rfl
                                              refine pure_ (i := 6) (N := some 108) (v := ?_) (a' := ?_) #[true, true, false, false, false, true, true, false, false, false, false, false, false] rfl rfl (any_of HT_.out (by kernel_rfl)) (fun _ _ _ h => h) (Or.inl ⟨by rfl, ?_⟩) ?_ ?_
                                              rotate_left
                                              · intro w'
                                                go_simp
                                                with_reducible rfl
                                              rotate_left
                                              · simp only [Act.put, List.setIfInBounds_toArray, List.set_cons_zero, List.set_cons_succ, i64_w, i32_w]
                                                rfl
                                              refine take_ (i := 2) (N := some 104) (v := ?_) (a' := ?_) #[true, true, true, false, false, true, true, false, false, false, false, false, false] rfl rfl (take_ofW HT_.out HW_.out (by kernel_rfl)) (fun _ _ _ h => h) (Or.inl ⟨by rfl, ?_⟩) hHeld ?_ ?_
                                              rotate_left
                                              · rintro w' ⟨s0, s1, s2, s3, s4⟩
                                                go_simp
                                                with_reducible rfl
                                              rotate_left
                                              · simp only [Act.put, List.setIfInBounds_toArray, List.set_cons_zero, List.set_cons_succ, i64_w, i32_w]
                                                rfl
                                              refine pure_ (i := 3) (N := some 105) (v := ?_) (a' := ?_) #[true, true, true, true, false, true, true, false, false, false, false, false, false] rfl rfl (any_of HT_.out (by kernel_rfl)) (fun _ _ _ h => h) (Or.inl ⟨by rfl, ?_⟩) ?_ ?_
                                              rotate_left
                                              · intro w'
                                                go_simp
                                                with_reducible rfl
                                              rotate_left
                                              · simp only [Act.put, List.setIfInBounds_toArray, List.set_cons_zero, List.set_cons_succ, i64_w, i32_w]
                                                rfl
                                              refine take_ (i := 4) (N := some 106) (v := ?_) (a' := ?_) #[true, true, true, true, true, true, true, false, false, false, false, false, false] rfl rfl (take_ofW HT_.out HW_.out (by kernel_rfl)) (fun _ _ _ h => h) (Or.inl ⟨by rfl, ?_⟩) hHeld ?_ ?_
                                              rotate_left
                                              · rintro w' ⟨s0, s1, s2, s3, s4⟩
                                                go_simp
                                                with_reducible rfl
                                              rotate_left
                                              · simp only [Act.put, List.setIfInBounds_toArray, List.set_cons_zero, List.set_cons_succ, i64_w, i32_w]
                                                rfl
                                              refine take_ (i := 7) (N := some 109) (v := ?_) (a' := ?_) #[true, true, true, true, true, true, true, true, false, false, false, false, false] rfl rfl (take_ofW HT_.out HW_.out (by kernel_rfl)) (fun _ _ _ h => h) (Or.inl ⟨by rfl, ?_⟩) hHeld ?_ ?_
                                              rotate_left
                                              · rintro w' ⟨s0, s1, s2, s3, s4⟩
                                                go_simp
                                                with_reducible rfl
                                              rotate_left
                                              · simp only [Act.put, List.setIfInBounds_toArray, List.set_cons_zero, List.set_cons_succ, i64_w, i32_w]
                                                rfl
                                              refine pure_ (i := 8) (N := some 110) (v := ?_) (a' := ?_) #[true, true, true, true, true, true, true, true, true, false, false, false, false] rfl rfl (any_of HT_.out (by kernel_rfl)) (fun _ _ _ h => h) (Or.inl ⟨by rfl, ?_⟩) ?_ ?_
                                              rotate_left
                                              · intro w'
                                                go_simp
                                                with_reducible rfl
                                              rotate_left
                                              · simp only [Act.put, List.setIfInBounds_toArray, List.set_cons_zero, List.set_cons_succ, i64_w, i32_w]
                                                rfl
                                              refine take_ (i := 9) (N := some 111) (v := ?_) (a' := ?_) #[true, true, true, true, true, true, true, true, true, true, false, false, false] rfl rfl (take_ofW HT_.out HW_.out (by kernel_rfl)) (fun _ _ _ h => h) (Or.inl ⟨by rfl, ?_⟩) hHeld ?_ ?_
                                              rotate_left
                                              · rintro w' ⟨s0, s1, s2, s3, s4⟩
                                                go_simp
                                                with_reducible rfl
                                              rotate_left
                                              · simp only [Act.put, List.setIfInBounds_toArray, List.set_cons_zero, List.set_cons_succ, i64_w, i32_w]
                                                rfl
                                              refine pure_ (i := 10) (N := some 112) (v := ?_) (a' := ?_) #[true, true, true, true, true, true, true, true, true, true, true, false, false] rfl rfl (any_of HT_.out (by kernel_rfl)) (fun _ _ _ h => h) (Or.inl ⟨by rfl, ?_⟩) ?_ ?_
                                              rotate_left
                                              · intro w'
                                                go_simp
                                                with_reducible rfl
                                              rotate_left
                                              · simp only [Act.put, List.setIfInBounds_toArray, List.set_cons_zero, List.set_cons_succ, i64_w, i32_w]
                                                rfl
                                              refine pure_ (i := 11) (N := some 113) (v := ?_) (a' := ?_) #[true, true, true, true, true, true, true, true, true, true, true, true, false] rfl rfl (any_of HT_.out (by kernel_rfl)) (fun _ _ _ h => h) (Or.inl ⟨by rfl, ?_⟩) ?_ ?_
                                              rotate_left
                                              · intro w'
                                                go_simp
                                                with_reducible rfl
                                              rotate_left
                                              · simp only [Act.put, List.setIfInBounds_toArray, List.set_cons_zero, List.set_cons_succ, i64_w, i32_w]
                                                rfl
                                              refine pure_ (i := 12) (N := some 17) (v := ?_) (a' := ?_) #[true, true, true, true, true, true, true, true, true, true, true, true, true] rfl rfl (any_of HT_.out (by kernel_rfl)) (fun _ _ _ h => h) (Or.inl ⟨by rfl, ?_⟩) ?_ ?_
                                              rotate_left
                                              · intro w'
                                                go_simp
                                                with_reducible rfl
                                              rotate_left
                                              · simp only [Act.put, List.setIfInBounds_toArray, List.set_cons_zero, List.set_cons_succ, i64_w, i32_w]
                                                rfl
                                              refine done_ (done_of HT_.out (by kernel_rfl)) ?_
                                              try go_wp2
                                              go_ret
                                              exact ⟨by first | rfl | (simp [errW_none, errW_some] <;> rfl) | (simp only [← hji63]; first | rfl | (simp [errW_none, errW_some] <;> rfl)) | (simp [*, errW_none, errW_some] <;> rfl), by repeat (first | (with_reducible first | exact HB.out | apply below_alloc | apply pw_below_drewN | apply below_drew1 | refine below_set ?_ GE224.out) | exact HB.out)⟩
                                            · rw [if_neg c64] at H
                                              have c64b0 : decide (2199023255552 < (ji63)) = false := decide_eq_false c64
                                              clear c64
                                              obtain ⟨y258, hy258⟩ : ∃ y_ : List (S42), y_ = (([] : List (S42))) := ⟨_, rfl⟩
                                              replace H : (if y258.length + l1.length < 5864062014805 then ((some (y258 ++ l1 : List (S42))).bind fun y261 => ((some (([(⟨a3_0, a3_1, ji63⟩ : S42)] : List (S42)) : List (S42))).bind fun y264 => (if y261.length + y264.length < 5864062014805 then ((diff_Solve.f a0 (y261 ++ y264) a2).bind fun bt270 => ((jitneyref01_SameLongs.f kj49 bt270.1 t226).bind fun t277 => (some t277))) else (none)))) else (none)) = some r := by first | (rw [hy258]; with_reducible exact H) | (have H2_ := (Option.bind_some _ _).symm.trans H; rw [hy258]; with_reducible exact H2_) | (have H2_ := (Option.bind_some _ _).symm.trans H; with_reducible exact H2_) | with_reducible exact H | (rw [hy258]; exact H) | exact H
                                              have Ny258 := Aside0.mk hy258
                                              clear hy258
                                              by_cases c66 : y258.length + l1.length < 5864062014805
                                              · rw [if_pos c66] at H
                                                have LMc66 := Aside0.mk c66
                                                clear c66
                                                obtain ⟨y261, hy261⟩ : ∃ y_ : List (S42), y_ = (y258 ++ l1) := ⟨_, rfl⟩
                                                replace H : ((some (([(⟨a3_0, a3_1, ji63⟩ : S42)] : List (S42)) : List (S42))).bind fun y264 => (if y261.length + y264.length < 5864062014805 then ((diff_Solve.f a0 (y261 ++ y264) a2).bind fun bt270 => ((jitneyref01_SameLongs.f kj49 bt270.1 t226).bind fun t277 => (some t277))) else (none))) = some r := by first | (rw [hy261]; with_reducible exact H) | (have H2_ := (Option.bind_some _ _).symm.trans H; rw [hy261]; with_reducible exact H2_) | (have H2_ := (Option.bind_some _ _).symm.trans H; with_reducible exact H2_) | with_reducible exact H | (rw [hy261]; exact H) | exact H
                                                have Ny261 := Aside0.mk hy261
                                                clear hy261
                                                obtain ⟨y264, hy264⟩ : ∃ y_ : List (S42), y_ = (([(⟨a3_0, a3_1, ji63⟩ : S42)] : List (S42))) := ⟨_, rfl⟩
                                                replace H : (if y261.length + y264.length < 5864062014805 then ((diff_Solve.f a0 (y261 ++ y264) a2).bind fun bt270 => ((jitneyref01_SameLongs.f kj49 bt270.1 t226).bind fun t277 => (some t277))) else (none)) = some r := by first | (rw [hy264]; with_reducible exact H) | (have H2_ := (Option.bind_some _ _).symm.trans H; rw [hy264]; with_reducible exact H2_) | (have H2_ := (Option.bind_some _ _).symm.trans H; with_reducible exact H2_) | with_reducible exact H | (rw [hy264]; exact H) | exact H
                                                have Ny264 := Aside0.mk hy264
                                                clear hy264
                                                by_cases c67 : y261.length + y264.length < 5864062014805
                                                · rw [if_pos c67] at H
                                                  have LMc67 := Aside0.mk c67
                                                  clear c67
                                                  obtain ⟨y267, hy267⟩ : ∃ y_ : List (S42), y_ = (y261 ++ y264) := ⟨_, rfl⟩
                                                  replace H : ((diff_Solve.f a0 y267 a2).bind fun bt270 => ((jitneyref01_SameLongs.f kj49 bt270.1 t226).bind fun t277 => (some t277))) = some r := by first | (rw [hy267]; with_reducible exact H) | (have H2_ := (Option.bind_some _ _).symm.trans H; rw [hy267]; with_reducible exact H2_) | (have H2_ := (Option.bind_some _ _).symm.trans H; with_reducible exact H2_) | with_reducible exact H | (rw [hy267]; exact H) | exact H
                                                  have Ny267 := Aside0.mk hy267
                                                  clear hy267
                                                  replace H := Option.bind_eq_some_iff.mp H
                                                  obtain ⟨⟨t270, t271, t272⟩, A680, H⟩ := H
                                                  replace H : ((jitneyref01_SameLongs.f kj49 t270 t226).bind fun t277 => (some t277)) = some r := H
                                                  have A68 := Aside0.mk A680
                                                  clear A680
                                                  replace H := Option.bind_eq_some_iff.mp H
                                                  obtain ⟨t277, A690, H⟩ := H
                                                  replace H : (some t277) = some r := H
                                                  have A69 := Aside0.mk A690
                                                  clear A690
                                                  obtain rfl := Option.some.inj H
                                                  try go_wp2
                                                  have n0_ := Aside0.mk (Kd.R_drew HO_9.out)
                                                  have n1_ := Aside0.mk (blk_drew BK224.out)
                                                  have n2_ := Aside0.mk (below_drew1 HB.out)
                                                  clear HO_9
                                                  clear BK224
                                                  clear HB
                                                  have HO_9 := n0_
                                                  have BK224 := n1_
                                                  have HB := n2_
                                                  clear n0_ n1_ n2_
                                                  have p256 : 0 ≤ (a3_1 : Int) := of_decide_eq_true (by first | (with_reducible assumption) | assumption)
                                                  have q256 : a3_1 < (t226.length : Int) := of_decide_eq_true (by first | (with_reducible assumption) | assumption)
                                                  obtain ⟨ad256, e256, hx256_0⟩ := Kd.at_int (Kd.R_reads' HO_9.out).2.2 a3_1 p256 q256
                                                  cases e256
                                                  replace p256 := eq_true p256
                                                  replace q256 := eq_true q256
                                                  have p257 : 0 ≤ (a3_0 : Int) := of_decide_eq_true (by first | (with_reducible assumption) | assumption)
                                                  have q257 : a3_0 < (t226.length : Int) := of_decide_eq_true (by first | (with_reducible assumption) | assumption)
                                                  obtain ⟨ad257, e257, hx257_0⟩ := Kd.at_int (Kd.R_reads' HO_9.out).2.2 a3_0 p257 q257
                                                  obtain rfl : ad256 = ad257 := (by injection e257)
                                                  replace p257 := eq_true p257
                                                  replace q257 := eq_true q257
                                                  refine start_ (n := 13) (S := fun w' => w'.cell? ⟨gb224, 0, none⟩ = some (.int .i64 a3_0) ∧ w'.cell? ⟨gb224, 1, none⟩ = some (.int .i64 a3_1) ∧ w'.cell? ⟨gb224, 2, none⟩ = some (.int .i64 a3_2) ∧ w'.cell? (ad256.add (a3_1).toNat) = some (.int .i64 (rd t226 a3_1)) ∧ w'.cell? (ad256.add (a3_0).toNat) = some (.int .i64 (rd t226 a3_0))) (ds := []) #[false, false, false, false, false, false, false, false, false, false, false, false, false] (by kernel_rfl) rfl rfl ⟨(blk_cell BK224.out 0).trans rfl, (blk_cell BK224.out 1).trans rfl, (blk_cell BK224.out 2).trans rfl, hx256_0, hx257_0⟩ (fun hHeld => ?_); refine with_tabW jitneylaw07_DiffEdges.tab22 jitneylaw07_DiffEdges.bits22 (fun HT_ HW_ => ?_)
                                                  generalize wc.drew = w70 at HO_9 BK224 HB hx256_0 hx257_0 hHeld ⊢
                                                  refine pure_ (i := 0) (N := some 102) (v := ?_) (a' := ?_) #[true, false, false, false, false, false, false, false, false, false, false, false, false] rfl rfl (any_of HT_.out (by kernel_rfl)) (fun _ _ _ h => h) (Or.inl ⟨by rfl, ?_⟩) ?_ ?_
                                                  rotate_left
                                                  · intro w'
                                                    go_simp
                                                    with_reducible rfl
                                                  rotate_left
                                                  · simp only [Act.put, List.setIfInBounds_toArray, List.set_cons_zero, List.set_cons_succ, i64_w, i32_w]
                                                    rfl
                                                  refine pure_ (i := 1) (N := some 103) (v := ?_) (a' := ?_) #[true, true, false, false, false, false, false, false, false, false, false, false, false] rfl rfl (any_of HT_.out (by kernel_rfl)) (fun _ _ _ h => h) (Or.inl ⟨by rfl, ?_⟩) ?_ ?_
                                                  rotate_left
                                                  · intro w'
                                                    go_simp
                                                    with_reducible rfl
                                                  rotate_left
                                                  · simp only [Act.put, List.setIfInBounds_toArray, List.set_cons_zero, List.set_cons_succ, i64_w, i32_w]
                                                    rfl
                                                  refine pure_ (i := 5) (N := some 107) (v := ?_) (a' := ?_) #[true, true, false, false, false, true, false, false, false, false, false, false, false] rfl rfl (any_of HT_.out (by kernel_rfl)) (fun _ _ _ h => h) (Or.inl ⟨by rfl, ?_⟩) ?_ ?_
                                                  rotate_left
                                                  · intro w'
                                                    go_simp
                                                    with_reducible rfl
                                                  rotate_left
                                                  · simp only [Act.put, List.setIfInBounds_toArray, List.set_cons_zero, List.set_cons_succ, i64_w, i32_w]
                                                    rfl
                                                  refine pure_ (i := 6) (N := some 108) (v := ?_) (a' := ?_) #[true, true, false, false, false, true, true, false, false, false, false, false, false] rfl rfl (any_of HT_.out (by kernel_rfl)) (fun _ _ _ h => h) (Or.inl ⟨by rfl, ?_⟩) ?_ ?_
                                                  rotate_left
                                                  · intro w'
                                                    go_simp
                                                    with_reducible rfl
                                                  rotate_left
                                                  · simp only [Act.put, List.setIfInBounds_toArray, List.set_cons_zero, List.set_cons_succ, i64_w, i32_w]
                                                    rfl
                                                  refine take_ (i := 2) (N := some 104) (v := ?_) (a' := ?_) #[true, true, true, false, false, true, true, false, false, false, false, false, false] rfl rfl (take_ofW HT_.out HW_.out (by kernel_rfl)) (fun _ _ _ h => h) (Or.inl ⟨by rfl, ?_⟩) hHeld ?_ ?_
                                                  rotate_left
                                                  · rintro w' ⟨s0, s1, s2, s3, s4⟩
                                                    go_simp
                                                    with_reducible rfl
                                                  rotate_left
                                                  · simp only [Act.put, List.setIfInBounds_toArray, List.set_cons_zero, List.set_cons_succ, i64_w, i32_w]
                                                    rfl
                                                  refine pure_ (i := 3) (N := some 105) (v := ?_) (a' := ?_) #[true, true, true, true, false, true, true, false, false, false, false, false, false] rfl rfl (any_of HT_.out (by kernel_rfl)) (fun _ _ _ h => h) (Or.inl ⟨by rfl, ?_⟩) ?_ ?_
                                                  rotate_left
                                                  · intro w'
                                                    go_simp
                                                    with_reducible rfl
                                                  rotate_left
                                                  · simp only [Act.put, List.setIfInBounds_toArray, List.set_cons_zero, List.set_cons_succ, i64_w, i32_w]
                                                    rfl
                                                  refine take_ (i := 4) (N := some 106) (v := ?_) (a' := ?_) #[true, true, true, true, true, true, true, false, false, false, false, false, false] rfl rfl (take_ofW HT_.out HW_.out (by kernel_rfl)) (fun _ _ _ h => h) (Or.inl ⟨by rfl, ?_⟩) hHeld ?_ ?_
                                                  rotate_left
                                                  · rintro w' ⟨s0, s1, s2, s3, s4⟩
                                                    go_simp
                                                    with_reducible rfl
                                                  rotate_left
                                                  · simp only [Act.put, List.setIfInBounds_toArray, List.set_cons_zero, List.set_cons_succ, i64_w, i32_w]
                                                    rfl
                                                  refine take_ (i := 7) (N := some 109) (v := ?_) (a' := ?_) #[true, true, true, true, true, true, true, true, false, false, false, false, false] rfl rfl (take_ofW HT_.out HW_.out (by kernel_rfl)) (fun _ _ _ h => h) (Or.inl ⟨by rfl, ?_⟩) hHeld ?_ ?_
                                                  rotate_left
                                                  · rintro w' ⟨s0, s1, s2, s3, s4⟩
                                                    go_simp
                                                    with_reducible rfl
                                                  rotate_left
                                                  · simp only [Act.put, List.setIfInBounds_toArray, List.set_cons_zero, List.set_cons_succ, i64_w, i32_w]
                                                    rfl
                                                  refine pure_ (i := 8) (N := some 110) (v := ?_) (a' := ?_) #[true, true, true, true, true, true, true, true, true, false, false, false, false] rfl rfl (any_of HT_.out (by kernel_rfl)) (fun _ _ _ h => h) (Or.inl ⟨by rfl, ?_⟩) ?_ ?_
                                                  rotate_left
                                                  · intro w'
                                                    go_simp
                                                    with_reducible rfl
                                                  rotate_left
                                                  · simp only [Act.put, List.setIfInBounds_toArray, List.set_cons_zero, List.set_cons_succ, i64_w, i32_w]
                                                    rfl
                                                  refine take_ (i := 9) (N := some 111) (v := ?_) (a' := ?_) #[true, true, true, true, true, true, true, true, true, true, false, false, false] rfl rfl (take_ofW HT_.out HW_.out (by kernel_rfl)) (fun _ _ _ h => h) (Or.inl ⟨by rfl, ?_⟩) hHeld ?_ ?_
                                                  rotate_left
                                                  · rintro w' ⟨s0, s1, s2, s3, s4⟩
                                                    go_simp
                                                    with_reducible rfl
                                                  rotate_left
                                                  · simp only [Act.put, List.setIfInBounds_toArray, List.set_cons_zero, List.set_cons_succ, i64_w, i32_w]
                                                    rfl
                                                  refine pure_ (i := 10) (N := some 112) (v := ?_) (a' := ?_) #[true, true, true, true, true, true, true, true, true, true, true, false, false] rfl rfl (any_of HT_.out (by kernel_rfl)) (fun _ _ _ h => h) (Or.inl ⟨by rfl, ?_⟩) ?_ ?_
                                                  rotate_left
                                                  · intro w'
                                                    go_simp
                                                    with_reducible rfl
                                                  rotate_left
                                                  · simp only [Act.put, List.setIfInBounds_toArray, List.set_cons_zero, List.set_cons_succ, i64_w, i32_w]
                                                    rfl
                                                  refine pure_ (i := 11) (N := some 113) (v := ?_) (a' := ?_) #[true, true, true, true, true, true, true, true, true, true, true, true, false] rfl rfl (any_of HT_.out (by kernel_rfl)) (fun _ _ _ h => h) (Or.inl ⟨by rfl, ?_⟩) ?_ ?_
                                                  rotate_left
                                                  · intro w'
                                                    go_simp
                                                    with_reducible rfl
                                                  rotate_left
                                                  · simp only [Act.put, List.setIfInBounds_toArray, List.set_cons_zero, List.set_cons_succ, i64_w, i32_w]
                                                    rfl
                                                  refine pure_ (i := 12) (N := some 17) (v := ?_) (a' := ?_) #[true, true, true, true, true, true, true, true, true, true, true, true, true] rfl rfl (any_of HT_.out (by kernel_rfl)) (fun _ _ _ h => h) (Or.inl ⟨by rfl, ?_⟩) ?_ ?_
                                                  rotate_left
                                                  · intro w'
                                                    go_simp
                                                    with_reducible rfl
                                                  rotate_left
                                                  · simp only [Act.put, List.setIfInBounds_toArray, List.set_cons_zero, List.set_cons_succ, i64_w, i32_w]
                                                    rfl
                                                  refine done_ (done_of HT_.out (by kernel_rfl)) ?_
                                                  try go_wp2
                                                  have n0_ := Aside0.mk (Kd.R_drew HO_9.out)
                                                  have n1_ := Aside0.mk (blk_drew BK224.out)
                                                  have n2_ := Aside0.mk (below_drew1 HB.out)
                                                  clear HO_9
                                                  clear BK224
                                                  clear HB
                                                  have HO_9 := n0_
                                                  have BK224 := n1_
                                                  have HB := n2_
                                                  clear n0_ n1_ n2_
                                                  refine start_ (n := 21) (S := fun w' => w'.cell? ⟨gb224, 0, none⟩ = some (.int .i64 a3_0) ∧ w'.cell? ⟨gb224, 1, none⟩ = some (.int .i64 a3_1) ∧ w'.cell? ⟨gb224, 2, none⟩ = some (.int .i64 a3_2)) (ds := []) #[false, false, false, false, false, false, false, false, false, false, false, false, false, false, false, false, false, false, false, false, false] (by kernel_rfl) rfl rfl ⟨(blk_cell BK224.out 0).trans rfl, (blk_cell BK224.out 1).trans rfl, (blk_cell BK224.out 2).trans rfl⟩ (fun hHeld => ?_); refine with_tabW jitneylaw07_DiffEdges.tab25 jitneylaw07_DiffEdges.bits25 (fun HT_ HW_ => ?_)
                                                  generalize w70.drew = w71 at HO_9 BK224 HB hHeld ⊢
                                                  refine pure_ (i := 0) (N := some 117) (v := ?_) (a' := ?_) #[true, false, false, false, false, false, false, false, false, false, false, false, false, false, false, false, false, false, false, false, false] rfl rfl (any_of HT_.out (by kernel_rfl)) (fun _ _ _ h => h) (Or.inl ⟨by rfl, ?_⟩) ?_ ?_
                                                  rotate_left
                                                  · intro w'
                                                    go_simp
                                                    with_reducible rfl
                                                  rotate_left
                                                  · simp only [Act.put, List.setIfInBounds_toArray, List.set_cons_zero, List.set_cons_succ, i64_w, i32_w]
                                                    rfl
                                                  refine pure_ (i := 2) (N := some 119) (v := ?_) (a' := ?_) #[true, false, true, false, false, false, false, false, false, false, false, false, false, false, false, false, false, false, false, false, false] rfl rfl (any_of HT_.out (by kernel_rfl)) (fun _ _ _ h => h) (Or.inl ⟨by rfl, ?_⟩) ?_ ?_
                                                  rotate_left
                                                  · intro w'
                                                    go_simp
                                                    with_reducible rfl
                                                  rotate_left
                                                  · simp only [Act.put, List.setIfInBounds_toArray, List.set_cons_zero, List.set_cons_succ, i64_w, i32_w]
                                                    rfl
                                                  refine pure_ (i := 4) (N := some 121) (v := ?_) (a' := ?_) #[true, false, true, false, true, false, false, false, false, false, false, false, false, false, false, false, false, false, false, false, false] rfl rfl (any_of HT_.out (by kernel_rfl)) (fun _ _ _ h => h) (Or.inl ⟨by rfl, ?_⟩) ?_ ?_
                                                  rotate_left
                                                  · intro w'
                                                    go_simp
                                                    with_reducible rfl
                                                  rotate_left
                                                  · simp only [Act.put, List.setIfInBounds_toArray, List.set_cons_zero, List.set_cons_succ, i64_w, i32_w]
                                                    rfl
                                                  refine pure_ (i := 6) (N := some 123) (v := ?_) (a' := ?_) #[true, false, true, false, true, false, true, false, false, false, false, false, false, false, false, false, false, false, false, false, false] rfl rfl (any_of HT_.out (by kernel_rfl)) (fun _ _ _ h => h) (Or.inl ⟨by rfl, ?_⟩) ?_ ?_
                                                  rotate_left
                                                  · intro w'
                                                    go_simp
                                                    with_reducible rfl
                                                  rotate_left
                                                  · simp only [Act.put, List.setIfInBounds_toArray, List.set_cons_zero, List.set_cons_succ, i64_w, i32_w]
                                                    rfl
                                                  refine pure_ (i := 8) (N := some 125) (v := ?_) (a' := ?_) #[true, false, true, false, true, false, true, false, true, false, false, false, false, false, false, false, false, false, false, false, false] rfl rfl (any_of HT_.out (by kernel_rfl)) (fun _ _ _ h => h) (Or.inl ⟨by rfl, ?_⟩) ?_ ?_
                                                  rotate_left
                                                  · intro w'
                                                    go_simp
                                                    with_reducible rfl
                                                  rotate_left
                                                  · simp only [Act.put, List.setIfInBounds_toArray, List.set_cons_zero, List.set_cons_succ, i64_w, i32_w]
                                                    rfl
                                                  refine pure_ (i := 12) (N := some 129) (v := ?_) (a' := ?_) #[true, false, true, false, true, false, true, false, true, false, false, false, true, false, false, false, false, false, false, false, false] rfl rfl (any_of HT_.out (by kernel_rfl)) (fun _ _ _ h => h) (Or.inl ⟨by rfl, ?_⟩) ?_ ?_
                                                  rotate_left
                                                  · intro w'
                                                    go_simp
                                                    with_reducible rfl
                                                  rotate_left
                                                  · simp only [Act.put, List.setIfInBounds_toArray, List.set_cons_zero, List.set_cons_succ, i64_w, i32_w]
                                                    rfl
                                                  refine take_ (i := 5) (N := some 122) (v := ?_) (a' := ?_) #[true, false, true, false, true, true, true, false, true, false, false, false, true, false, false, false, false, false, false, false, false] rfl rfl (take_ofW HT_.out HW_.out (by kernel_rfl)) (fun _ _ _ h => h) (Or.inl ⟨by rfl, ?_⟩) hHeld ?_ ?_
                                                  rotate_left
                                                  · rintro w' ⟨s0, s1, s2⟩
                                                    go_simp
                                                    with_reducible rfl
                                                  rotate_left
                                                  · simp only [Act.put, List.setIfInBounds_toArray, List.set_cons_zero, List.set_cons_succ, i64_w, i32_w]
                                                    rfl
                                                  refine take_ (i := 7) (N := some 124) (v := ?_) (a' := ?_) #[true, false, true, false, true, true, true, true, true, false, false, false, true, false, false, false, false, false, false, false, false] rfl rfl (take_ofW HT_.out HW_.out (by kernel_rfl)) (fun _ _ _ h => h) (Or.inl ⟨by rfl, ?_⟩) hHeld ?_ ?_
                                                  rotate_left
                                                  · rintro w' ⟨s0, s1, s2⟩
                                                    go_simp
                                                    with_reducible rfl
                                                  rotate_left
                                                  · simp only [Act.put, List.setIfInBounds_toArray, List.set_cons_zero, List.set_cons_succ, i64_w, i32_w]
                                                    rfl
                                                  refine pure_ (i := 9) (N := some 126) (v := ?_) (a' := ?_) #[true, false, true, false, true, true, true, true, true, true, false, false, true, false, false, false, false, false, false, false, false] rfl rfl (any_of HT_.out (by kernel_rfl)) (fun _ _ _ h => h) (Or.inl ⟨by rfl, ?_⟩) ?_ ?_
                                                  rotate_left
                                                  · intro w'
                                                    go_simp
                                                    with_reducible rfl
                                                  rotate_left
                                                  · simp only [Act.put, List.setIfInBounds_toArray, List.set_cons_zero, List.set_cons_succ, i64_w, i32_w]
                                                    rfl
                                                  refine join_ (σ := Value × Value × Value) 9 #[true, true, true, true, true, true, true, true, true, true, true, false, true, false, false, false, false, false, false, false, false] (fun s_ => [(118, s_.1), (120, s_.2.1), (127, s_.2.2)]) (fun s_ w' => (w'.cell? ⟨gb224, 0, none⟩ = some (.int .i64 a3_0) ∧ w'.cell? ⟨gb224, 1, none⟩ = some (.int .i64 a3_1) ∧ w'.cell? ⟨gb224, 2, none⟩ = some (.int .i64 a3_2)) ∧ (Kd.R k42 42 w' w.heap.size (fun k_ => some k_ ≠ (s_.2.2 : Value).ownBlock ∧ k_ ≠ gb224) s_.2.1 y261) ∧ (Kd.R k42 42 w' w.heap.size (fun k_ => some k_ ≠ (s_.2.1 : Value).ownBlock ∧ k_ ≠ gb224) s_.2.2 y264) ∧ (Kd.R (Kd.int .i64) 2 w' w.heap.size (fun _ => True) (.slice (some ad256) t226.length co40) t226) ∧ (w'.heap[gb224]? = some (.cells #[.int .i64 a3_0, .int .i64 a3_1, .int .i64 a3_2] 42 (0, 0))) ∧ (Below w.heap.size w w')) ?_ ?_
                                                  rotate_left
                                                  · intro hCont
                                                    refine two_ (i := 1) (j := 10) (Ni := some 118) (Nj := some 127) #[true, true, true, false, true, true, true, true, true, true, false, false, true, false, false, false, false, false, false, false, false] #[true, false, true, false, true, true, true, true, true, true, true, false, true, false, false, false, false, false, false, false, false] rfl rfl rfl rfl (two_of HT_.out (by kernel_rfl)) (by decide) (by decide) (fun K hK => ?_) (fun K hK => ?_)
                                                    · skip
                                                      refine Kd.R_lit_step k42 _ 42 ?hg (N := 118) ?hd (xs := ([] : List (S42))) (inner := []) (ok := fun _ => True) (okp := fun _ => True) ?hr ?hp (fun _ hk => hk) trivial (Below.refl _ _) (Nat.le_refl _) (by simp) ?_; (case hd => rfl); (case hg => rfl); (case hr => first | (go_simp; done) | (go_simp; rfl)); (case hp => exact (Reps.none _ _))
                                                      intro v259 w72 ho73 hb hg_ hnew_
                                                      clear hg_ hnew_
                                                      (first | rw [← Ny258.out] at ho73 | (simp only [Int.reduceToNat] at ho73; rw [← Ny258.out] at ho73))
                                                      have n0_ := Aside0.mk (Kd.R_below (by (with_reducible repeat (first | apply Kd.R_alloc | apply Kd.R_drewN | apply Kd.R_drew)); exact HO_9.out) hb)
                                                      have n1_ := Aside0.mk (Kd.R_lower (Kd.R_newB ho73 (g := gb224) (o := .cells #[.int .i64 a3_0, .int .i64 a3_1, .int .i64 a3_2] 42 (0, 0)) (by (with_reducible repeat (first | refine blk_drewN ?_ _ | refine blk_drew ?_ | refine blk_alloc ?_ _)); exact BK224.out)) (below_size (by repeat (first | (with_reducible first | exact HB.out | apply below_alloc | apply pw_below_drewN | apply below_drew1 | refine below_set ?_ GE224.out) | exact HB.out))))
                                                      have n2_ := Aside0.mk (blk_below (g := gb224) (o := .cells #[.int .i64 a3_0, .int .i64 a3_1, .int .i64 a3_2] 42 (0, 0)) (by (with_reducible repeat (first | refine blk_drewN ?_ _ | refine blk_drew ?_ | refine blk_alloc ?_ _)); exact BK224.out) hb)
                                                      have n3_ := Aside0.mk (below_step (by repeat (first | (with_reducible first | exact HB.out | apply below_alloc | apply pw_below_drewN | apply below_drew1 | refine below_set ?_ GE224.out) | exact HB.out)) hb)
                                                      clear HO_9
                                                      clear BK224
                                                      clear HB
                                                      have HO_9 := n0_
                                                      have HO260 := n1_
                                                      have BK224 := n2_
                                                      have HB := n3_
                                                      clear n0_ n1_ n2_ n3_
                                                      clear hb ho73
                                                      refine hK.out _ _ ⟨(blk_cell BK224.out 0).trans rfl, (blk_cell BK224.out 1).trans rfl, (blk_cell BK224.out 2).trans rfl⟩ (fun hHeld => ?_)
                                                      clear hK K
                                                      refine norm_ (a' := ?_) ?_ ?_
                                                      rotate_left
                                                      · show Act.put _ (some 118) _ = _
                                                        simp only [Act.put, List.setIfInBounds_toArray, List.set_cons_zero, List.set_cons_succ, i64_w, i32_w]
                                                        rfl
                                                      refine two_ (i := 3) (j := 10) (Ni := some 120) (Nj := some 127) #[true, true, true, true, true, true, true, true, true, true, false, false, true, false, false, false, false, false, false, false, false] #[true, true, true, false, true, true, true, true, true, true, true, false, true, false, false, false, false, false, false, false, false] rfl rfl rfl rfl (two_of HT_.out (by kernel_rfl)) (by decide) (by decide) (fun K hK => ?_) (fun K hK => ?_)
                                                      · skip
                                                        refine Kd.R_append_rows_step k42 (w0 := w) w.heap.size (by rfl) (.tmp 118) (.tmp 119) 22 42 (.agg #[(.int .i64 0), (.int .i64 0), (.int .i64 0)]) 24 rfl Try.underlying22 info42 rfl (by decide) (by omega) v259 y258 l1 _ _ _ (fun k_ => k_ ≠ gb224) (fun _ => False) rfl rfl ?aO ?aR (fun _ _ h => h) (fun _ h => h.elim) ?aF ?aB ?aS ?aL ?_
                                                        (case aR => repeat (first | exact (Kd.C_below HR1.out HB.out) | (with_reducible refine Kd.C_alloc ?_ _) | (with_reducible refine Kd.C_drewN ?_ _) | (with_reducible refine Kd.C_drew ?_)))
                                                        (case aB => exact (by repeat (first | (with_reducible first | exact HB.out | apply below_alloc | apply pw_below_drewN | apply below_drew1 | refine below_set ?_ GE224.out) | exact HB.out)))
                                                        (case aF => exact (fun k_ hk => Kd.freshB (g := gb224) (o := .cells #[.int .i64 a3_0, .int .i64 a3_1, .int .i64 a3_2] 42 (0, 0)) (by (with_reducible repeat (first | refine blk_drewN ?_ _ | refine blk_drew ?_ | refine blk_alloc ?_ _)); exact BK224.out) k_ hk))
                                                        (case aO => exact (by (with_reducible repeat (first | apply Kd.R_alloc | apply Kd.R_drewN | apply Kd.R_drew)); exact Kd.R_mono HO260.out (fun _ hk => hk.2)))
                                                        (case aS => exact (below_size (by repeat (first | (with_reducible first | exact HB.out | apply below_alloc | apply pw_below_drewN | apply below_drew1 | refine below_set ?_ GE224.out) | exact HB.out))))
                                                        (case aL => have := LMc66.out; omega)
                                                        intro v262 w74 ho hb hg hat
                                                        rw [← Ny261.out] at ho
                                                        have n0_ := Aside0.mk (Kd.R_over' (by (with_reducible repeat (first | apply Kd.R_alloc | apply Kd.R_drewN | apply Kd.R_drew)); exact HO_9.out) (Kd.R_typed (by (with_reducible repeat (first | apply Kd.R_alloc | apply Kd.R_drewN | apply Kd.R_drew)); exact HO260.out)) (by decide) hg)
                                                        have n1_ := Aside0.mk (blk_grown (g := gb224) (o := .cells #[.int .i64 a3_0, .int .i64 a3_1, .int .i64 a3_2] 42 (0, 0)) (by (with_reducible repeat (first | refine blk_drewN ?_ _ | refine blk_drew ?_ | refine blk_alloc ?_ _)); exact BK224.out) hg (Kd.R_away HO260.out (fun _ hk => hk.2)))
                                                        have n2_ := Aside0.mk (hb)
                                                        have n3_ := Aside0.mk (ho)
                                                        clear HO_9
                                                        clear BK224
                                                        clear HB
                                                        clear HO260
                                                        have HO_9 := n0_
                                                        have BK224 := n1_
                                                        have HB := n2_
                                                        have HO263 := n3_
                                                        clear n0_ n1_ n2_ n3_
                                                        clear ho hb hg hat
                                                        refine hK.out _ _ ⟨(blk_cell BK224.out 0).trans rfl, (blk_cell BK224.out 1).trans rfl, (blk_cell BK224.out 2).trans rfl⟩ (fun hHeld => ?_)
                                                        clear hK K
                                                        refine norm_ (a' := ?_) ?_ ?_
                                                        rotate_left
                                                        · show Act.put _ (some 120) _ = _
                                                          simp only [Act.put, List.setIfInBounds_toArray, List.set_cons_zero, List.set_cons_succ, i64_w, i32_w]
                                                          rfl
                                                        refine one_ (i := 10) (N := some 127) #[true, true, true, true, true, true, true, true, true, true, true, false, true, false, false, false, false, false, false, false, false] rfl rfl (one_of HT_.out (by kernel_rfl)) (by decide) (fun K hK => ?_)
                                                        refine Kd.R_lit_step k42 _ 42 ?hg (N := 127) ?hd (xs := ([(⟨a3_0, a3_1, ji63⟩ : S42)] : List (S42))) (inner := [.int .i64 a3_0, .int .i64 a3_1, .int .i64 ji63]) (ok := fun _ => True) (okp := fun _ => True) ?hr ?hp (fun _ hk => hk) trivial (Below.refl _ _) (Nat.le_refl _) (by simp) ?_; (case hd => rfl); (case hg => rfl); (case hr => first | (go_simp; done) | (go_simp; rfl)); (case hp => exact (Reps.c3 (show Kd.M k42 _ _ _ (⟨a3_0, a3_1, ji63⟩ : S42) [.int .i64 a3_0, .int .i64 a3_1, .int .i64 ji63] from (k42_mkM _ _ _ (⟨a3_0, a3_1, ji63⟩ : S42) )) (Reps.none _ _)))
                                                        intro v265 w75 ho76 hb hg_ hnew_
                                                        clear hg_ hnew_
                                                        (first | rw [← Ny264.out] at ho76 | (simp only [Int.reduceToNat] at ho76; rw [← Ny264.out] at ho76))
                                                        have n0_ := Aside0.mk (Kd.R_below (by (with_reducible repeat (first | apply Kd.R_alloc | apply Kd.R_drewN | apply Kd.R_drew)); exact HO_9.out) hb)
                                                        have n1_ := Aside0.mk (Kd.R_elder' (by (with_reducible repeat (first | apply Kd.R_alloc | apply Kd.R_drewN | apply Kd.R_drew)); exact HO263.out) (Kd.R_base ho76) hb)
                                                        have n2_ := Aside0.mk (Kd.R_lower (Kd.R_newB (Kd.R_new' ho76 (Kd.R_lt (by (with_reducible repeat (first | apply Kd.R_alloc | apply Kd.R_drewN | apply Kd.R_drew)); exact HO263.out))) (g := gb224) (o := .cells #[.int .i64 a3_0, .int .i64 a3_1, .int .i64 a3_2] 42 (0, 0)) (by (with_reducible repeat (first | refine blk_drewN ?_ _ | refine blk_drew ?_ | refine blk_alloc ?_ _)); exact BK224.out)) (below_size (by repeat (first | (with_reducible first | exact HB.out | apply below_alloc | apply pw_below_drewN | apply below_drew1 | refine below_set ?_ GE224.out) | exact HB.out))))
                                                        have n3_ := Aside0.mk (blk_below (g := gb224) (o := .cells #[.int .i64 a3_0, .int .i64 a3_1, .int .i64 a3_2] 42 (0, 0)) (by (with_reducible repeat (first | refine blk_drewN ?_ _ | refine blk_drew ?_ | refine blk_alloc ?_ _)); exact BK224.out) hb)
                                                        have n4_ := Aside0.mk (below_step (by repeat (first | (with_reducible first | exact HB.out | apply below_alloc | apply pw_below_drewN | apply below_drew1 | refine below_set ?_ GE224.out) | exact HB.out)) hb)
                                                        clear HO_9
                                                        clear HO263
                                                        clear BK224
                                                        clear HB
                                                        have HO_9 := n0_
                                                        have HO263 := n1_
                                                        have HO266 := n2_
                                                        have BK224 := n3_
                                                        have HB := n4_
                                                        clear n0_ n1_ n2_ n3_ n4_
                                                        clear hb ho76
                                                        refine hK.out _ _ ⟨(blk_cell BK224.out 0).trans rfl, (blk_cell BK224.out 1).trans rfl, (blk_cell BK224.out 2).trans rfl⟩ (fun hHeld => ?_)
                                                        clear hK K
                                                        refine norm_ (a' := ?_) ?_ ?_
                                                        rotate_left
                                                        · show Act.put _ (some 127) _ = _
                                                          simp only [Act.put, List.setIfInBounds_toArray, List.set_cons_zero, List.set_cons_succ, i64_w, i32_w]
                                                          rfl
                                                        exact norm_ (by simp only [putAll, Act.put, List.setIfInBounds_toArray, List.set_cons_zero, List.set_cons_succ]) (hCont (v259, v262, v265) _ ⟨hHeld, (by (with_reducible repeat (first | apply Kd.R_alloc | apply Kd.R_drewN | apply Kd.R_drew)); exact Kd.R_mono HO263.out (fun _ hk => ⟨hk.2, hk.1⟩)), (by (with_reducible repeat (first | apply Kd.R_alloc | apply Kd.R_drewN | apply Kd.R_drew)); exact Kd.R_mono HO266.out (fun _ hk => ⟨hk.1.2, hk.2⟩)), (by (with_reducible repeat (first | apply Kd.R_alloc | apply Kd.R_drewN | apply Kd.R_drew)); exact HO_9.out), (by (with_reducible repeat (first | refine blk_drewN ?_ _ | refine blk_drew ?_ | refine blk_alloc ?_ _)); exact BK224.out), (by repeat (first | (with_reducible first | exact HB.out | apply below_alloc | apply pw_below_drewN | apply below_drew1 | refine below_set ?_ GE224.out) | exact HB.out))⟩)
                                                      · skip
                                                        refine Kd.R_lit_step k42 _ 42 ?hg (N := 127) ?hd (xs := ([(⟨a3_0, a3_1, ji63⟩ : S42)] : List (S42))) (inner := [.int .i64 a3_0, .int .i64 a3_1, .int .i64 ji63]) (ok := fun _ => True) (okp := fun _ => True) ?hr ?hp (fun _ hk => hk) trivial (Below.refl _ _) (Nat.le_refl _) (by simp) ?_; (case hd => rfl); (case hg => rfl); (case hr => first | (go_simp; done) | (go_simp; rfl)); (case hp => exact (Reps.c3 (show Kd.M k42 _ _ _ (⟨a3_0, a3_1, ji63⟩ : S42) [.int .i64 a3_0, .int .i64 a3_1, .int .i64 ji63] from (k42_mkM _ _ _ (⟨a3_0, a3_1, ji63⟩ : S42) )) (Reps.none _ _)))
                                                        intro v265 w74 ho75 hb hg_ hnew_
                                                        clear hg_ hnew_
                                                        (first | rw [← Ny264.out] at ho75 | (simp only [Int.reduceToNat] at ho75; rw [← Ny264.out] at ho75))
                                                        have n0_ := Aside0.mk (Kd.R_below (by (with_reducible repeat (first | apply Kd.R_alloc | apply Kd.R_drewN | apply Kd.R_drew)); exact HO_9.out) hb)
                                                        have n1_ := Aside0.mk (Kd.R_elder' (by (with_reducible repeat (first | apply Kd.R_alloc | apply Kd.R_drewN | apply Kd.R_drew)); exact HO260.out) (Kd.R_base ho75) hb)
                                                        have n2_ := Aside0.mk (Kd.R_lower (Kd.R_newB (Kd.R_new' ho75 (Kd.R_lt (by (with_reducible repeat (first | apply Kd.R_alloc | apply Kd.R_drewN | apply Kd.R_drew)); exact HO260.out))) (g := gb224) (o := .cells #[.int .i64 a3_0, .int .i64 a3_1, .int .i64 a3_2] 42 (0, 0)) (by (with_reducible repeat (first | refine blk_drewN ?_ _ | refine blk_drew ?_ | refine blk_alloc ?_ _)); exact BK224.out)) (below_size (by repeat (first | (with_reducible first | exact HB.out | apply below_alloc | apply pw_below_drewN | apply below_drew1 | refine below_set ?_ GE224.out) | exact HB.out))))
                                                        have n3_ := Aside0.mk (blk_below (g := gb224) (o := .cells #[.int .i64 a3_0, .int .i64 a3_1, .int .i64 a3_2] 42 (0, 0)) (by (with_reducible repeat (first | refine blk_drewN ?_ _ | refine blk_drew ?_ | refine blk_alloc ?_ _)); exact BK224.out) hb)
                                                        have n4_ := Aside0.mk (below_step (by repeat (first | (with_reducible first | exact HB.out | apply below_alloc | apply pw_below_drewN | apply below_drew1 | refine below_set ?_ GE224.out) | exact HB.out)) hb)
                                                        clear HO_9
                                                        clear HO260
                                                        clear BK224
                                                        clear HB
                                                        have HO_9 := n0_
                                                        have HO260 := n1_
                                                        have HO266 := n2_
                                                        have BK224 := n3_
                                                        have HB := n4_
                                                        clear n0_ n1_ n2_ n3_ n4_
                                                        clear hb ho75
                                                        refine hK.out _ _ ⟨(blk_cell BK224.out 0).trans rfl, (blk_cell BK224.out 1).trans rfl, (blk_cell BK224.out 2).trans rfl⟩ (fun hHeld => ?_)
                                                        clear hK K
                                                        refine norm_ (a' := ?_) ?_ ?_
                                                        rotate_left
                                                        · show Act.put _ (some 127) _ = _
                                                          simp only [Act.put, List.setIfInBounds_toArray, List.set_cons_zero, List.set_cons_succ, i64_w, i32_w]
                                                          rfl
                                                        refine one_ (i := 3) (N := some 120) #[true, true, true, true, true, true, true, true, true, true, true, false, true, false, false, false, false, false, false, false, false] rfl rfl (one_of HT_.out (by kernel_rfl)) (by decide) (fun K hK => ?_)
                                                        refine Kd.R_append_rows_step k42 (w0 := w) w.heap.size (by rfl) (.tmp 118) (.tmp 119) 22 42 (.agg #[(.int .i64 0), (.int .i64 0), (.int .i64 0)]) 24 rfl Try.underlying22 info42 rfl (by decide) (by omega) v259 y258 l1 _ _ _ (fun k_ => some k_ ≠ (v265 : Value).ownBlock ∧ k_ ≠ gb224) (fun _ => False) rfl rfl ?aO ?aR (fun _ _ h => h) (fun _ h => h.elim) ?aF ?aB ?aS ?aL ?_
                                                        (case aR => repeat (first | exact (Kd.C_below HR1.out HB.out) | (with_reducible refine Kd.C_alloc ?_ _) | (with_reducible refine Kd.C_drewN ?_ _) | (with_reducible refine Kd.C_drew ?_)))
                                                        (case aB => exact (by repeat (first | (with_reducible first | exact HB.out | apply below_alloc | apply pw_below_drewN | apply below_drew1 | refine below_set ?_ GE224.out) | exact HB.out)))
                                                        (case aF => exact (fun k_ hk => ⟨Kd.fresh' (Kd.R_lt (by (with_reducible repeat (first | apply Kd.R_alloc | apply Kd.R_drewN | apply Kd.R_drew)); exact HO266.out)) k_ hk, Kd.freshB (g := gb224) (o := .cells #[.int .i64 a3_0, .int .i64 a3_1, .int .i64 a3_2] 42 (0, 0)) (by (with_reducible repeat (first | refine blk_drewN ?_ _ | refine blk_drew ?_ | refine blk_alloc ?_ _)); exact BK224.out) k_ hk⟩))
                                                        (case aO => exact (by (with_reducible repeat (first | apply Kd.R_alloc | apply Kd.R_drewN | apply Kd.R_drew)); exact Kd.R_mono HO260.out (fun _ hk => ⟨hk.2, hk.1.2⟩)))
                                                        (case aS => exact (below_size (by repeat (first | (with_reducible first | exact HB.out | apply below_alloc | apply pw_below_drewN | apply below_drew1 | refine below_set ?_ GE224.out) | exact HB.out))))
                                                        (case aL => have := LMc66.out; omega)
                                                        intro v262 w76 ho hb hg hat
                                                        rw [← Ny261.out] at ho
                                                        have n0_ := Aside0.mk (Kd.R_over' (by (with_reducible repeat (first | apply Kd.R_alloc | apply Kd.R_drewN | apply Kd.R_drew)); exact HO_9.out) (Kd.R_typed (by (with_reducible repeat (first | apply Kd.R_alloc | apply Kd.R_drewN | apply Kd.R_drew)); exact HO260.out)) (by decide) hg)
                                                        have n1_ := Aside0.mk (blk_grown (g := gb224) (o := .cells #[.int .i64 a3_0, .int .i64 a3_1, .int .i64 a3_2] 42 (0, 0)) (by (with_reducible repeat (first | refine blk_drewN ?_ _ | refine blk_drew ?_ | refine blk_alloc ?_ _)); exact BK224.out) hg (Kd.R_away HO260.out (fun _ hk => hk.1.2)))
                                                        have n2_ := Aside0.mk (Kd.R_after (ok := (fun k_ => k_ ≠ gb224)) (by (with_reducible repeat (first | apply Kd.R_alloc | apply Kd.R_drewN | apply Kd.R_drew)); exact Kd.R_mono HO266.out (fun _ hk => ⟨hk.2, hk.1.2⟩)) hg hat)
                                                        have n3_ := Aside0.mk (hb)
                                                        have n4_ := Aside0.mk (ho)
                                                        clear HO_9
                                                        clear BK224
                                                        clear HO266
                                                        clear HB
                                                        clear HO260
                                                        have HO_9 := n0_
                                                        have BK224 := n1_
                                                        have HO266 := n2_
                                                        have HB := n3_
                                                        have HO263 := n4_
                                                        clear n0_ n1_ n2_ n3_ n4_
                                                        clear ho hb hg hat
                                                        refine hK.out _ _ ⟨(blk_cell BK224.out 0).trans rfl, (blk_cell BK224.out 1).trans rfl, (blk_cell BK224.out 2).trans rfl⟩ (fun hHeld => ?_)
                                                        clear hK K
                                                        refine norm_ (a' := ?_) ?_ ?_
                                                        rotate_left
                                                        · show Act.put _ (some 120) _ = _
                                                          simp only [Act.put, List.setIfInBounds_toArray, List.set_cons_zero, List.set_cons_succ, i64_w, i32_w]
                                                          rfl
                                                        exact norm_ (by simp only [putAll, Act.put, List.setIfInBounds_toArray, List.set_cons_zero, List.set_cons_succ]) (hCont (v259, v262, v265) _ ⟨hHeld, (by (with_reducible repeat (first | apply Kd.R_alloc | apply Kd.R_drewN | apply Kd.R_drew)); exact HO263.out), (by (with_reducible repeat (first | apply Kd.R_alloc | apply Kd.R_drewN | apply Kd.R_drew)); exact Kd.R_mono HO266.out (fun _ hk => ⟨hk.2, hk.1⟩)), (by (with_reducible repeat (first | apply Kd.R_alloc | apply Kd.R_drewN | apply Kd.R_drew)); exact HO_9.out), (by (with_reducible repeat (first | refine blk_drewN ?_ _ | refine blk_drew ?_ | refine blk_alloc ?_ _)); exact BK224.out), (by repeat (first | (with_reducible first | exact HB.out | apply below_alloc | apply pw_below_drewN | apply below_drew1 | refine below_set ?_ GE224.out) | exact HB.out))⟩)
                                                    · skip
                                                      refine Kd.R_lit_step k42 _ 42 ?hg (N := 127) ?hd (xs := ([(⟨a3_0, a3_1, ji63⟩ : S42)] : List (S42))) (inner := [.int .i64 a3_0, .int .i64 a3_1, .int .i64 ji63]) (ok := fun _ => True) (okp := fun _ => True) ?hr ?hp (fun _ hk => hk) trivial (Below.refl _ _) (Nat.le_refl _) (by simp) ?_; (case hd => rfl); (case hg => rfl); (case hr => first | (go_simp; done) | (go_simp; rfl)); (case hp => exact (Reps.c3 (show Kd.M k42 _ _ _ (⟨a3_0, a3_1, ji63⟩ : S42) [.int .i64 a3_0, .int .i64 a3_1, .int .i64 ji63] from (k42_mkM _ _ _ (⟨a3_0, a3_1, ji63⟩ : S42) )) (Reps.none _ _)))
                                                      intro v265 w72 ho73 hb hg_ hnew_
                                                      clear hg_ hnew_
                                                      (first | rw [← Ny264.out] at ho73 | (simp only [Int.reduceToNat] at ho73; rw [← Ny264.out] at ho73))
                                                      have n0_ := Aside0.mk (Kd.R_below (by (with_reducible repeat (first | apply Kd.R_alloc | apply Kd.R_drewN | apply Kd.R_drew)); exact HO_9.out) hb)
                                                      have n1_ := Aside0.mk (Kd.R_lower (Kd.R_newB ho73 (g := gb224) (o := .cells #[.int .i64 a3_0, .int .i64 a3_1, .int .i64 a3_2] 42 (0, 0)) (by (with_reducible repeat (first | refine blk_drewN ?_ _ | refine blk_drew ?_ | refine blk_alloc ?_ _)); exact BK224.out)) (below_size (by repeat (first | (with_reducible first | exact HB.out | apply below_alloc | apply pw_below_drewN | apply below_drew1 | refine below_set ?_ GE224.out) | exact HB.out))))
                                                      have n2_ := Aside0.mk (blk_below (g := gb224) (o := .cells #[.int .i64 a3_0, .int .i64 a3_1, .int .i64 a3_2] 42 (0, 0)) (by (with_reducible repeat (first | refine blk_drewN ?_ _ | refine blk_drew ?_ | refine blk_alloc ?_ _)); exact BK224.out) hb)
                                                      have n3_ := Aside0.mk (below_step (by repeat (first | (with_reducible first | exact HB.out | apply below_alloc | apply pw_below_drewN | apply below_drew1 | refine below_set ?_ GE224.out) | exact HB.out)) hb)
                                                      clear HO_9
                                                      clear BK224
                                                      clear HB
                                                      have HO_9 := n0_
                                                      have HO266 := n1_
                                                      have BK224 := n2_
                                                      have HB := n3_
                                                      clear n0_ n1_ n2_ n3_
                                                      clear hb ho73
                                                      refine hK.out _ _ ⟨(blk_cell BK224.out 0).trans rfl, (blk_cell BK224.out 1).trans rfl, (blk_cell BK224.out 2).trans rfl⟩ (fun hHeld => ?_)
                                                      clear hK K
                                                      refine norm_ (a' := ?_) ?_ ?_
                                                      rotate_left
                                                      · show Act.put _ (some 127) _ = _
                                                        simp only [Act.put, List.setIfInBounds_toArray, List.set_cons_zero, List.set_cons_succ, i64_w, i32_w]
                                                        rfl
                                                      refine one_ (i := 1) (N := some 118) #[true, true, true, false, true, true, true, true, true, true, true, false, true, false, false, false, false, false, false, false, false] rfl rfl (one_of HT_.out (by kernel_rfl)) (by decide) (fun K hK => ?_)
                                                      refine Kd.R_lit_step k42 _ 42 ?hg (N := 118) ?hd (xs := ([] : List (S42))) (inner := []) (ok := fun _ => True) (okp := fun _ => True) ?hr ?hp (fun _ hk => hk) trivial (Below.refl _ _) (Nat.le_refl _) (by simp) ?_; (case hd => rfl); (case hg => rfl); (case hr => first | (go_simp; done) | (go_simp; rfl)); (case hp => exact (Reps.none _ _))
                                                      intro v259 w74 ho75 hb hg_ hnew_
                                                      clear hg_ hnew_
                                                      (first | rw [← Ny258.out] at ho75 | (simp only [Int.reduceToNat] at ho75; rw [← Ny258.out] at ho75))
                                                      have n0_ := Aside0.mk (Kd.R_below (by (with_reducible repeat (first | apply Kd.R_alloc | apply Kd.R_drewN | apply Kd.R_drew)); exact HO_9.out) hb)
                                                      have n1_ := Aside0.mk (Kd.R_elder' (by (with_reducible repeat (first | apply Kd.R_alloc | apply Kd.R_drewN | apply Kd.R_drew)); exact HO266.out) (Kd.R_base ho75) hb)
                                                      have n2_ := Aside0.mk (Kd.R_lower (Kd.R_newB (Kd.R_new' ho75 (Kd.R_lt (by (with_reducible repeat (first | apply Kd.R_alloc | apply Kd.R_drewN | apply Kd.R_drew)); exact HO266.out))) (g := gb224) (o := .cells #[.int .i64 a3_0, .int .i64 a3_1, .int .i64 a3_2] 42 (0, 0)) (by (with_reducible repeat (first | refine blk_drewN ?_ _ | refine blk_drew ?_ | refine blk_alloc ?_ _)); exact BK224.out)) (below_size (by repeat (first | (with_reducible first | exact HB.out | apply below_alloc | apply pw_below_drewN | apply below_drew1 | refine below_set ?_ GE224.out) | exact HB.out))))
                                                      have n3_ := Aside0.mk (blk_below (g := gb224) (o := .cells #[.int .i64 a3_0, .int .i64 a3_1, .int .i64 a3_2] 42 (0, 0)) (by (with_reducible repeat (first | refine blk_drewN ?_ _ | refine blk_drew ?_ | refine blk_alloc ?_ _)); exact BK224.out) hb)
                                                      have n4_ := Aside0.mk (below_step (by repeat (first | (with_reducible first | exact HB.out | apply below_alloc | apply pw_below_drewN | apply below_drew1 | refine below_set ?_ GE224.out) | exact HB.out)) hb)
                                                      clear HO_9
                                                      clear HO266
                                                      clear BK224
                                                      clear HB
                                                      have HO_9 := n0_
                                                      have HO266 := n1_
                                                      have HO260 := n2_
                                                      have BK224 := n3_
                                                      have HB := n4_
                                                      clear n0_ n1_ n2_ n3_ n4_
                                                      clear hb ho75
                                                      refine hK.out _ _ ⟨(blk_cell BK224.out 0).trans rfl, (blk_cell BK224.out 1).trans rfl, (blk_cell BK224.out 2).trans rfl⟩ (fun hHeld => ?_)
                                                      clear hK K
                                                      refine norm_ (a' := ?_) ?_ ?_
                                                      rotate_left
                                                      · show Act.put _ (some 118) _ = _
                                                        simp only [Act.put, List.setIfInBounds_toArray, List.set_cons_zero, List.set_cons_succ, i64_w, i32_w]
                                                        rfl
                                                      refine one_ (i := 3) (N := some 120) #[true, true, true, true, true, true, true, true, true, true, true, false, true, false, false, false, false, false, false, false, false] rfl rfl (one_of HT_.out (by kernel_rfl)) (by decide) (fun K hK => ?_)
                                                      refine Kd.R_append_rows_step k42 (w0 := w) w.heap.size (by rfl) (.tmp 118) (.tmp 119) 22 42 (.agg #[(.int .i64 0), (.int .i64 0), (.int .i64 0)]) 24 rfl Try.underlying22 info42 rfl (by decide) (by omega) v259 y258 l1 _ _ _ (fun k_ => some k_ ≠ (v265 : Value).ownBlock ∧ k_ ≠ gb224) (fun _ => False) rfl rfl ?aO ?aR (fun _ _ h => h) (fun _ h => h.elim) ?aF ?aB ?aS ?aL ?_
                                                      (case aR => repeat (first | exact (Kd.C_below HR1.out HB.out) | (with_reducible refine Kd.C_alloc ?_ _) | (with_reducible refine Kd.C_drewN ?_ _) | (with_reducible refine Kd.C_drew ?_)))
                                                      (case aB => exact (by repeat (first | (with_reducible first | exact HB.out | apply below_alloc | apply pw_below_drewN | apply below_drew1 | refine below_set ?_ GE224.out) | exact HB.out)))
                                                      (case aF => exact (fun k_ hk => ⟨Kd.fresh' (Kd.R_lt (by (with_reducible repeat (first | apply Kd.R_alloc | apply Kd.R_drewN | apply Kd.R_drew)); exact HO266.out)) k_ hk, Kd.freshB (g := gb224) (o := .cells #[.int .i64 a3_0, .int .i64 a3_1, .int .i64 a3_2] 42 (0, 0)) (by (with_reducible repeat (first | refine blk_drewN ?_ _ | refine blk_drew ?_ | refine blk_alloc ?_ _)); exact BK224.out) k_ hk⟩))
                                                      (case aO => exact (by (with_reducible repeat (first | apply Kd.R_alloc | apply Kd.R_drewN | apply Kd.R_drew)); exact Kd.R_mono HO260.out (fun _ hk => ⟨hk.1.2, hk.2⟩)))
                                                      (case aS => exact (below_size (by repeat (first | (with_reducible first | exact HB.out | apply below_alloc | apply pw_below_drewN | apply below_drew1 | refine below_set ?_ GE224.out) | exact HB.out))))
                                                      (case aL => have := LMc66.out; omega)
                                                      intro v262 w76 ho hb hg hat
                                                      rw [← Ny261.out] at ho
                                                      have n0_ := Aside0.mk (Kd.R_over' (by (with_reducible repeat (first | apply Kd.R_alloc | apply Kd.R_drewN | apply Kd.R_drew)); exact HO_9.out) (Kd.R_typed (by (with_reducible repeat (first | apply Kd.R_alloc | apply Kd.R_drewN | apply Kd.R_drew)); exact HO260.out)) (by decide) hg)
                                                      have n1_ := Aside0.mk (blk_grown (g := gb224) (o := .cells #[.int .i64 a3_0, .int .i64 a3_1, .int .i64 a3_2] 42 (0, 0)) (by (with_reducible repeat (first | refine blk_drewN ?_ _ | refine blk_drew ?_ | refine blk_alloc ?_ _)); exact BK224.out) hg (Kd.R_away HO260.out (fun _ hk => hk.2)))
                                                      have n2_ := Aside0.mk (Kd.R_after (ok := (fun k_ => k_ ≠ gb224)) (by (with_reducible repeat (first | apply Kd.R_alloc | apply Kd.R_drewN | apply Kd.R_drew)); exact Kd.R_mono HO266.out (fun _ hk => ⟨hk.1.2, hk.2⟩)) hg hat)
                                                      have n3_ := Aside0.mk (hb)
                                                      have n4_ := Aside0.mk (ho)
                                                      clear HO_9
                                                      clear BK224
                                                      clear HO266
                                                      clear HB
                                                      clear HO260
                                                      have HO_9 := n0_
                                                      have BK224 := n1_
                                                      have HO266 := n2_
                                                      have HB := n3_
                                                      have HO263 := n4_
                                                      clear n0_ n1_ n2_ n3_ n4_
                                                      clear ho hb hg hat
                                                      refine hK.out _ _ ⟨(blk_cell BK224.out 0).trans rfl, (blk_cell BK224.out 1).trans rfl, (blk_cell BK224.out 2).trans rfl⟩ (fun hHeld => ?_)
                                                      clear hK K
                                                      refine norm_ (a' := ?_) ?_ ?_
                                                      rotate_left
                                                      · show Act.put _ (some 120) _ = _
                                                        simp only [Act.put, List.setIfInBounds_toArray, List.set_cons_zero, List.set_cons_succ, i64_w, i32_w]
                                                        rfl
                                                      exact norm_ (by simp only [putAll, Act.put, List.setIfInBounds_toArray, List.set_cons_zero, List.set_cons_succ]) (hCont (v259, v262, v265) _ ⟨hHeld, (by (with_reducible repeat (first | apply Kd.R_alloc | apply Kd.R_drewN | apply Kd.R_drew)); exact HO263.out), (by (with_reducible repeat (first | apply Kd.R_alloc | apply Kd.R_drewN | apply Kd.R_drew)); exact Kd.R_mono HO266.out (fun _ hk => ⟨hk.2, hk.1⟩)), (by (with_reducible repeat (first | apply Kd.R_alloc | apply Kd.R_drewN | apply Kd.R_drew)); exact HO_9.out), (by (with_reducible repeat (first | refine blk_drewN ?_ _ | refine blk_drew ?_ | refine blk_alloc ?_ _)); exact BK224.out), (by repeat (first | (with_reducible first | exact HB.out | apply below_alloc | apply pw_below_drewN | apply below_drew1 | refine below_set ?_ GE224.out) | exact HB.out))⟩)
                                                  rintro ⟨v259, v262, v265⟩ w77 ⟨hS_, h0_, h1_, h2_, h3_, h4_⟩
                                                  have n0_ : Aside0 (Kd.R k42 42 w77 w.heap.size (fun k_ => some k_ ≠ (v265 : Value).ownBlock ∧ k_ ≠ gb224) v262 y261) := ⟨h0_⟩
                                                  have n1_ : Aside0 (Kd.R k42 42 w77 w.heap.size (fun k_ => some k_ ≠ (v262 : Value).ownBlock ∧ k_ ≠ gb224) v265 y264) := ⟨h1_⟩
                                                  have n2_ : Aside0 (Kd.R (Kd.int .i64) 2 w77 w.heap.size (fun _ => True) (.slice (some ad256) t226.length co40) t226) := ⟨h2_⟩
                                                  have n3_ : Aside0 (w77.heap[gb224]? = some (.cells #[.int .i64 a3_0, .int .i64 a3_1, .int .i64 a3_2] 42 (0, 0))) := ⟨h3_⟩
                                                  have n4_ : Aside0 (Below w.heap.size w w77) := ⟨h4_⟩
                                                  clear HO_9
                                                  clear BK224
                                                  clear HB
                                                  clear h0_ h1_ h2_ h3_ h4_
                                                  have HO263 := n0_
                                                  have HO266 := n1_
                                                  have HO_9 := n2_
                                                  have BK224 := n3_
                                                  have HB := n4_
                                                  clear n0_ n1_ n2_ n3_ n4_
                                                  have hHeld : w77.cell? ⟨gb224, 0, none⟩ = some (.int .i64 a3_0) ∧ w77.cell? ⟨gb224, 1, none⟩ = some (.int .i64 a3_1) ∧ w77.cell? ⟨gb224, 2, none⟩ = some (.int .i64 a3_2) := hS_
                                                  obtain ⟨Ao79, co79, eo79⟩ := Kd.R_slice HO266.out
                                                  (first | subst eo79 | (injection eo79 with f1_ f2_ f3_; have f4_ := f1_.symm; have f5_ := f3_.symm; clear f1_ f2_ f3_; subst f4_; subst f5_))
                                                  refine norm_ (a' := ?_) ?_ ?_
                                                  rotate_left
                                                  · simp only [putAll, Act.put, List.setIfInBounds_toArray, List.set_cons_zero, List.set_cons_succ]
                                                    rfl
                                                  refine one_ (i := 11) (N := some 128) #[true, true, true, true, true, true, true, true, true, true, true, true, true, false, false, false, false, false, false, false, false] rfl rfl (one_of HT_.out (by kernel_rfl)) (by decide) (fun K hK => ?_)
                                                  refine Kd.R_append_rows_step k42 (w0 := w) w.heap.size (by rfl) (.tmp 120) (.tmp 127) 22 42 (.agg #[(.int .i64 0), (.int .i64 0), (.int .i64 0)]) 24 rfl Try.underlying22 info42 rfl (by decide) (by omega) v262 y261 y264 _ _ _ (fun k_ => some k_ ≠ (.slice Ao79 y264.length co79 : Value).ownBlock ∧ k_ ≠ gb224) (fun _ => False) rfl rfl ?aO ?aR (fun _ _ h => h) (fun _ h => h.elim) ?aF ?aB ?aS ?aL ?_
                                                  (case aR => repeat (first | exact (Kd.R_reads' HO266.out).2.2 | (with_reducible refine Kd.C_alloc ?_ _) | (with_reducible refine Kd.C_drewN ?_ _) | (with_reducible refine Kd.C_drew ?_)))
                                                  (case aB => exact (by repeat (first | (with_reducible first | exact HB.out | apply below_alloc | apply pw_below_drewN | apply below_drew1 | refine below_set ?_ GE224.out) | exact HB.out)))
                                                  (case aF => exact (fun k_ hk => ⟨Kd.fresh' (Kd.R_lt (by (with_reducible repeat (first | apply Kd.R_alloc | apply Kd.R_drewN | apply Kd.R_drew)); exact HO266.out)) k_ hk, Kd.freshB (g := gb224) (o := .cells #[.int .i64 a3_0, .int .i64 a3_1, .int .i64 a3_2] 42 (0, 0)) (by (with_reducible repeat (first | refine blk_drewN ?_ _ | refine blk_drew ?_ | refine blk_alloc ?_ _)); exact BK224.out) k_ hk⟩))
                                                  (case aO => exact (by (with_reducible repeat (first | apply Kd.R_alloc | apply Kd.R_drewN | apply Kd.R_drew)); exact HO263.out))
                                                  (case aS => exact (below_size (by repeat (first | (with_reducible first | exact HB.out | apply below_alloc | apply pw_below_drewN | apply below_drew1 | refine below_set ?_ GE224.out) | exact HB.out))))
                                                  (case aL => have := LMc67.out; omega)
                                                  intro v268 w78 ho hb hg hat
                                                  rw [← Ny267.out] at ho
                                                  have n0_ := Aside0.mk (Kd.R_over' (by (with_reducible repeat (first | apply Kd.R_alloc | apply Kd.R_drewN | apply Kd.R_drew)); exact HO_9.out) (Kd.R_typed (by (with_reducible repeat (first | apply Kd.R_alloc | apply Kd.R_drewN | apply Kd.R_drew)); exact HO263.out)) (by decide) hg)
                                                  have n1_ := Aside0.mk (blk_grown (g := gb224) (o := .cells #[.int .i64 a3_0, .int .i64 a3_1, .int .i64 a3_2] 42 (0, 0)) (by (with_reducible repeat (first | refine blk_drewN ?_ _ | refine blk_drew ?_ | refine blk_alloc ?_ _)); exact BK224.out) hg (Kd.R_away HO263.out (fun _ hk => hk.2)))
                                                  have n2_ := Aside0.mk (Kd.R_after (ok := (fun k_ => k_ ≠ gb224)) (by (with_reducible repeat (first | apply Kd.R_alloc | apply Kd.R_drewN | apply Kd.R_drew)); exact Kd.R_mono HO266.out (fun _ hk => ⟨hk.2, hk.1⟩)) hg hat)
                                                  have n3_ := Aside0.mk (hb)
                                                  have n4_ := Aside0.mk (ho)
                                                  clear HO_9
                                                  clear BK224
                                                  clear HO266
                                                  clear HB
                                                  clear HO263
                                                  have HO_9 := n0_
                                                  have BK224 := n1_
                                                  have HO266 := n2_
                                                  have HB := n3_
                                                  have HO269 := n4_
                                                  clear n0_ n1_ n2_ n3_ n4_
                                                  clear ho hb hg hat
                                                  obtain ⟨Ao80, co80, eo80⟩ := Kd.R_slice HO269.out
                                                  (first | subst eo80 | (injection eo80 with f1_ f2_ f3_; have f4_ := f1_.symm; have f5_ := f3_.symm; clear f1_ f2_ f3_; subst f4_; subst f5_))
                                                  refine hK.out _ _ ⟨(blk_cell BK224.out 0).trans rfl, (blk_cell BK224.out 1).trans rfl, (blk_cell BK224.out 2).trans rfl⟩ (fun hHeld => ?_)
                                                  clear hK K
                                                  refine norm_ (a' := ?_) ?_ ?_
                                                  rotate_left
                                                  · show Act.put _ (some 128) _ = _
                                                    simp only [Act.put, List.setIfInBounds_toArray, List.set_cons_zero, List.set_cons_succ, i64_w, i32_w]
                                                    rfl
                                                  refine one_ (i := 13) (N := some 130) #[true, true, true, true, true, true, true, true, true, true, true, true, true, true, false, false, false, false, false, false, false] rfl rfl (one_of HT_.out (by kernel_rfl)) (by decide) (fun K hK => ?_)
                                                  refine goes_ Try.func9 (by kernel_rfl) rfl #[.int .i64 a0, .slice Ao80 y267.length co80, .int .i64 a2] (by rfl) rfl rfl (by (try simp only [List.map_toArray, List.map_cons, List.map_nil]); first | done | rfl | (simp only [List.length_drop, List.length_take]; rfl)) ?_
                                                  with_reducible refine (diff_Solve.calls a0 _ _ y267 a2 t270 t271 t272 _ ?side1 ?side2 A68.out).mono ?_
                                                  (case side1 => repeat (first | exact (Kd.R_reads' HO269.out).2.2 | (with_reducible refine Kd.C_alloc ?_ _) | (with_reducible refine Kd.C_drewN ?_ _) | (with_reducible refine Kd.C_drew ?_)))
                                                  (case side2 => exact (Kd.R_reads' HO269.out).2.1)
                                                  rintro e w81 ⟨v273, v275, rfl, ho0, ho1, hb⟩
                                                  refine ⟨_, rfl, ?_⟩
                                                  have n0_ := Aside0.mk (Kd.R_elder' (by (with_reducible repeat (first | apply Kd.R_alloc | apply Kd.R_drewN | apply Kd.R_drew)); exact HO_9.out) (Kd.R_base ho0) hb)
                                                  have n1_ := Aside0.mk (Kd.R_below (by (with_reducible repeat (first | apply Kd.R_alloc | apply Kd.R_drewN | apply Kd.R_drew)); exact HO266.out) hb)
                                                  have n2_ := Aside0.mk (Kd.R_below (by (with_reducible repeat (first | apply Kd.R_alloc | apply Kd.R_drewN | apply Kd.R_drew)); exact HO269.out) hb)
                                                  have n3_ := Aside0.mk (Kd.R_lower (Kd.R_new' ho0 (Kd.R_lt (by (with_reducible repeat (first | apply Kd.R_alloc | apply Kd.R_drewN | apply Kd.R_drew)); exact HO_9.out))) (below_size (by repeat (first | (with_reducible first | exact HB.out | apply below_alloc | apply pw_below_drewN | apply below_drew1 | refine below_set ?_ GE224.out) | exact HB.out))))
                                                  have n4_ := Aside0.mk (Kd.R_lower ho1 (below_size (by repeat (first | (with_reducible first | exact HB.out | apply below_alloc | apply pw_below_drewN | apply below_drew1 | refine below_set ?_ GE224.out) | exact HB.out))))
                                                  have n5_ := Aside0.mk (blk_below (g := gb224) (o := .cells #[.int .i64 a3_0, .int .i64 a3_1, .int .i64 a3_2] 42 (0, 0)) (by (with_reducible repeat (first | refine blk_drewN ?_ _ | refine blk_drew ?_ | refine blk_alloc ?_ _)); exact BK224.out) hb)
                                                  have n6_ := Aside0.mk (below_step (by repeat (first | (with_reducible first | exact HB.out | apply below_alloc | apply pw_below_drewN | apply below_drew1 | refine below_set ?_ GE224.out) | exact HB.out)) hb)
                                                  clear HO_9
                                                  clear HO266
                                                  clear HO269
                                                  clear BK224
                                                  clear HB
                                                  have HO_9 := n0_
                                                  have HO266 := n1_
                                                  have HO269 := n2_
                                                  have HO274 := n3_
                                                  have HO276 := n4_
                                                  have BK224 := n5_
                                                  have HB := n6_
                                                  clear n0_ n1_ n2_ n3_ n4_ n5_ n6_
                                                  (try clear hb)
                                                  (try clear hb2)
                                                  (try clear hk)
                                                  (try clear hi)
                                                  (try clear ho0)
                                                  (try clear ho1)
                                                  refine hK.out _ _ ⟨(blk_cell BK224.out 0).trans rfl, (blk_cell BK224.out 1).trans rfl, (blk_cell BK224.out 2).trans rfl⟩ (fun hHeld => ?_)
                                                  clear hK K
                                                  refine norm_ (a' := ?_) ?_ ?_
                                                  rotate_left
                                                  · show Act.put _ (some 130) _ = _
                                                    simp only [Act.put, List.setIfInBounds_toArray, List.set_cons_zero, List.set_cons_succ, i64_w, i32_w]
                                                    rfl
                                                  refine pure_ (i := 14) (N := some 116) (v := ?_) (a' := ?_) #[true, true, true, true, true, true, true, true, true, true, true, true, true, true, true, false, false, false, false, false, false] rfl rfl (any_of HT_.out (by kernel_rfl)) (fun _ _ _ h => h) (Or.inl ⟨by rfl, ?_⟩) ?_ ?_
                                                  rotate_left
                                                  · intro w'
                                                    go_simp
                                                    with_reducible rfl
                                                  rotate_left
                                                  · simp only [Act.put, List.setIfInBounds_toArray, List.set_cons_zero, List.set_cons_succ, i64_w, i32_w]
                                                    rfl
                                                  refine pure_ (i := 15) (N := some 131) (v := ?_) (a' := ?_) #[true, true, true, true, true, true, true, true, true, true, true, true, true, true, true, true, false, false, false, false, false] rfl rfl (any_of HT_.out (by kernel_rfl)) (fun _ _ _ h => h) (Or.inl ⟨by rfl, ?_⟩) ?_ ?_
                                                  rotate_left
                                                  · intro w'
                                                    go_simp
                                                    with_reducible rfl
                                                  rotate_left
                                                  · simp only [Act.put, List.setIfInBounds_toArray, List.set_cons_zero, List.set_cons_succ, i64_w, i32_w]
                                                    rfl
                                                  refine pure_ (i := 16) (N := some 132) (v := ?_) (a' := ?_) #[true, true, true, true, true, true, true, true, true, true, true, true, true, true, true, true, true, false, false, false, false] rfl rfl (any_of HT_.out (by kernel_rfl)) (fun _ _ _ h => h) (Or.inl ⟨by rfl, ?_⟩) ?_ ?_
                                                  rotate_left
                                                  · intro w'
                                                    go_simp
                                                    with_reducible rfl
                                                  rotate_left
                                                  · simp only [Act.put, List.setIfInBounds_toArray, List.set_cons_zero, List.set_cons_succ, i64_w, i32_w]
                                                    rfl
                                                  refine pure_ (i := 17) (N := some 133) (v := ?_) (a' := ?_) #[true, true, true, true, true, true, true, true, true, true, true, true, true, true, true, true, true, true, false, false, false] rfl rfl (any_of HT_.out (by kernel_rfl)) (fun _ _ _ h => h) (Or.inl ⟨by rfl, ?_⟩) ?_ ?_
                                                  rotate_left
                                                  · intro w'
                                                    go_simp
                                                    with_reducible rfl
                                                  rotate_left
                                                  · simp only [Act.put, List.setIfInBounds_toArray, List.set_cons_zero, List.set_cons_succ, i64_w, i32_w]
                                                    rfl
                                                  refine pure_ (i := 18) (N := some 18) (v := ?_) (a' := ?_) #[true, true, true, true, true, true, true, true, true, true, true, true, true, true, true, true, true, true, true, false, false] rfl rfl (any_of HT_.out (by kernel_rfl)) (fun _ _ _ h => h) (Or.inl ⟨by rfl, ?_⟩) ?_ ?_
                                                  rotate_left
                                                  · intro w'
                                                    go_simp
                                                    with_reducible rfl
                                                  rotate_left
                                                  · simp only [Act.put, List.setIfInBounds_toArray, List.set_cons_zero, List.set_cons_succ, i64_w, i32_w]
                                                    rfl
                                                  refine pure_ (i := 19) (N := some 19) (v := ?_) (a' := ?_) #[true, true, true, true, true, true, true, true, true, true, true, true, true, true, true, true, true, true, true, true, false] rfl rfl (any_of HT_.out (by kernel_rfl)) (fun _ _ _ h => h) (Or.inl ⟨by rfl, ?_⟩) ?_ ?_
                                                  rotate_left
                                                  · intro w'
                                                    go_simp
                                                    with_reducible rfl
                                                  rotate_left
                                                  · simp only [Act.put, List.setIfInBounds_toArray, List.set_cons_zero, List.set_cons_succ, i64_w, i32_w]
                                                    rfl
                                                  refine pure_ (i := 20) (N := some 20) (v := ?_) (a' := ?_) #[true, true, true, true, true, true, true, true, true, true, true, true, true, true, true, true, true, true, true, true, true] rfl rfl (any_of HT_.out (by kernel_rfl)) (fun _ _ _ h => h) (Or.inl ⟨by rfl, ?_⟩) ?_ ?_
                                                  rotate_left
                                                  · intro w'
                                                    go_simp
                                                    with_reducible rfl
                                                  rotate_left
                                                  · simp only [Act.put, List.setIfInBounds_toArray, List.set_cons_zero, List.set_cons_succ, i64_w, i32_w]
                                                    rfl
                                                  refine done_ (done_of HT_.out (by kernel_rfl)) ?_
                                                  obtain ⟨Ao82, co82, eo82⟩ := Kd.R_slice HO274.out
                                                  subst eo82
                                                  try go_wp2_with (first | ((with_reducible refine gate_callee (f := 13) rfl ?_); refine goesL_ (some 136) rfl rfl Try.func13 (by kernel_rfl) rfl #[.slice Ao82 t270.length co82, .slice (some ad256) t226.length co40] rfl (by (try simp only [List.map_toArray, List.map_cons, List.map_nil]); first | done | rfl | (simp only [List.length_drop, List.length_take]; rfl)) ?_; (with_reducible refine (jitneyref01_SameLongs.calls kj49 _ _ t270 _ _ t226 t277 _ ?side1 ?side2 ?side3 ?side4 A69.out).mono ?_); (case side1 => repeat (first | exact (Kd.R_reads' HO274.out).2.2 | (with_reducible refine Kd.C_alloc ?_ _) | (with_reducible refine Kd.C_drewN ?_ _) | (with_reducible refine Kd.C_drew ?_))); (case side2 => exact (Kd.R_reads' HO274.out).2.1); (case side3 => repeat (first | exact (Kd.R_reads' HO_9.out).2.2 | (with_reducible refine Kd.C_alloc ?_ _) | (with_reducible refine Kd.C_drewN ?_ _) | (with_reducible refine Kd.C_drew ?_))); (case side4 => exact (Kd.R_reads' HO_9.out).2.1); rintro e w' ⟨rfl, ⟨nd, rfl⟩⟩; refine ⟨_, rfl, ?_⟩))
                                                  go_ret
                                                  exact ⟨by first | rfl | (simp [errW_none, errW_some] <;> rfl) | (simp only [← hji63]; first | rfl | (simp [errW_none, errW_some] <;> rfl)) | (simp [*, errW_none, errW_some] <;> rfl), by repeat (first | (with_reducible first | exact HB.out | apply below_alloc | apply pw_below_drewN | apply below_drew1 | refine below_set ?_ GE224.out) | exact HB.out)⟩
                                                · rw [if_neg c67] at H
                                                  exact absurd H (by simp)
                                              · rw [if_neg c66] at H
                                                exact absurd H (by simp)
                                          · rw [if_neg c62] at H
                                            exact absurd H (by simp)
                                        · rw [if_neg c61] at H
                                          exact absurd H (by simp)
                                      · rw [if_neg c60] at H
                                        exact absurd H (by simp)
                                    · rw [if_neg c59] at H
                                      exact absurd H (by simp)
            · rw [if_neg c14] at H
              exact absurd H (by simp)
          · rw [if_neg c13] at H
            exact absurd H (by simp)
  · replace c6 := Bool.eq_false_iff.mpr c6
    subst c6
    have H1 : (some false) = some r := by rw [if_neg (show ¬ (false = true) by decide)] at H; exact H
    clear H
    have H := H1
    clear H1
    obtain rfl := Option.some.inj H
    go_enter Try.func6, Try.ntmps6
    go_wp2_with (first | ((with_reducible refine gate_dst (N := 7) rfl ?_); (try (refine gate_guard (by rfl) ?_; dsimp only)); refine box_event ?hg (N := 7) ?hd (cs := #[.int .i64 a3_0, .int .i64 a3_1, .int .i64 a3_2]) (t := 42) ?hr ?_; (case hd => rfl); (case hg => rfl); (case hr => first | (go_simp; done) | (go_simp; rfl)); intro gb224 hg w83 hbox hb; have n0_ := Aside0.mk (below_step (by repeat (first | (with_reducible first | exact HB.out | apply below_alloc | apply pw_below_drewN | apply below_drew1) | exact HB.out)) hb); have n1_ := Aside0.mk (hbox); have n2_ := Aside0.mk ((by rw [hg]; exact (below_size (by repeat (first | (with_reducible first | exact HB.out | apply below_alloc | apply pw_below_drewN | apply below_drew1) | exact HB.out))) : w.heap.size ≤ gb224)); have n3_ := Aside0.mk ((by rw [hg]; exact (below_size (by repeat (first | (with_reducible first | exact HB.out | apply below_alloc | apply pw_below_drewN | apply below_drew1) | exact HB.out))) : w.heap.size ≤ gb224)); clear HB; have HB := n0_; have BK224 := n1_; have GW224 := n2_; have GE224 := n3_; clear n0_ n1_ n2_ n3_; clear hb hbox hg) | ((with_reducible refine gate_callee (f := 8) rfl ?_); refine goesL_ (some 21) rfl rfl Try.func8 (by kernel_rfl) rfl #[] rfl (by (try simp only [List.map_toArray, List.map_cons, List.map_nil]); first | done | rfl | (simp only [List.length_drop, List.length_take]; rfl)) ?_; (with_reducible refine (jitneylaw07_alive.calls  false _ A5.out).mono ?_); rintro e w84 ⟨rfl, hb⟩; refine ⟨_, rfl, ?_⟩; have n0_ := Aside0.mk (blk_below (g := gb224) (o := .cells #[.int .i64 a3_0, .int .i64 a3_1, .int .i64 a3_2] 42 (0, 0)) (by (with_reducible repeat (first | refine blk_drewN ?_ _ | refine blk_drew ?_ | refine blk_alloc ?_ _)); exact BK224.out) hb); have n1_ := Aside0.mk (below_step (by repeat (first | (with_reducible first | exact HB.out | apply below_alloc | apply pw_below_drewN | apply below_drew1 | refine below_set ?_ GE224.out) | exact HB.out)) hb); clear BK224; clear HB; have BK224 := n0_; have HB := n1_; clear n0_ n1_; (try clear hb); (try clear hb2); (try clear hk); (try clear hi)))
    go_ret
    exact ⟨by first | rfl | (simp [errW_none, errW_some] <;> rfl) | (simp [*, errW_none, errW_some] <;> rfl), by repeat (first | (with_reducible first | exact HB.out | apply below_alloc | apply pw_below_drewN | apply below_drew1 | refine below_set ?_ GE224.out) | exact HB.out)⟩

end Go.Proofs.Ytenjncmljmgcdaa.P
