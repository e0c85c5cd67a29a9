-- printed by the session's own program wip/xprint.py (over the kit's printer); nothing here is trusted: Lean checks it
import Derived.Test.YtocoapfnkkmkiaaP0
import Derived.Test.YtocoapfnkkmkiaaP1
import Derived.Test.YtocoapfnkkmkiaaP2
import Derived.Test.YtocoapfnkkmkiaaP3
import Derived.Test.YtocoapfnkkmkiaaP4
import Derived.Test.YtocoapfnkkmkiaaP5
namespace Go.Proofs.Ytocoapfnkkmkiaa.P
open Go.Proofs.YtocoapfnkkmkiaaR
open Go.RowKit Go.Proofs.YtocoapfnkkmkiaaW.PrintWords Go.Proofs.YtocoapfnkkmkiaaW.PrintLast Go.Proofs.YtocoapfnkkmkiaaW.PrintMore
attribute [local go_sem] max2_int min2_int max_two min_two max_three min_three max_four min_four   -- for this text's walks alone
set_option linter.unusedVariables false
set_option linter.unusedSimpArgs false

attribute [local go_sem high] eqA23
-- NOT PRINTED: function 6 (jitneylaw04_LoadAdds)

/-! ### jitneylaw04_LoadPeaks: function 7 -/
def jitneylaw04_LoadPeaks.l0 : Nat → List (S23) → List (S23) → Int → Int → Int → Int → Option (Bool)
  | 0, _, _, _, _, _, _ => none
  | k + 1, x0, x27, x28, x29, x263000, x263001 => if x29 < x28 then (if 0 ≤ x29 then (if x29 < (x27.length : Int) then (if ((rd_T23 x27 x29).f0) < 0 then (some true) else (if ((rd_T23 x27 x29).f1) < 0 then (some true) else (jitneylaw04_LoadPeaks.l0 k x0 x27 x28 (wrap64 (x29 + 1)) x263000 x263001))) else (none)) else (none)) else ((load_First.f x263000 x263001 x0).bind fun t265 => (if t265 = (-1) then (if (x0.length : Int) = 0 then (some true) else (if x263000 = 0 then (some true) else ((load_First.f (wrap64 (x263000 - 1)) x263001 x0).bind fun t267 => (some (decide (t267 ≥ 0)))))) else (some false)))
def jitneylaw04_LoadPeaks.f (k : Nat) (l0 : List (S23)) : Option (Bool) := (jitneylaw04_alive.f).bind fun t253 => (if t253 = true then (if (l0.length : Int) > 60 then (some true) else ((load_Profile.f k l0).bind fun bt254 => (if bt254.2 = true then ((load_Peak.f k l0).bind fun bt260 => (jitneylaw04_LoadPeaks.l0 k l0 bt254.1 (bt254.1.length : Int) 0 bt260.1 bt260.2)) else ((load_Peak.f k l0).bind fun bt258 => (some (bt258.1 == 0 && (bt258.2 == 0))))))) else (some false))
theorem jitneylaw04_LoadPeaks.mono_l : ∀ k, (∀ y0 y1 y2 y3 y4 y5, LeO (jitneylaw04_LoadPeaks.l0 k y0 y1 y2 y3 y4 y5) (jitneylaw04_LoadPeaks.l0 (k + 1) y0 y1 y2 y3 y4 y5))
  | 0 => fun _ _ _ _ _ _ r h => by simp [jitneylaw04_LoadPeaks.l0] at h
  | k + 1 => by
    have ih0 := jitneylaw04_LoadPeaks.mono_l k
    · intro y0 y1 y2 y3 y4 y5
      unfold jitneylaw04_LoadPeaks.l0
      repeat' first
      | (with_reducible exact ih0 _ _ _ _ _ _)
      | (with_reducible exact load_Peak.mono _ _)
      | (with_reducible exact load_Profile.mono _ _)
      | (with_reducible exact LeO.refl _)
      | (with_reducible exact LeO.none _)
      | (with_reducible refine LeO.ite ?_ ?_)
      | (with_reducible refine LeO.bind ?_ (fun _ => ?_))
      | exact ih0 _ _ _ _ _ _
      | exact load_Peak.mono _ _
      | exact load_Profile.mono _ _
      | exact LeO.none _
      | refine LeO.ite ?_ ?_
      | refine LeO.bind ?_ (fun _ => ?_)
theorem jitneylaw04_LoadPeaks.mono : ∀ a0 k, LeO (jitneylaw04_LoadPeaks.f k a0) (jitneylaw04_LoadPeaks.f (k + 1) a0) := by
  intro a0 k
  have ih0 := jitneylaw04_LoadPeaks.mono_l k
  unfold jitneylaw04_LoadPeaks.f
  repeat' first
      | (with_reducible exact ih0 _ _ _ _ _ _)
      | (with_reducible exact load_Peak.mono _ _)
      | (with_reducible exact load_Profile.mono _ _)
      | (with_reducible exact LeO.refl _)
      | (with_reducible exact LeO.none _)
      | (with_reducible refine LeO.ite ?_ ?_)
      | (with_reducible refine LeO.bind ?_ (fun _ => ?_))
      | exact ih0 _ _ _ _ _ _
      | exact load_Peak.mono _ _
      | exact load_Profile.mono _ _
      | exact LeO.none _
      | refine LeO.ite ?_ ?_
      | refine LeO.bind ?_ (fun _ => ?_)
set_option maxHeartbeats 8000000 in
set_option maxRecDepth 100000 in
theorem jitneylaw04_LoadPeaks.calls (k : Nat) (A0 : Option Addr) (c0 : Nat) (l0 : List (S23)) (r : Bool) (w : World) (hr0 : Kd.C k23 w A0 l0.length l0) (hc0 : l0.length ≤ c0) (h : jitneylaw04_LoadPeaks.f k l0 = some r) :
    Calls Try.prog 7 #[.slice A0 l0.length c0] w fun e w' => e = .returned (.bool r) ∧ Below w.heap.size w w' := by
  have hu23 := Try.underlying23
  have HR0 := Aside0.mk hr0
  have HC0 := Aside0.mk hc0
  clear hr0 hc0
  have HB := Aside0.mk (Below.refl w.heap.size w)
  have H : ((jitneylaw04_alive.f).bind fun t253 => (if t253 = true then (if (l0.length : Int) > 60 then (some true) else ((load_Profile.f k l0).bind fun bt254 => (if bt254.2 = true then ((load_Peak.f k l0).bind fun bt260 => (jitneylaw04_LoadPeaks.l0 k l0 bt254.1 (bt254.1.length : Int) 0 bt260.1 bt260.2)) else ((load_Peak.f k l0).bind fun bt258 => (some (bt258.1 == 0 && (bt258.2 == 0))))))) else (some false))) = some r := h
  clear h
  replace H := Option.bind_eq_some_iff.mp H
  obtain ⟨t253, A20, H⟩ := H
  replace H : (if t253 = true then (if (l0.length : Int) > 60 then (some true) else ((load_Profile.f k l0).bind fun bt254 => (if bt254.2 = true then ((load_Peak.f k l0).bind fun bt260 => (jitneylaw04_LoadPeaks.l0 k l0 bt254.1 (bt254.1.length : Int) 0 bt260.1 bt260.2)) else ((load_Peak.f k l0).bind fun bt258 => (some (bt258.1 == 0 && (bt258.2 == 0))))))) else (some false)) = some r := H
  have A2 := Aside0.mk A20
  clear A20
  by_cases c3 : t253 = true
  · subst c3
    have H1 : (if (l0.length : Int) > 60 then (some true) else ((load_Profile.f k l0).bind fun bt254 => (if bt254.2 = true then ((load_Peak.f k l0).bind fun bt260 => (jitneylaw04_LoadPeaks.l0 k l0 bt254.1 (bt254.1.length : Int) 0 bt260.1 bt260.2)) else ((load_Peak.f k l0).bind fun bt258 => (some (bt258.1 == 0 && (bt258.2 == 0))))))) = some r := by rw [if_pos rfl] at H; exact H
    clear H
    have H := H1
    clear H1
    by_cases c4 : (l0.length : Int) > 60
    · rw [if_pos c4] at H
      have c4b0 : decide (60 < (l0.length : Int)) = true := decide_eq_true c4
      have c4b1 : decide (60 < l0.length) = true := decide_eq_true (by omega)
      clear c4
      obtain rfl := Option.some.inj H
      go_enter Try.func7, Try.ntmps7
      go_wp2_with (first | ((with_reducible refine gate_callee (f := 8) rfl ?_); refine goesL_ (some 9) rfl rfl Try.func8 (by kernel_rfl) rfl #[] rfl (by (try simp only [List.map_toArray, List.map_cons, List.map_nil]); first | done | rfl | (simp only [List.length_drop, List.length_take]; rfl)) ?_; (with_reducible refine (jitneylaw04_alive.calls  true _ A2.out).mono ?_); rintro e w5 ⟨rfl, hb⟩; refine ⟨_, rfl, ?_⟩; have n0_ := Aside0.mk (below_step (by repeat (first | (with_reducible first | exact HB.out | apply below_alloc | apply pw_below_drewN | apply below_drew1) | exact HB.out)) hb); clear HB; have HB := n0_; clear n0_; (try clear hb); (try clear hb2); (try clear hk); (try clear hi)))
      go_ret
      exact ⟨by first | rfl | (simp [errW_none, errW_some] <;> rfl) | (simp [*, errW_none, errW_some] <;> rfl), by repeat (first | (with_reducible first | exact HB.out | apply below_alloc | apply pw_below_drewN | apply below_drew1) | exact HB.out)⟩
    · rw [if_neg c4] at H
      have c4b0 : decide (60 < (l0.length : Int)) = false := decide_eq_false c4
      have c4b1 : decide (60 < l0.length) = false := decide_eq_false (by omega)
      clear c4
      replace H := Option.bind_eq_some_iff.mp H
      obtain ⟨⟨t254, t255⟩, A60, H⟩ := H
      replace H : (if t255 = true then ((load_Peak.f k l0).bind fun bt260 => (jitneylaw04_LoadPeaks.l0 k l0 t254 (t254.length : Int) 0 bt260.1 bt260.2)) else ((load_Peak.f k l0).bind fun bt258 => (some (bt258.1 == 0 && (bt258.2 == 0))))) = some r := H
      have A6 := Aside0.mk A60
      clear A60
      by_cases c7 : t255 = true
      · subst c7
        have H1 : ((load_Peak.f k l0).bind fun bt260 => (jitneylaw04_LoadPeaks.l0 k l0 t254 (t254.length : Int) 0 bt260.1 bt260.2)) = some r := by rw [if_pos rfl] at H; exact H
        clear H
        have H := H1
        clear H1
        replace H := Option.bind_eq_some_iff.mp H
        obtain ⟨⟨t260, t261⟩, A80, H⟩ := H
        replace H : (jitneylaw04_LoadPeaks.l0 k l0 t254 (t254.length : Int) 0 t260 t261) = some r := H
        have A8 := Aside0.mk A80
        clear A80
        have H' := Aside0.mk H
        clear H
        go_enter Try.func7, Try.ntmps7
        go_wp2_with (first | ((with_reducible refine gate_callee (f := 8) rfl ?_); refine goesL_ (some 9) rfl rfl Try.func8 (by kernel_rfl) rfl #[] rfl (by (try simp only [List.map_toArray, List.map_cons, List.map_nil]); first | done | rfl | (simp only [List.length_drop, List.length_take]; rfl)) ?_; (with_reducible refine (jitneylaw04_alive.calls  true _ A2.out).mono ?_); rintro e w9 ⟨rfl, hb⟩; refine ⟨_, rfl, ?_⟩; have n0_ := Aside0.mk (below_step (by repeat (first | (with_reducible first | exact HB.out | apply below_alloc | apply pw_below_drewN | apply below_drew1) | exact HB.out)) hb); clear HB; have HB := n0_; clear n0_; (try clear hb); (try clear hb2); (try clear hk); (try clear hi)) | ((with_reducible refine gate_callee (f := 17) rfl ?_); refine goesL_ (some 16) rfl rfl Try.func17 (by kernel_rfl) rfl #[.slice A0 l0.length c0] rfl (by (try simp only [List.map_toArray, List.map_cons, List.map_nil]); first | done | rfl | (simp only [List.length_drop, List.length_take]; rfl)) ?_; (with_reducible refine (load_Profile.calls k _ _ l0 t254 true _ ?side1 ?side2 A6.out).mono ?_); (case side1 => repeat (first | exact (Kd.C_below HR0.out HB.out) | (with_reducible refine Kd.C_alloc ?_ _) | (with_reducible refine Kd.C_drewN ?_ _) | (with_reducible refine Kd.C_drew ?_))); (case side2 => exact HC0.out); rintro e w10 ⟨v256, rfl, ho0, hb⟩; refine ⟨_, rfl, ?_⟩; have n0_ := Aside0.mk (Kd.R_lower ho0 (below_size (by repeat (first | (with_reducible first | exact HB.out | apply below_alloc | apply pw_below_drewN | apply below_drew1) | exact HB.out)))); have n1_ := Aside0.mk (below_step (by repeat (first | (with_reducible first | exact HB.out | apply below_alloc | apply pw_below_drewN | apply below_drew1) | exact HB.out)) hb); clear HB; have HO257 := n0_; have HB := n1_; clear n0_ n1_; (try clear hb); (try clear hb2); (try clear hk); (try clear hi); (try clear ho0)) | ((with_reducible refine gate_callee (f := 21) rfl ?_); refine goesL_ (some 26) rfl rfl Try.func21 (by kernel_rfl) rfl #[.slice A0 l0.length c0] rfl (by (try simp only [List.map_toArray, List.map_cons, List.map_nil]); first | done | rfl | (simp only [List.length_drop, List.length_take]; rfl)) ?_; (with_reducible refine (load_Peak.calls k _ _ l0 t260 t261 _ ?side1 ?side2 A8.out).mono ?_); (case side1 => repeat (first | exact (Kd.C_below HR0.out HB.out) | (with_reducible refine Kd.C_alloc ?_ _) | (with_reducible refine Kd.C_drewN ?_ _) | (with_reducible refine Kd.C_drew ?_))); (case side2 => exact HC0.out); rintro e w11 ⟨rfl, hb⟩; refine ⟨_, rfl, ?_⟩; have n0_ := Aside0.mk (Kd.R_below (by (with_reducible repeat (first | apply Kd.R_alloc | apply Kd.R_drewN | apply Kd.R_drew)); exact HO257.out) hb); have n1_ := Aside0.mk (below_step (by repeat (first | (with_reducible first | exact HB.out | apply below_alloc | apply pw_below_drewN | apply below_drew1) | exact HB.out)) hb); clear HO257; clear HB; have HO257 := n0_; have HB := n1_; clear n0_ n1_; (try clear hb); (try clear hb2); (try clear hk); (try clear hi)) | ((with_reducible refine gate_dst (N := 5) rfl ?_); refine box_event ?hg (N := 5) ?hd (cs := #[.int .i64 0, .int .i64 0]) (t := 23) ?hr ?_; (case hd => rfl); (case hg => rfl); (case hr => first | (go_simp; done) | (go_simp; rfl)); intro gb262 hg w12 hbox hb; have n0_ := Aside0.mk (Kd.R_below (Kd.R_elderB (by (with_reducible repeat (first | apply Kd.R_alloc | apply Kd.R_drewN | apply Kd.R_drew)); exact HO257.out) gb262 (Nat.le_of_eq hg.symm)) hb); have n1_ := Aside0.mk (below_step (by repeat (first | (with_reducible first | exact HB.out | apply below_alloc | apply pw_below_drewN | apply below_drew1) | exact HB.out)) hb); have n2_ := Aside0.mk (hbox); have n3_ := Aside0.mk ((by rw [hg]; exact (below_size (by repeat (first | (with_reducible first | exact HB.out | apply below_alloc | apply pw_below_drewN | apply below_drew1) | exact HB.out))) : w.heap.size ≤ gb262)); have n4_ := Aside0.mk ((by rw [hg]; exact (below_size (by repeat (first | (with_reducible first | exact HB.out | apply below_alloc | apply pw_below_drewN | apply below_drew1) | exact HB.out))) : w.heap.size ≤ gb262)); clear HO257; clear HB; have HO257 := n0_; have HB := n1_; have BK262 := n2_; have GW262 := n3_; have GE262 := n4_; clear n0_ n1_ n2_ n3_ n4_; clear hb hbox hg; have hcz13_0 : w12.cell? ⟨gb262, 0, none⟩ = some (.int .i64 0) := (blk_cell BK262.out 0).trans rfl; have hcz13_1 : w12.cell? ⟨gb262, 1, none⟩ = some (.int .i64 0) := (blk_cell BK262.out 1).trans rfl; have hfz13_0 := blk_frozen BK262.out 0; have hfz13_1 := blk_frozen BK262.out 1; obtain ⟨Ao14, co14, eo14⟩ := Kd.R_slice HO257.out; subst eo14))
        go_loopg [29] k (fun kq v29 w' => ∃ (x29_1 : Int), v29 = .int .i64 x29_1 ∧ Aside0 (jitneylaw04_LoadPeaks.l0 kq l0 t254 (t254.length : Int) x29_1 t260 t261 = some r) ∧ Aside0 (kq ≤ k) ∧ Aside0 (Kd.R k23 23 w' w.heap.size (fun k_ => k_ ≠ gb262) (.slice Ao14 t254.length co14) t254) ∧ Aside0 (w'.heap[gb262]? = some (.cells #[.int .i64 t260, .int .i64 t261] 23 (0, 0))) ∧ Aside0 (Below w.heap.size w w'))
        case atStart => exact ⟨(0), (by first | rfl | (simp; done) | (simp [*]; done)), H', ⟨Nat.le_refl _⟩, ⟨by (with_reducible repeat (first | apply Kd.R_alloc | apply Kd.R_drewN | apply Kd.R_drew)); exact Kd.R_mono (Kd.R_far (p := ⟨gb262, 1, none⟩) (Kd.R_far (p := ⟨gb262, 0, none⟩) (Kd.R_mono HO257.out (fun k_ hk => (⟨hk, hk.2⟩ : _ ∧ k_ ≠ gb262))) (fun _ hk => hk.2) (.int .i64 t260)) (fun _ hk => hk.2) (.int .i64 t261)) (fun _ hk => hk.1.2)⟩, ⟨by (with_reducible repeat (first | refine blk_drewN ?_ _ | refine blk_drew ?_ | refine blk_alloc ?_ _)); refine blk_put (cs := #[.int .i64 t260, .int .i64 0]) ?_ 1 _ rfl; (with_reducible repeat (first | refine blk_drewN ?_ _ | refine blk_drew ?_ | refine blk_alloc ?_ _)); refine blk_put (cs := #[.int .i64 0, .int .i64 0]) ?_ 0 _ rfl; (with_reducible repeat (first | refine blk_drewN ?_ _ | refine blk_drew ?_ | refine blk_alloc ?_ _)); exact BK262.out⟩, ⟨by repeat (first | (with_reducible first | exact HB.out | apply below_alloc | apply pw_below_drewN | apply below_drew1 | refine below_set ?_ GE262.out) | exact HB.out)⟩⟩
        case round =>
          clear H'
          try clear c1
          try clear c2
          try clear p2
          try clear c3
          try clear c4
          try clear c4b0
          try clear c4b1
          try clear c7
          try clear c8
          try clear hcz13_0
          try clear hcz13_1
          try clear hfz13_0
          try clear hfz13_1
          obtain ⟨x29_1, rfl, HA, HK1, HO_27, BK262, HB⟩ := hrel
          cases gk with
          | zero => exact absurd HA.out (by simp [jitneylaw04_LoadPeaks.l0])
          | succ k1 =>
            have H := HA.out
            clear HA
            simp only [jitneylaw04_LoadPeaks.l0] at H
            by_cases c15 : x29_1 < (t254.length : Int)
            · rw [if_pos c15] at H
              have c15b0 : decide (x29_1 < (t254.length : Int)) = true := decide_eq_true c15
              clear c15
              by_cases c16 : 0 ≤ x29_1
              · rw [if_pos c16] at H
                have c16b0 : decide (0 ≤ x29_1) = true := decide_eq_true c16
                clear c16
                by_cases c17 : x29_1 < (t254.length : Int)
                · rw [if_pos c17] at H
                  have c17b0 : decide (x29_1 < (t254.length : Int)) = true := decide_eq_true c17
                  clear c17
                  by_cases c18 : ((rd_T23 t254 x29_1).f0) < 0
                  · rw [if_pos c18] at H
                    have c18b0 : decide (((rd_T23 t254 x29_1).f0) < 0) = true := decide_eq_true c18
                    clear c18
                    obtain rfl := Option.some.inj H
                    have p263 : 0 ≤ (x29_1 : Int) := of_decide_eq_true (by first | (with_reducible assumption) | assumption)
                    have q263 : x29_1 < (t254.length : Int) := of_decide_eq_true (by first | (with_reducible assumption) | assumption)
                    obtain ⟨ad263, e263, hx263_0, hx263_1⟩ := at_T23 (Kd.R_reads' HO_27.out).2.2 x29_1 p263 q263
                    cases e263
                    replace p263 := eq_true p263
                    replace q263 := eq_true q263
                    go_wp2_with (first | ((with_reducible refine gate_dst (N := 7) rfl ?_); refine box_event ?hg (N := 7) ?hd (cs := #[.int .i64 0, .int .i64 0]) (t := 23) ?hr ?_; (case hd => rfl); (case hg => rfl); (case hr => first | (go_simp; done) | (go_simp; rfl)); intro gb264 hg w19 hbox hb; have n0_ := Aside0.mk (Kd.R_below (Kd.R_elderB (by (with_reducible repeat (first | apply Kd.R_alloc | apply Kd.R_drewN | apply Kd.R_drew)); exact HO_27.out) gb264 (Nat.le_of_eq hg.symm)) hb); have n1_ := Aside0.mk (blk_below (g := gb262) (o := .cells #[.int .i64 t260, .int .i64 t261] 23 (0, 0)) (by (with_reducible repeat (first | refine blk_drewN ?_ _ | refine blk_drew ?_ | refine blk_alloc ?_ _)); exact BK262.out) hb); have n2_ := Aside0.mk (below_step (by repeat (first | (with_reducible first | exact HB.out | apply below_alloc | apply pw_below_drewN | apply below_drew1 | refine below_set ?_ GE262.out) | exact HB.out)) hb); have n3_ := Aside0.mk (hbox); have n4_ := Aside0.mk ((by rw [hg]; exact (below_size (by repeat (first | (with_reducible first | exact HB.out | apply below_alloc | apply pw_below_drewN | apply below_drew1 | refine below_set ?_ GE262.out) | exact HB.out))) : w.heap.size ≤ gb264)); have n5_ := Aside0.mk ((by rw [hg]; exact (below_size (by repeat (first | (with_reducible first | exact HB.out | apply below_alloc | apply pw_below_drewN | apply below_drew1 | refine below_set ?_ GE262.out) | exact HB.out))) : w.heap.size ≤ gb264)); have n6_ := Aside0.mk ((by rw [hg]; exact Nat.ne_of_lt (blk_lt (g := gb262) (o := .cells #[.int .i64 t260, .int .i64 t261] 23 (0, 0)) (by (with_reducible repeat (first | refine blk_drewN ?_ _ | refine blk_drew ?_ | refine blk_alloc ?_ _)); exact BK262.out)) : gb262 ≠ gb264)); have n7_ := Aside0.mk ((by rw [hg]; exact Nat.ne_of_gt (blk_lt (g := gb262) (o := .cells #[.int .i64 t260, .int .i64 t261] 23 (0, 0)) (by (with_reducible repeat (first | refine blk_drewN ?_ _ | refine blk_drew ?_ | refine blk_alloc ?_ _)); exact BK262.out)) : gb264 ≠ gb262)); clear HO_27; clear BK262; clear HB; have HO_27 := n0_; have BK262 := n1_; have HB := n2_; have BK264 := n3_; have GW264 := n4_; have GE264 := n5_; have NB262_264 := n6_; have NB264_262 := n7_; clear n0_ n1_ n2_ n3_ n4_ n5_ n6_ n7_; clear hb hbox hg; have hnb20 := NB264_262.out; have hnc20 := NB262_264.out; have hcz21_0 : w19.cell? ⟨gb264, 0, none⟩ = some (.int .i64 0) := (blk_cell BK264.out 0).trans rfl; have hcz21_1 : w19.cell? ⟨gb264, 1, none⟩ = some (.int .i64 0) := (blk_cell BK264.out 1).trans rfl; have hfz21_0 := blk_frozen BK264.out 0; have hfz21_1 := blk_frozen BK264.out 1))
                    go_ret
                    exact ⟨by first | rfl | (simp [errW_none, errW_some] <;> rfl) | (simp [*, errW_none, errW_some] <;> rfl), by repeat (first | (with_reducible first | exact HB.out | apply below_alloc | apply pw_below_drewN | apply below_drew1 | refine below_set ?_ GE262.out | refine below_set ?_ GE264.out) | exact HB.out)⟩
                  · rw [if_neg c18] at H
                    have c18b0 : decide (((rd_T23 t254 x29_1).f0) < 0) = false := decide_eq_false c18
                    clear c18
                    by_cases c22 : ((rd_T23 t254 x29_1).f1) < 0
                    · rw [if_pos c22] at H
                      have c22b0 : decide (((rd_T23 t254 x29_1).f1) < 0) = true := decide_eq_true c22
                      clear c22
                      obtain rfl := Option.some.inj H
                      have p263 : 0 ≤ (x29_1 : Int) := of_decide_eq_true (by first | (with_reducible assumption) | assumption)
                      have q263 : x29_1 < (t254.length : Int) := of_decide_eq_true (by first | (with_reducible assumption) | assumption)
                      obtain ⟨ad263, e263, hx263_0, hx263_1⟩ := at_T23 (Kd.R_reads' HO_27.out).2.2 x29_1 p263 q263
                      cases e263
                      replace p263 := eq_true p263
                      replace q263 := eq_true q263
                      go_wp2_with (first | ((with_reducible refine gate_dst (N := 7) rfl ?_); refine box_event ?hg (N := 7) ?hd (cs := #[.int .i64 0, .int .i64 0]) (t := 23) ?hr ?_; (case hd => rfl); (case hg => rfl); (case hr => first | (go_simp; done) | (go_simp; rfl)); intro gb264 hg w23 hbox hb; have n0_ := Aside0.mk (Kd.R_below (Kd.R_elderB (by (with_reducible repeat (first | apply Kd.R_alloc | apply Kd.R_drewN | apply Kd.R_drew)); exact HO_27.out) gb264 (Nat.le_of_eq hg.symm)) hb); have n1_ := Aside0.mk (blk_below (g := gb262) (o := .cells #[.int .i64 t260, .int .i64 t261] 23 (0, 0)) (by (with_reducible repeat (first | refine blk_drewN ?_ _ | refine blk_drew ?_ | refine blk_alloc ?_ _)); exact BK262.out) hb); have n2_ := Aside0.mk (below_step (by repeat (first | (with_reducible first | exact HB.out | apply below_alloc | apply pw_below_drewN | apply below_drew1 | refine below_set ?_ GE262.out) | exact HB.out)) hb); have n3_ := Aside0.mk (hbox); have n4_ := Aside0.mk ((by rw [hg]; exact (below_size (by repeat (first | (with_reducible first | exact HB.out | apply below_alloc | apply pw_below_drewN | apply below_drew1 | refine below_set ?_ GE262.out) | exact HB.out))) : w.heap.size ≤ gb264)); have n5_ := Aside0.mk ((by rw [hg]; exact (below_size (by repeat (first | (with_reducible first | exact HB.out | apply below_alloc | apply pw_below_drewN | apply below_drew1 | refine below_set ?_ GE262.out) | exact HB.out))) : w.heap.size ≤ gb264)); have n6_ := Aside0.mk ((by rw [hg]; exact Nat.ne_of_lt (blk_lt (g := gb262) (o := .cells #[.int .i64 t260, .int .i64 t261] 23 (0, 0)) (by (with_reducible repeat (first | refine blk_drewN ?_ _ | refine blk_drew ?_ | refine blk_alloc ?_ _)); exact BK262.out)) : gb262 ≠ gb264)); have n7_ := Aside0.mk ((by rw [hg]; exact Nat.ne_of_gt (blk_lt (g := gb262) (o := .cells #[.int .i64 t260, .int .i64 t261] 23 (0, 0)) (by (with_reducible repeat (first | refine blk_drewN ?_ _ | refine blk_drew ?_ | refine blk_alloc ?_ _)); exact BK262.out)) : gb264 ≠ gb262)); clear HO_27; clear BK262; clear HB; have HO_27 := n0_; have BK262 := n1_; have HB := n2_; have BK264 := n3_; have GW264 := n4_; have GE264 := n5_; have NB262_264 := n6_; have NB264_262 := n7_; clear n0_ n1_ n2_ n3_ n4_ n5_ n6_ n7_; clear hb hbox hg; have hnb24 := NB264_262.out; have hnc24 := NB262_264.out; have hcz25_0 : w23.cell? ⟨gb264, 0, none⟩ = some (.int .i64 0) := (blk_cell BK264.out 0).trans rfl; have hcz25_1 : w23.cell? ⟨gb264, 1, none⟩ = some (.int .i64 0) := (blk_cell BK264.out 1).trans rfl; have hfz25_0 := blk_frozen BK264.out 0; have hfz25_1 := blk_frozen BK264.out 1))
                      go_ret
                      exact ⟨by first | rfl | (simp [errW_none, errW_some] <;> rfl) | (simp [*, errW_none, errW_some] <;> rfl), by repeat (first | (with_reducible first | exact HB.out | apply below_alloc | apply pw_below_drewN | apply below_drew1 | refine below_set ?_ GE262.out | refine below_set ?_ GE264.out) | exact HB.out)⟩
                    · rw [if_neg c22] at H
                      have c22b0 : decide (((rd_T23 t254 x29_1).f1) < 0) = false := decide_eq_false c22
                      clear c22
                      have H' := Aside0.mk H
                      clear H
                      have p263 : 0 ≤ (x29_1 : Int) := of_decide_eq_true (by first | (with_reducible assumption) | assumption)
                      have q263 : x29_1 < (t254.length : Int) := of_decide_eq_true (by first | (with_reducible assumption) | assumption)
                      obtain ⟨ad263, e263, hx263_0, hx263_1⟩ := at_T23 (Kd.R_reads' HO_27.out).2.2 x29_1 p263 q263
                      cases e263
                      replace p263 := eq_true p263
                      replace q263 := eq_true q263
                      go_wp2_with (first | ((with_reducible refine gate_dst (N := 7) rfl ?_); refine box_event ?hg (N := 7) ?hd (cs := #[.int .i64 0, .int .i64 0]) (t := 23) ?hr ?_; (case hd => rfl); (case hg => rfl); (case hr => first | (go_simp; done) | (go_simp; rfl)); intro gb264 hg w26 hbox hb; have n0_ := Aside0.mk (Kd.R_below (Kd.R_elderB (by (with_reducible repeat (first | apply Kd.R_alloc | apply Kd.R_drewN | apply Kd.R_drew)); exact HO_27.out) gb264 (Nat.le_of_eq hg.symm)) hb); have n1_ := Aside0.mk (blk_below (g := gb262) (o := .cells #[.int .i64 t260, .int .i64 t261] 23 (0, 0)) (by (with_reducible repeat (first | refine blk_drewN ?_ _ | refine blk_drew ?_ | refine blk_alloc ?_ _)); exact BK262.out) hb); have n2_ := Aside0.mk (below_step (by repeat (first | (with_reducible first | exact HB.out | apply below_alloc | apply pw_below_drewN | apply below_drew1 | refine below_set ?_ GE262.out) | exact HB.out)) hb); have n3_ := Aside0.mk (hbox); have n4_ := Aside0.mk ((by rw [hg]; exact (below_size (by repeat (first | (with_reducible first | exact HB.out | apply below_alloc | apply pw_below_drewN | apply below_drew1 | refine below_set ?_ GE262.out) | exact HB.out))) : w.heap.size ≤ gb264)); have n5_ := Aside0.mk ((by rw [hg]; exact (below_size (by repeat (first | (with_reducible first | exact HB.out | apply below_alloc | apply pw_below_drewN | apply below_drew1 | refine below_set ?_ GE262.out) | exact HB.out))) : w.heap.size ≤ gb264)); have n6_ := Aside0.mk ((by rw [hg]; exact Nat.ne_of_lt (blk_lt (g := gb262) (o := .cells #[.int .i64 t260, .int .i64 t261] 23 (0, 0)) (by (with_reducible repeat (first | refine blk_drewN ?_ _ | refine blk_drew ?_ | refine blk_alloc ?_ _)); exact BK262.out)) : gb262 ≠ gb264)); have n7_ := Aside0.mk ((by rw [hg]; exact Nat.ne_of_gt (blk_lt (g := gb262) (o := .cells #[.int .i64 t260, .int .i64 t261] 23 (0, 0)) (by (with_reducible repeat (first | refine blk_drewN ?_ _ | refine blk_drew ?_ | refine blk_alloc ?_ _)); exact BK262.out)) : gb264 ≠ gb262)); clear HO_27; clear BK262; clear HB; have HO_27 := n0_; have BK262 := n1_; have HB := n2_; have BK264 := n3_; have GW264 := n4_; have GE264 := n5_; have NB262_264 := n6_; have NB264_262 := n7_; clear n0_ n1_ n2_ n3_ n4_ n5_ n6_ n7_; clear hb hbox hg; have hnb27 := NB264_262.out; have hnc27 := NB262_264.out; have hcz28_0 : w26.cell? ⟨gb264, 0, none⟩ = some (.int .i64 0) := (blk_cell BK264.out 0).trans rfl; have hcz28_1 : w26.cell? ⟨gb264, 1, none⟩ = some (.int .i64 0) := (blk_cell BK264.out 1).trans rfl; have hfz28_0 := blk_frozen BK264.out 0; have hfz28_1 := blk_frozen BK264.out 1))
                      go_roundg k1
                      case measure => have := HK1.out; omega
                      case rel => exact ⟨(wrap64 (x29_1 + 1)), (by first | rfl | (simp; done) | (simp [*]; done)), H', ⟨by have := HK1.out; omega⟩, ⟨by (with_reducible repeat (first | apply Kd.R_alloc | apply Kd.R_drewN | apply Kd.R_drew)); exact Kd.R_mono (Kd.R_far (p := ⟨gb264, 1, none⟩) (Kd.R_far (p := ⟨gb264, 0, none⟩) (Kd.R_mono HO_27.out (fun k_ hk => (⟨hk, hk.2⟩ : _ ∧ k_ ≠ gb264))) (fun _ hk => hk.2) (.int .i64 ((rd_T23 t254 x29_1).f0))) (fun _ hk => hk.2) (.int .i64 ((rd_T23 t254 x29_1).f1))) (fun _ hk => hk.1.1)⟩, ⟨by (with_reducible repeat (first | refine blk_drewN ?_ _ | refine blk_drew ?_ | refine blk_alloc ?_ _)); refine blk_far ?_ NB262_264.out _; (with_reducible repeat (first | refine blk_drewN ?_ _ | refine blk_drew ?_ | refine blk_alloc ?_ _)); refine blk_far ?_ NB262_264.out _; (with_reducible repeat (first | refine blk_drewN ?_ _ | refine blk_drew ?_ | refine blk_alloc ?_ _)); exact BK262.out⟩, ⟨by repeat (first | (with_reducible first | exact HB.out | apply below_alloc | apply pw_below_drewN | apply below_drew1 | refine below_set ?_ GE262.out | refine below_set ?_ GE264.out) | exact HB.out)⟩⟩
                · rw [if_neg c17] at H
                  exact absurd H (by simp)
              · rw [if_neg c16] at H
                exact absurd H (by simp)
            · rw [if_neg c15] at H
              have c15b0 : decide (x29_1 < (t254.length : Int)) = false := decide_eq_false c15
              clear c15
              replace H := Option.bind_eq_some_iff.mp H
              obtain ⟨t265, A290, H⟩ := H
              replace H : (if t265 = (-1) then (if (l0.length : Int) = 0 then (some true) else (if t260 = 0 then (some true) else ((load_First.f (wrap64 (t260 - 1)) t261 l0).bind fun t267 => (some (decide (t267 ≥ 0)))))) else (some false)) = some r := H
              have A29 := Aside0.mk A290
              clear A290
              by_cases c30 : t265 = (-1)
              · rw [if_pos c30] at H
                have c30b0 : (t265 == (-1)) = true := beq_iff_eq.mpr c30
                have c30b1 : (t265 != (-1)) = false := bne_eq_false_iff_eq.mpr c30
                clear c30
                by_cases c31 : (l0.length : Int) = 0
                · rw [if_pos c31] at H
                  have c31b0 : ((l0.length : Int) == 0) = true := beq_iff_eq.mpr c31
                  have c31b1 : ((l0.length : Int) != 0) = false := bne_eq_false_iff_eq.mpr c31
                  clear c31
                  obtain rfl := Option.some.inj H
                  have hcz32_0 : wr.cell? ⟨gb262, 0, none⟩ = some (.int .i64 t260) := (blk_cell BK262.out 0).trans rfl
                  have hcz32_1 : wr.cell? ⟨gb262, 1, none⟩ = some (.int .i64 t261) := (blk_cell BK262.out 1).trans rfl
                  have hfz32_0 := blk_frozen BK262.out 0
                  have hfz32_1 := blk_frozen BK262.out 1
                  go_wp2_with (first | ((with_reducible refine gate_callee (f := 19) rfl ?_); refine goesL_ (some 44) rfl rfl Try.func19 (by kernel_rfl) rfl #[.agg #[.int .i64 t260, .int .i64 t261], .slice A0 l0.length c0] rfl (by (try simp only [List.map_toArray, List.map_cons, List.map_nil]); first | done | rfl | (simp only [List.length_drop, List.length_take]; rfl)) ?_; (with_reducible refine (load_First.calls t260 t261 _ _ l0 t265 _ ?side1 ?side2 A29.out).mono ?_); (case side1 => repeat (first | exact (Kd.C_below HR0.out HB.out) | (with_reducible refine Kd.C_alloc ?_ _) | (with_reducible refine Kd.C_drewN ?_ _) | (with_reducible refine Kd.C_drew ?_))); (case side2 => exact HC0.out); rintro e w33 ⟨rfl, hb⟩; refine ⟨_, rfl, ?_⟩; have n0_ := Aside0.mk (Kd.R_below (by (with_reducible repeat (first | apply Kd.R_alloc | apply Kd.R_drewN | apply Kd.R_drew)); exact HO_27.out) hb); have n1_ := Aside0.mk (blk_below (g := gb262) (o := .cells #[.int .i64 t260, .int .i64 t261] 23 (0, 0)) (by (with_reducible repeat (first | refine blk_drewN ?_ _ | refine blk_drew ?_ | refine blk_alloc ?_ _)); exact BK262.out) hb); have n2_ := Aside0.mk (below_step (by repeat (first | (with_reducible first | exact HB.out | apply below_alloc | apply pw_below_drewN | apply below_drew1 | refine below_set ?_ GE262.out) | exact HB.out)) hb); clear HO_27; clear BK262; clear HB; have HO_27 := n0_; have BK262 := n1_; have HB := n2_; clear n0_ n1_ n2_; (try clear hb); (try clear hb2); (try clear hk); (try clear hi); have hcz34_0 : w33.cell? ⟨gb262, 0, none⟩ = some (.int .i64 t260) := (blk_cell BK262.out 0).trans rfl; have hcz34_1 : w33.cell? ⟨gb262, 1, none⟩ = some (.int .i64 t261) := (blk_cell BK262.out 1).trans rfl; have hfz34_0 := blk_frozen BK262.out 0; have hfz34_1 := blk_frozen BK262.out 1) | ((with_reducible refine gate_dst (N := 8) rfl ?_); refine box_event ?hg (N := 8) ?hd (cs := #[.int .i64 0, .int .i64 0]) (t := 23) ?hr ?_; (case hd => rfl); (case hg => rfl); (case hr => first | (go_simp; done) | (go_simp; rfl)); intro gb266 hg w35 hbox hb; have n0_ := Aside0.mk (Kd.R_below (Kd.R_elderB (by (with_reducible repeat (first | apply Kd.R_alloc | apply Kd.R_drewN | apply Kd.R_drew)); exact HO_27.out) gb266 (Nat.le_of_eq hg.symm)) hb); have n1_ := Aside0.mk (blk_below (g := gb262) (o := .cells #[.int .i64 t260, .int .i64 t261] 23 (0, 0)) (by (with_reducible repeat (first | refine blk_drewN ?_ _ | refine blk_drew ?_ | refine blk_alloc ?_ _)); exact BK262.out) hb); have n2_ := Aside0.mk (below_step (by repeat (first | (with_reducible first | exact HB.out | apply below_alloc | apply pw_below_drewN | apply below_drew1 | refine below_set ?_ GE262.out) | exact HB.out)) hb); have n3_ := Aside0.mk (hbox); have n4_ := Aside0.mk ((by rw [hg]; exact (below_size (by repeat (first | (with_reducible first | exact HB.out | apply below_alloc | apply pw_below_drewN | apply below_drew1 | refine below_set ?_ GE262.out) | exact HB.out))) : w.heap.size ≤ gb266)); have n5_ := Aside0.mk ((by rw [hg]; exact (below_size (by repeat (first | (with_reducible first | exact HB.out | apply below_alloc | apply pw_below_drewN | apply below_drew1 | refine below_set ?_ GE262.out) | exact HB.out))) : w.heap.size ≤ gb266)); have n6_ := Aside0.mk ((by rw [hg]; exact Nat.ne_of_lt (blk_lt (g := gb262) (o := .cells #[.int .i64 t260, .int .i64 t261] 23 (0, 0)) (by (with_reducible repeat (first | refine blk_drewN ?_ _ | refine blk_drew ?_ | refine blk_alloc ?_ _)); exact BK262.out)) : gb262 ≠ gb266)); have n7_ := Aside0.mk ((by rw [hg]; exact Nat.ne_of_gt (blk_lt (g := gb262) (o := .cells #[.int .i64 t260, .int .i64 t261] 23 (0, 0)) (by (with_reducible repeat (first | refine blk_drewN ?_ _ | refine blk_drew ?_ | refine blk_alloc ?_ _)); exact BK262.out)) : gb266 ≠ gb262)); clear HO_27; clear BK262; clear HB; have HO_27 := n0_; have BK262 := n1_; have HB := n2_; have BK266 := n3_; have GW266 := n4_; have GE266 := n5_; have NB262_266 := n6_; have NB266_262 := n7_; clear n0_ n1_ n2_ n3_ n4_ n5_ n6_ n7_; clear hb hbox hg; have hnb36 := NB266_262.out; have hnc36 := NB262_266.out; have hcz37_0 : w35.cell? ⟨gb266, 0, none⟩ = some (.int .i64 0) := (blk_cell BK266.out 0).trans rfl; have hcz37_1 : w35.cell? ⟨gb266, 1, none⟩ = some (.int .i64 0) := (blk_cell BK266.out 1).trans rfl; have hfz37_0 := blk_frozen BK266.out 0; have hfz37_1 := blk_frozen BK266.out 1))
                  go_ret
                  exact ⟨by first | rfl | (simp [errW_none, errW_some] <;> rfl) | (simp [*, errW_none, errW_some] <;> rfl), by repeat (first | (with_reducible first | exact HB.out | apply below_alloc | apply pw_below_drewN | apply below_drew1 | refine below_set ?_ GE262.out | refine below_set ?_ GE266.out) | exact HB.out)⟩
                · rw [if_neg c31] at H
                  have c31b0 : ((l0.length : Int) == 0) = false := beq_eq_false_iff_ne.mpr c31
                  have c31b1 : ((l0.length : Int) != 0) = true := bne_iff_ne.mpr c31
                  have c31b2 : ¬ (l0 = []) := fun h_ => c31 (by rw [h_]; rfl)
                  by_cases c38 : t260 = 0
                  · rw [if_pos c38] at H
                    have c38b0 : (t260 == 0) = true := beq_iff_eq.mpr c38
                    have c38b1 : (t260 != 0) = false := bne_eq_false_iff_eq.mpr c38
                    clear c38
                    obtain rfl := Option.some.inj H
                    have hcz39_0 : wr.cell? ⟨gb262, 0, none⟩ = some (.int .i64 t260) := (blk_cell BK262.out 0).trans rfl
                    have hcz39_1 : wr.cell? ⟨gb262, 1, none⟩ = some (.int .i64 t261) := (blk_cell BK262.out 1).trans rfl
                    have hfz39_0 := blk_frozen BK262.out 0
                    have hfz39_1 := blk_frozen BK262.out 1
                    go_wp2_with (first | ((with_reducible refine gate_callee (f := 19) rfl ?_); refine goesL_ (some 44) rfl rfl Try.func19 (by kernel_rfl) rfl #[.agg #[.int .i64 t260, .int .i64 t261], .slice A0 l0.length c0] rfl (by (try simp only [List.map_toArray, List.map_cons, List.map_nil]); first | done | rfl | (simp only [List.length_drop, List.length_take]; rfl)) ?_; (with_reducible refine (load_First.calls t260 t261 _ _ l0 t265 _ ?side1 ?side2 A29.out).mono ?_); (case side1 => repeat (first | exact (Kd.C_below HR0.out HB.out) | (with_reducible refine Kd.C_alloc ?_ _) | (with_reducible refine Kd.C_drewN ?_ _) | (with_reducible refine Kd.C_drew ?_))); (case side2 => exact HC0.out); rintro e w40 ⟨rfl, hb⟩; refine ⟨_, rfl, ?_⟩; have n0_ := Aside0.mk (Kd.R_below (by (with_reducible repeat (first | apply Kd.R_alloc | apply Kd.R_drewN | apply Kd.R_drew)); exact HO_27.out) hb); have n1_ := Aside0.mk (blk_below (g := gb262) (o := .cells #[.int .i64 t260, .int .i64 t261] 23 (0, 0)) (by (with_reducible repeat (first | refine blk_drewN ?_ _ | refine blk_drew ?_ | refine blk_alloc ?_ _)); exact BK262.out) hb); have n2_ := Aside0.mk (below_step (by repeat (first | (with_reducible first | exact HB.out | apply below_alloc | apply pw_below_drewN | apply below_drew1 | refine below_set ?_ GE262.out) | exact HB.out)) hb); clear HO_27; clear BK262; clear HB; have HO_27 := n0_; have BK262 := n1_; have HB := n2_; clear n0_ n1_ n2_; (try clear hb); (try clear hb2); (try clear hk); (try clear hi); have hcz41_0 : w40.cell? ⟨gb262, 0, none⟩ = some (.int .i64 t260) := (blk_cell BK262.out 0).trans rfl; have hcz41_1 : w40.cell? ⟨gb262, 1, none⟩ = some (.int .i64 t261) := (blk_cell BK262.out 1).trans rfl; have hfz41_0 := blk_frozen BK262.out 0; have hfz41_1 := blk_frozen BK262.out 1) | ((with_reducible refine gate_dst (N := 8) rfl ?_); refine box_event ?hg (N := 8) ?hd (cs := #[.int .i64 0, .int .i64 0]) (t := 23) ?hr ?_; (case hd => rfl); (case hg => rfl); (case hr => first | (go_simp; done) | (go_simp; rfl)); intro gb266 hg w42 hbox hb; have n0_ := Aside0.mk (Kd.R_below (Kd.R_elderB (by (with_reducible repeat (first | apply Kd.R_alloc | apply Kd.R_drewN | apply Kd.R_drew)); exact HO_27.out) gb266 (Nat.le_of_eq hg.symm)) hb); have n1_ := Aside0.mk (blk_below (g := gb262) (o := .cells #[.int .i64 t260, .int .i64 t261] 23 (0, 0)) (by (with_reducible repeat (first | refine blk_drewN ?_ _ | refine blk_drew ?_ | refine blk_alloc ?_ _)); exact BK262.out) hb); have n2_ := Aside0.mk (below_step (by repeat (first | (with_reducible first | exact HB.out | apply below_alloc | apply pw_below_drewN | apply below_drew1 | refine below_set ?_ GE262.out) | exact HB.out)) hb); have n3_ := Aside0.mk (hbox); have n4_ := Aside0.mk ((by rw [hg]; exact (below_size (by repeat (first | (with_reducible first | exact HB.out | apply below_alloc | apply pw_below_drewN | apply below_drew1 | refine below_set ?_ GE262.out) | exact HB.out))) : w.heap.size ≤ gb266)); have n5_ := Aside0.mk ((by rw [hg]; exact (below_size (by repeat (first | (with_reducible first | exact HB.out | apply below_alloc | apply pw_below_drewN | apply below_drew1 | refine below_set ?_ GE262.out) | exact HB.out))) : w.heap.size ≤ gb266)); have n6_ := Aside0.mk ((by rw [hg]; exact Nat.ne_of_lt (blk_lt (g := gb262) (o := .cells #[.int .i64 t260, .int .i64 t261] 23 (0, 0)) (by (with_reducible repeat (first | refine blk_drewN ?_ _ | refine blk_drew ?_ | refine blk_alloc ?_ _)); exact BK262.out)) : gb262 ≠ gb266)); have n7_ := Aside0.mk ((by rw [hg]; exact Nat.ne_of_gt (blk_lt (g := gb262) (o := .cells #[.int .i64 t260, .int .i64 t261] 23 (0, 0)) (by (with_reducible repeat (first | refine blk_drewN ?_ _ | refine blk_drew ?_ | refine blk_alloc ?_ _)); exact BK262.out)) : gb266 ≠ gb262)); clear HO_27; clear BK262; clear HB; have HO_27 := n0_; have BK262 := n1_; have HB := n2_; have BK266 := n3_; have GW266 := n4_; have GE266 := n5_; have NB262_266 := n6_; have NB266_262 := n7_; clear n0_ n1_ n2_ n3_ n4_ n5_ n6_ n7_; clear hb hbox hg; have hnb43 := NB266_262.out; have hnc43 := NB262_266.out; have hcz44_0 : w42.cell? ⟨gb266, 0, none⟩ = some (.int .i64 0) := (blk_cell BK266.out 0).trans rfl; have hcz44_1 : w42.cell? ⟨gb266, 1, none⟩ = some (.int .i64 0) := (blk_cell BK266.out 1).trans rfl; have hfz44_0 := blk_frozen BK266.out 0; have hfz44_1 := blk_frozen BK266.out 1; have hcz45_0 : w42.cell? ⟨gb262, 0, none⟩ = some (.int .i64 t260) := (blk_cell BK262.out 0).trans rfl; have hcz45_1 : w42.cell? ⟨gb262, 1, none⟩ = some (.int .i64 t261) := (blk_cell BK262.out 1).trans rfl; have hfz45_0 := blk_frozen BK262.out 0; have hfz45_1 := blk_frozen BK262.out 1))
                    go_ret
                    exact ⟨by first | rfl | (simp [errW_none, errW_some] <;> rfl) | (simp [*, errW_none, errW_some] <;> rfl), by repeat (first | (with_reducible first | exact HB.out | apply below_alloc | apply pw_below_drewN | apply below_drew1 | refine below_set ?_ GE262.out | refine below_set ?_ GE266.out) | exact HB.out)⟩
                  · rw [if_neg c38] at H
                    have c38b0 : (t260 == 0) = false := beq_eq_false_iff_ne.mpr c38
                    have c38b1 : (t260 != 0) = true := bne_iff_ne.mpr c38
                    replace H := Option.bind_eq_some_iff.mp H
                    obtain ⟨t267, A460, H⟩ := H
                    replace H : (some (decide (t267 ≥ 0))) = some r := H
                    have A46 := Aside0.mk A460
                    clear A460
                    obtain rfl := Option.some.inj H
                    have hcz47_0 : wr.cell? ⟨gb262, 0, none⟩ = some (.int .i64 t260) := (blk_cell BK262.out 0).trans rfl
                    have hcz47_1 : wr.cell? ⟨gb262, 1, none⟩ = some (.int .i64 t261) := (blk_cell BK262.out 1).trans rfl
                    have hfz47_0 := blk_frozen BK262.out 0
                    have hfz47_1 := blk_frozen BK262.out 1
                    go_wp2_with (first | ((with_reducible refine gate_callee (f := 19) rfl ?_); refine goesL_ (some 44) rfl rfl Try.func19 (by kernel_rfl) rfl #[.agg #[.int .i64 t260, .int .i64 t261], .slice A0 l0.length c0] rfl (by (try simp only [List.map_toArray, List.map_cons, List.map_nil]); first | done | rfl | (simp only [List.length_drop, List.length_take]; rfl)) ?_; (with_reducible refine (load_First.calls t260 t261 _ _ l0 t265 _ ?side1 ?side2 A29.out).mono ?_); (case side1 => repeat (first | exact (Kd.C_below HR0.out HB.out) | (with_reducible refine Kd.C_alloc ?_ _) | (with_reducible refine Kd.C_drewN ?_ _) | (with_reducible refine Kd.C_drew ?_))); (case side2 => exact HC0.out); rintro e w48 ⟨rfl, hb⟩; refine ⟨_, rfl, ?_⟩; have n0_ := Aside0.mk (Kd.R_below (by (with_reducible repeat (first | apply Kd.R_alloc | apply Kd.R_drewN | apply Kd.R_drew)); exact HO_27.out) hb); have n1_ := Aside0.mk (blk_below (g := gb262) (o := .cells #[.int .i64 t260, .int .i64 t261] 23 (0, 0)) (by (with_reducible repeat (first | refine blk_drewN ?_ _ | refine blk_drew ?_ | refine blk_alloc ?_ _)); exact BK262.out) hb); have n2_ := Aside0.mk (below_step (by repeat (first | (with_reducible first | exact HB.out | apply below_alloc | apply pw_below_drewN | apply below_drew1 | refine below_set ?_ GE262.out) | exact HB.out)) hb); clear HO_27; clear BK262; clear HB; have HO_27 := n0_; have BK262 := n1_; have HB := n2_; clear n0_ n1_ n2_; (try clear hb); (try clear hb2); (try clear hk); (try clear hi); have hcz49_0 : w48.cell? ⟨gb262, 0, none⟩ = some (.int .i64 t260) := (blk_cell BK262.out 0).trans rfl; have hcz49_1 : w48.cell? ⟨gb262, 1, none⟩ = some (.int .i64 t261) := (blk_cell BK262.out 1).trans rfl; have hfz49_0 := blk_frozen BK262.out 0; have hfz49_1 := blk_frozen BK262.out 1) | ((with_reducible refine gate_dst (N := 8) rfl ?_); refine box_event ?hg (N := 8) ?hd (cs := #[.int .i64 0, .int .i64 0]) (t := 23) ?hr ?_; (case hd => rfl); (case hg => rfl); (case hr => first | (go_simp; done) | (go_simp; rfl)); intro gb266 hg w50 hbox hb; have n0_ := Aside0.mk (Kd.R_below (Kd.R_elderB (by (with_reducible repeat (first | apply Kd.R_alloc | apply Kd.R_drewN | apply Kd.R_drew)); exact HO_27.out) gb266 (Nat.le_of_eq hg.symm)) hb); have n1_ := Aside0.mk (blk_below (g := gb262) (o := .cells #[.int .i64 t260, .int .i64 t261] 23 (0, 0)) (by (with_reducible repeat (first | refine blk_drewN ?_ _ | refine blk_drew ?_ | refine blk_alloc ?_ _)); exact BK262.out) hb); have n2_ := Aside0.mk (below_step (by repeat (first | (with_reducible first | exact HB.out | apply below_alloc | apply pw_below_drewN | apply below_drew1 | refine below_set ?_ GE262.out) | exact HB.out)) hb); have n3_ := Aside0.mk (hbox); have n4_ := Aside0.mk ((by rw [hg]; exact (below_size (by repeat (first | (with_reducible first | exact HB.out | apply below_alloc | apply pw_below_drewN | apply below_drew1 | refine below_set ?_ GE262.out) | exact HB.out))) : w.heap.size ≤ gb266)); have n5_ := Aside0.mk ((by rw [hg]; exact (below_size (by repeat (first | (with_reducible first | exact HB.out | apply below_alloc | apply pw_below_drewN | apply below_drew1 | refine below_set ?_ GE262.out) | exact HB.out))) : w.heap.size ≤ gb266)); have n6_ := Aside0.mk ((by rw [hg]; exact Nat.ne_of_lt (blk_lt (g := gb262) (o := .cells #[.int .i64 t260, .int .i64 t261] 23 (0, 0)) (by (with_reducible repeat (first | refine blk_drewN ?_ _ | refine blk_drew ?_ | refine blk_alloc ?_ _)); exact BK262.out)) : gb262 ≠ gb266)); have n7_ := Aside0.mk ((by rw [hg]; exact Nat.ne_of_gt (blk_lt (g := gb262) (o := .cells #[.int .i64 t260, .int .i64 t261] 23 (0, 0)) (by (with_reducible repeat (first | refine blk_drewN ?_ _ | refine blk_drew ?_ | refine blk_alloc ?_ _)); exact BK262.out)) : gb266 ≠ gb262)); clear HO_27; clear BK262; clear HB; have HO_27 := n0_; have BK262 := n1_; have HB := n2_; have BK266 := n3_; have GW266 := n4_; have GE266 := n5_; have NB262_266 := n6_; have NB266_262 := n7_; clear n0_ n1_ n2_ n3_ n4_ n5_ n6_ n7_; clear hb hbox hg; have hnb51 := NB266_262.out; have hnc51 := NB262_266.out; have hcz52_0 : w50.cell? ⟨gb266, 0, none⟩ = some (.int .i64 0) := (blk_cell BK266.out 0).trans rfl; have hcz52_1 : w50.cell? ⟨gb266, 1, none⟩ = some (.int .i64 0) := (blk_cell BK266.out 1).trans rfl; have hfz52_0 := blk_frozen BK266.out 0; have hfz52_1 := blk_frozen BK266.out 1; have hcz53_0 : w50.cell? ⟨gb262, 0, none⟩ = some (.int .i64 t260) := (blk_cell BK262.out 0).trans rfl; have hcz53_1 : w50.cell? ⟨gb262, 1, none⟩ = some (.int .i64 t261) := (blk_cell BK262.out 1).trans rfl; have hfz53_0 := blk_frozen BK262.out 0; have hfz53_1 := blk_frozen BK262.out 1) | (go_at_call 19; (with_reducible refine (load_First.calls (wrap64 (t260 - 1)) t261 _ _ l0 t267 _ ?side1 ?side2 A46.out).mono ?_); (case side1 => exact Kd.C_below HR0.out (by repeat (first | (with_reducible first | exact HB.out | apply below_alloc | apply pw_below_drewN | apply below_drew1 | refine below_set ?_ GE262.out | refine below_set ?_ GE266.out) | exact HB.out))); (case side2 => exact HC0.out); rintro e w54 ⟨rfl, hb⟩; have n0_ := Aside0.mk (Kd.R_below (by (with_reducible repeat (first | apply Kd.R_alloc | apply Kd.R_drewN | apply Kd.R_drew)); exact (Kd.R_mono (Kd.R_far (p := ⟨gb266, 1, none⟩) (Kd.R_far (p := ⟨gb266, 0, none⟩) (Kd.R_mono HO_27.out (fun k_ hk => (⟨hk, hk.2⟩ : _ ∧ k_ ≠ gb266))) (fun _ hk => hk.2) (.int .i64 (wrap64 (t260 - 1)))) (fun _ hk => hk.2) (.int .i64 t261)) (fun _ h_ => h_.1))) hb); have n1_ := Aside0.mk (blk_below (g := gb262) (o := .cells #[.int .i64 t260, .int .i64 t261] 23 (0, 0)) (by (with_reducible repeat (first | refine blk_drewN ?_ _ | refine blk_drew ?_ | refine blk_alloc ?_ _)); refine blk_far ?_ NB262_266.out _; (with_reducible repeat (first | refine blk_drewN ?_ _ | refine blk_drew ?_ | refine blk_alloc ?_ _)); refine blk_far ?_ NB262_266.out _; (with_reducible repeat (first | refine blk_drewN ?_ _ | refine blk_drew ?_ | refine blk_alloc ?_ _)); exact BK262.out) hb); have n2_ := Aside0.mk (blk_below (g := gb266) (o := .cells #[.int .i64 (wrap64 (t260 - 1)), .int .i64 t261] 23 (0, 0)) (by (with_reducible repeat (first | refine blk_drewN ?_ _ | refine blk_drew ?_ | refine blk_alloc ?_ _)); refine blk_put (cs := #[.int .i64 (wrap64 (t260 - 1)), .int .i64 0]) ?_ 1 _ rfl; (with_reducible repeat (first | refine blk_drewN ?_ _ | refine blk_drew ?_ | refine blk_alloc ?_ _)); refine blk_put (cs := #[.int .i64 0, .int .i64 0]) ?_ 0 _ rfl; (with_reducible repeat (first | refine blk_drewN ?_ _ | refine blk_drew ?_ | refine blk_alloc ?_ _)); exact BK266.out) hb); have n3_ := Aside0.mk (below_step (by repeat (first | (with_reducible first | exact HB.out | apply below_alloc | apply pw_below_drewN | apply below_drew1 | refine below_set ?_ GE262.out | refine below_set ?_ GE266.out) | exact HB.out)) hb); clear HO_27; clear BK262; clear BK266; clear HB; have HO_27 := n0_; have BK262 := n1_; have BK266 := n2_; have HB := n3_; clear n0_ n1_ n2_ n3_; (try clear hb); (try clear hb2); (try clear hk); (try clear hi)))
                    go_ret
                    exact ⟨by first | rfl | (simp [errW_none, errW_some] <;> rfl) | (simp [*, errW_none, errW_some] <;> rfl), by repeat (first | (with_reducible first | exact HB.out | apply below_alloc | apply pw_below_drewN | apply below_drew1 | refine below_set ?_ GE262.out | refine below_set ?_ GE266.out) | exact HB.out)⟩
              · rw [if_neg c30] at H
                have c30b0 : (t265 == (-1)) = false := beq_eq_false_iff_ne.mpr c30
                have c30b1 : (t265 != (-1)) = true := bne_iff_ne.mpr c30
                obtain rfl := Option.some.inj H
                have hcz55_0 : wr.cell? ⟨gb262, 0, none⟩ = some (.int .i64 t260) := (blk_cell BK262.out 0).trans rfl
                have hcz55_1 : wr.cell? ⟨gb262, 1, none⟩ = some (.int .i64 t261) := (blk_cell BK262.out 1).trans rfl
                have hfz55_0 := blk_frozen BK262.out 0
                have hfz55_1 := blk_frozen BK262.out 1
                go_wp2_with (first | ((with_reducible refine gate_callee (f := 19) rfl ?_); refine goesL_ (some 44) rfl rfl Try.func19 (by kernel_rfl) rfl #[.agg #[.int .i64 t260, .int .i64 t261], .slice A0 l0.length c0] rfl (by (try simp only [List.map_toArray, List.map_cons, List.map_nil]); first | done | rfl | (simp only [List.length_drop, List.length_take]; rfl)) ?_; (with_reducible refine (load_First.calls t260 t261 _ _ l0 t265 _ ?side1 ?side2 A29.out).mono ?_); (case side1 => repeat (first | exact (Kd.C_below HR0.out HB.out) | (with_reducible refine Kd.C_alloc ?_ _) | (with_reducible refine Kd.C_drewN ?_ _) | (with_reducible refine Kd.C_drew ?_))); (case side2 => exact HC0.out); rintro e w56 ⟨rfl, hb⟩; refine ⟨_, rfl, ?_⟩; have n0_ := Aside0.mk (Kd.R_below (by (with_reducible repeat (first | apply Kd.R_alloc | apply Kd.R_drewN | apply Kd.R_drew)); exact HO_27.out) hb); have n1_ := Aside0.mk (blk_below (g := gb262) (o := .cells #[.int .i64 t260, .int .i64 t261] 23 (0, 0)) (by (with_reducible repeat (first | refine blk_drewN ?_ _ | refine blk_drew ?_ | refine blk_alloc ?_ _)); exact BK262.out) hb); have n2_ := Aside0.mk (below_step (by repeat (first | (with_reducible first | exact HB.out | apply below_alloc | apply pw_below_drewN | apply below_drew1 | refine below_set ?_ GE262.out) | exact HB.out)) hb); clear HO_27; clear BK262; clear HB; have HO_27 := n0_; have BK262 := n1_; have HB := n2_; clear n0_ n1_ n2_; (try clear hb); (try clear hb2); (try clear hk); (try clear hi)))
                go_ret
                exact ⟨by first | rfl | (simp [errW_none, errW_some] <;> rfl) | (simp [*, errW_none, errW_some] <;> rfl), by repeat (first | (with_reducible first | exact HB.out | apply below_alloc | apply pw_below_drewN | apply below_drew1 | refine below_set ?_ GE262.out) | exact HB.out)⟩
      · replace c7 := Bool.eq_false_iff.mpr c7
        subst c7
        have H1 : ((load_Peak.f k l0).bind fun bt258 => (some (bt258.1 == 0 && (bt258.2 == 0)))) = some r := by rw [if_neg (show ¬ (false = true) by decide)] at H; exact H
        clear H
        have H := H1
        clear H1
        replace H := Option.bind_eq_some_iff.mp H
        obtain ⟨⟨t258, t259⟩, A570, H⟩ := H
        replace H : (some (t258 == 0 && (t259 == 0))) = some r := H
        have A57 := Aside0.mk A570
        clear A570
        obtain rfl := Option.some.inj H
        go_enter Try.func7, Try.ntmps7
        go_wp2_with (first | ((with_reducible refine gate_callee (f := 8) rfl ?_); refine goesL_ (some 9) rfl rfl Try.func8 (by kernel_rfl) rfl #[] rfl (by (try simp only [List.map_toArray, List.map_cons, List.map_nil]); first | done | rfl | (simp only [List.length_drop, List.length_take]; rfl)) ?_; (with_reducible refine (jitneylaw04_alive.calls  true _ A2.out).mono ?_); rintro e w58 ⟨rfl, hb⟩; refine ⟨_, rfl, ?_⟩; have n0_ := Aside0.mk (below_step (by repeat (first | (with_reducible first | exact HB.out | apply below_alloc | apply pw_below_drewN | apply below_drew1) | exact HB.out)) hb); clear HB; have HB := n0_; clear n0_; (try clear hb); (try clear hb2); (try clear hk); (try clear hi)) | ((with_reducible refine gate_callee (f := 17) rfl ?_); refine goesL_ (some 16) rfl rfl Try.func17 (by kernel_rfl) rfl #[.slice A0 l0.length c0] rfl (by (try simp only [List.map_toArray, List.map_cons, List.map_nil]); first | done | rfl | (simp only [List.length_drop, List.length_take]; rfl)) ?_; (with_reducible refine (load_Profile.calls k _ _ l0 t254 false _ ?side1 ?side2 A6.out).mono ?_); (case side1 => repeat (first | exact (Kd.C_below HR0.out HB.out) | (with_reducible refine Kd.C_alloc ?_ _) | (with_reducible refine Kd.C_drewN ?_ _) | (with_reducible refine Kd.C_drew ?_))); (case side2 => exact HC0.out); rintro e w59 ⟨v256, rfl, ho0, hb⟩; refine ⟨_, rfl, ?_⟩; have n0_ := Aside0.mk (Kd.R_lower ho0 (below_size (by repeat (first | (with_reducible first | exact HB.out | apply below_alloc | apply pw_below_drewN | apply below_drew1) | exact HB.out)))); have n1_ := Aside0.mk (below_step (by repeat (first | (with_reducible first | exact HB.out | apply below_alloc | apply pw_below_drewN | apply below_drew1) | exact HB.out)) hb); clear HB; have HO257 := n0_; have HB := n1_; clear n0_ n1_; (try clear hb); (try clear hb2); (try clear hk); (try clear hi); (try clear ho0)) | ((with_reducible refine gate_callee (f := 21) rfl ?_); refine goesL_ (some 22) rfl rfl Try.func21 (by kernel_rfl) rfl #[.slice A0 l0.length c0] rfl (by (try simp only [List.map_toArray, List.map_cons, List.map_nil]); first | done | rfl | (simp only [List.length_drop, List.length_take]; rfl)) ?_; (with_reducible refine (load_Peak.calls k _ _ l0 t258 t259 _ ?side1 ?side2 A57.out).mono ?_); (case side1 => repeat (first | exact (Kd.C_below HR0.out HB.out) | (with_reducible refine Kd.C_alloc ?_ _) | (with_reducible refine Kd.C_drewN ?_ _) | (with_reducible refine Kd.C_drew ?_))); (case side2 => exact HC0.out); rintro e w60 ⟨rfl, hb⟩; refine ⟨_, rfl, ?_⟩; have n0_ := Aside0.mk (Kd.R_below (by (with_reducible repeat (first | apply Kd.R_alloc | apply Kd.R_drewN | apply Kd.R_drew)); exact HO257.out) hb); have n1_ := Aside0.mk (below_step (by repeat (first | (with_reducible first | exact HB.out | apply below_alloc | apply pw_below_drewN | apply below_drew1) | exact HB.out)) hb); clear HO257; clear HB; have HO257 := n0_; have HB := n1_; clear n0_ n1_; (try clear hb); (try clear hb2); (try clear hk); (try clear hi)))
        go_ret
        exact ⟨by first | rfl | (simp [errW_none, errW_some] <;> rfl) | (simp [*, errW_none, errW_some] <;> rfl), by repeat (first | (with_reducible first | exact HB.out | apply below_alloc | apply pw_below_drewN | apply below_drew1) | exact HB.out)⟩
  · replace c3 := Bool.eq_false_iff.mpr c3
    subst c3
    have H1 : (some false) = some r := by rw [if_neg (show ¬ (false = true) by decide)] at H; exact H
    clear H
    have H := H1
    clear H1
    obtain rfl := Option.some.inj H
    go_enter Try.func7, Try.ntmps7
    go_wp2_with (first | ((with_reducible refine gate_callee (f := 8) rfl ?_); refine goesL_ (some 9) rfl rfl Try.func8 (by kernel_rfl) rfl #[] rfl (by (try simp only [List.map_toArray, List.map_cons, List.map_nil]); first | done | rfl | (simp only [List.length_drop, List.length_take]; rfl)) ?_; (with_reducible refine (jitneylaw04_alive.calls  false _ A2.out).mono ?_); rintro e w61 ⟨rfl, hb⟩; refine ⟨_, rfl, ?_⟩; have n0_ := Aside0.mk (below_step (by repeat (first | (with_reducible first | exact HB.out | apply below_alloc | apply pw_below_drewN | apply below_drew1) | exact HB.out)) hb); clear HB; have HB := n0_; clear n0_; (try clear hb); (try clear hb2); (try clear hk); (try clear hi)))
    go_ret
    exact ⟨by first | rfl | (simp [errW_none, errW_some] <;> rfl) | (simp [*, errW_none, errW_some] <;> rfl), by repeat (first | (with_reducible first | exact HB.out | apply below_alloc | apply pw_below_drewN | apply below_drew1) | exact HB.out)⟩

end Go.Proofs.Ytocoapfnkkmkiaa.P
