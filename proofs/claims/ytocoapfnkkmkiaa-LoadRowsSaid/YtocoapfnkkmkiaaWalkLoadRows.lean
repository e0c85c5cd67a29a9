/- Of all rows of loads the profile is as said: the walk. -/
import Derived.Test.YtocoapfnkkmkiaaP1
import Derived.Test.YtocoapfnkkmkiaaP2
import Derived.Test.YtocoapfnkkmkiaaP3
import Derived.Test.YtocoapfnkkmkiaaP4
import Derived.Test.YtocoapfnkkmkiaaP5
import Derived.Test.YtocoapfnkkmkiaaP10
import Derived.Test.YtocoapfnkkmkiaaP11
namespace Go.Proofs.Ytocoapfnkkmkiaa.P
open Go.Proofs.YtocoapfnkkmkiaaR
open Go.RowKit Go.Proofs.YtocoapfnkkmkiaaW.PrintWords Go.Proofs.YtocoapfnkkmkiaaW.PrintLast Go.Proofs.YtocoapfnkkmkiaaW.PrintMore
attribute [local go_sem] max2_int min2_int max_two min_two max_three min_three max_four min_four
set_option linter.unusedVariables false
set_option linter.unusedSimpArgs false
attribute [local go_sem high] eqA23
set_option maxHeartbeats 8000000 in
set_option maxRecDepth 100000 in
theorem loadRows_long (r0 r1 : Int) (A1 : Option Addr) (c1 : Nat) (xs : List S23) (w : World) (hlen : 200 < xs.length) :
    Calls Try.prog 4 #[.agg #[.int .i64 r0, .int .i64 r1], .slice A1 xs.length c1] w fun e w' => e = .returned (.bool true) ∧ Below w.heap.size w w' := by
  have hu23 := Try.underlying23
  have h1 : decide ((200 : Int) < (xs.length : Int)) = true := by simp; omega
  go_enter Try.func4, Try.ntmps4
  go_wp2_with (go_at_call 8; (with_reducible refine (jitneylaw04_alive.calls true _ rfl).mono ?_); rintro e w0 ⟨rfl, hb⟩; have HB := Aside0.mk hb; clear hb)
  go_ret
  exact ⟨rfl, below_step (below_alloc (Below.refl _ _) _) HB.out⟩

set_option maxHeartbeats 8000000 in
set_option maxRecDepth 100000 in
theorem loadRows_walk (k : Nat) (r0 r1 : Int) (A1 : Option Addr) (c1 : Nat) (xs ps : List S23) (ok : Bool) (fi : Int) (w : World) (hr : Kd.C k23 w A1 xs.length xs) (hc : xs.length ≤ c1) (hlen : xs.length ≤ 200)
    (hP : load_Profile.f k xs = some (ps, ok)) (hQ : jitneyref04_Profile.f k xs = some (ps, ok)) (hF : load_First.f r0 r1 xs = some fi) (hG : jitneyref04_First.f k r0 r1 xs = some fi) (hK : load_Peak.f k xs = some ((load_Peak.go ps ps.length).f0, (load_Peak.go ps ps.length).f1)) :
    Calls Try.prog 4 #[.agg #[.int .i64 r0, .int .i64 r1], .slice A1 xs.length c1] w fun e w' => e = .returned (.bool true) ∧ Below w.heap.size w w' := by
  have hu23 := Try.underlying23
  have HR := Aside0.mk hr
  have HC := Aside0.mk hc
  have HP := Aside0.mk hP
  have HQ := Aside0.mk hQ
  have HF := Aside0.mk hF
  have HG := Aside0.mk hG
  have HK := Aside0.mk hK
  have h1 : decide ((200 : Int) < (xs.length : Int)) = false := by simp; omega
  clear hr hc hP hQ hF hG hK hlen
  go_enter Try.func4, Try.ntmps4
  go_wp2_with (first | (go_at_call 8; (with_reducible refine (jitneylaw04_alive.calls true _ rfl).mono ?_); rintro e w0 ⟨rfl, hb⟩; have b1_ := blk_below (g := w.heap.size) (o := .cells #[.int .i64 r0, .int .i64 r1] 23 (0, 0)) (blk_new w _) hb; have HB_w0 := Aside0.mk hb; have F1_ := Aside0.mk b1_; have cb1_0 := (blk_cell b1_ 0).trans rfl; have zb1_0 := blk_frozen b1_ 0; have cb1_1 := (blk_cell b1_ 1).trans rfl; have zb1_1 := blk_frozen b1_ 1; have lb1_ := blk_lt b1_; clear b1_; clear hb) | (go_at_call 17; (with_reducible refine (load_Profile.calls k A1 c1 xs ps ok _ (Kd.C_below HR.out (below_step (below_alloc (Below.refl _ _) _) HB_w0.out)) HC.out HP.out).mono ?_); rintro e w1 ⟨v0, rfl, hR, hb⟩; obtain ⟨A5, c5, rfl, hC5, hA5⟩ := own_reads_base (w := w) hR; have CC5 := Aside0.mk hC5; have AA5 := Aside0.mk hA5; clear hR hC5 hA5; clear cb1_0 zb1_0 cb1_1 zb1_1 lb1_; have b2_ := blk_below (g := w.heap.size) (o := .cells #[.int .i64 r0, .int .i64 r1] 23 (0, 0)) (by (with_reducible repeat (first | refine blk_drewN ?_ _ | refine blk_drew ?_ | refine blk_alloc ?_ _)); exact F1_.out) hb; have HB_w1 := Aside0.mk hb; have F2_ := Aside0.mk b2_; have cb2_0 := (blk_cell b2_ 0).trans rfl; have zb2_0 := blk_frozen b2_ 0; have cb2_1 := (blk_cell b2_ 1).trans rfl; have zb2_1 := blk_frozen b2_ 1; have lb2_ := blk_lt b2_; clear b2_; clear hb) | (go_at_call 18; (with_reducible refine (jitneyref04_Profile.calls k A1 c1 xs ps ok _ (Kd.C_below HR.out (below_step (below_step (below_alloc (Below.refl _ _) _) HB_w0.out) HB_w1.out)) HC.out HQ.out).mono ?_); rintro e w2 ⟨v0, rfl, hR, hb⟩; obtain ⟨A7, c7, rfl, hC7, hA7⟩ := own_reads_base (w := w) hR; have CC7 := Aside0.mk hC7; have AA7 := Aside0.mk hA7; clear hR hC7 hA7; clear cb2_0 zb2_0 cb2_1 zb2_1 lb2_; have b3_ := blk_below (g := w.heap.size) (o := .cells #[.int .i64 r0, .int .i64 r1] 23 (0, 0)) (by (with_reducible repeat (first | refine blk_drewN ?_ _ | refine blk_drew ?_ | refine blk_alloc ?_ _)); exact F2_.out) hb; have HB_w2 := Aside0.mk hb; have F3_ := Aside0.mk b3_; have cb3_0 := (blk_cell b3_ 0).trans rfl; have zb3_0 := blk_frozen b3_ 0; have cb3_1 := (blk_cell b3_ 1).trans rfl; have zb3_1 := blk_frozen b3_ 1; have lb3_ := blk_lt b3_; clear b3_; clear hb))
  clear cb3_0 zb3_0 cb3_1 zb3_1 lb3_
  have BW := Aside0.mk (below_step (below_step (below_step (below_alloc (Below.refl _ _) _) HB_w0.out) HB_w1.out) HB_w2.out)
  refine wp_region_pv [.val (.bool ok), .val (.bool ok), .val (.bool false), .val (.bool false), .val (.slice A5 ps.length c5), .val (.int .i64 (ps.length : Int)), .val (.slice A7 ps.length c7), .val (.int .i64 (ps.length : Int)), .val (.bool false), .val (.bool false), .val (.bool false), .val (.agg #[.int .i64 r0, .int .i64 r1]), .val (.slice A1 xs.length c1), .val (.int .i64 fi), .val (.agg #[.int .i64 r0, .int .i64 r1]), .val (.slice A1 xs.length c1), .val (.int .i64 fi), .val (.bool false), .val (.bool false)] rfl (by kernel_rfl) ?howes ?hend
  case howes =>
    refine ⟨?_, ?_, ?_, ?_, ?_, ?_, ?_, ?_, ?_, ?_, ?_, ?_, ?_, ?_, ?_, ?_, ?_, ?_, ?_, trivial⟩
    · refine owes_pv0 (fun E vs a W_ hI hE hp => ?_)
      have e0 : a.eval (.tmp 6) = .bool ok := hI.outer (d := 6) (by rfl) rfl
      refine ⟨rfl, _, ?_, rfl⟩
      simp only [execOp, e0]
      first
      | rfl
      | (go_simp; done)
      | (go_simp; simp; done)
    · refine owes_pv0 (fun E vs a W_ hI hE hp => ?_)
      have e0 : a.eval (.tmp 8) = .bool ok := hI.outer (d := 8) (by rfl) rfl
      refine ⟨rfl, _, ?_, rfl⟩
      simp only [execOp, e0]
      first
      | rfl
      | (go_simp; done)
      | (go_simp; simp; done)
    · refine owes_pv0 (fun E vs a W_ hI hE hp => ?_)
      have e0 : a.eval (.tmp 26) = .bool ok := hI.pv 0 rfl rfl (pred_of hp 0 rfl) rfl
      have e1 : a.eval (.tmp 27) = .bool ok := hI.pv 1 rfl rfl (pred_of hp 1 rfl) rfl
      refine ⟨rfl, _, ?_, rfl⟩
      simp only [execOp, e0, e1]
      first
      | rfl
      | (go_simp; done)
      | (go_simp; simp; done)
    · refine owes_pv0 (fun E vs a W_ hI hE hp => ?_)
      have e0 : a.eval (.tmp 28) = .bool false := hI.pv 2 rfl rfl (pred_of hp 2 rfl) rfl
      refine ⟨rfl, _, ?_, rfl⟩
      simp only [execOp, e0]
      first
      | rfl
      | (go_simp; done)
      | (go_simp; simp; done)
    · refine owes_pv0 (fun E vs a W_ hI hE hp => ?_)
      have e0 : a.eval (.tmp 5) = .slice A5 ps.length c5 := hI.outer (d := 5) (by rfl) rfl
      refine ⟨wanted_of hI 3 rfl rfl rfl rfl (show a.eval (.tmp 29) = .bool false from hI.pv 3 rfl rfl (pred_of hp 3 rfl) rfl), _, ?_, rfl⟩
      simp only [execOp, e0]
      first
      | rfl
      | (go_simp; done)
      | (go_simp; simp; done)
    · refine owes_pv0 (fun E vs a W_ hI hE hp => ?_)
      have e0 : a.eval (.tmp 30) = .slice A5 ps.length c5 := hI.pv 4 rfl rfl (pred_of hp 4 rfl) rfl
      refine ⟨wanted_of hI 3 rfl rfl rfl rfl (show a.eval (.tmp 29) = .bool false from hI.pv 3 rfl rfl (pred_of hp 3 rfl) rfl), _, ?_, rfl⟩
      simp only [execOp, resolve, List.map_toArray, List.map_cons, List.map_nil, e0]
      first
      | rfl
      | (go_simp; done)
      | (go_simp; simp; done)
    · refine owes_pv0 (fun E vs a W_ hI hE hp => ?_)
      have e0 : a.eval (.tmp 7) = .slice A7 ps.length c7 := hI.outer (d := 7) (by rfl) rfl
      refine ⟨wanted_of hI 3 rfl rfl rfl rfl (show a.eval (.tmp 29) = .bool false from hI.pv 3 rfl rfl (pred_of hp 3 rfl) rfl), _, ?_, rfl⟩
      simp only [execOp, e0]
      first
      | rfl
      | (go_simp; done)
      | (go_simp; simp; done)
    · refine owes_pv0 (fun E vs a W_ hI hE hp => ?_)
      have e0 : a.eval (.tmp 32) = .slice A7 ps.length c7 := hI.pv 6 rfl rfl (pred_of hp 6 rfl) rfl
      refine ⟨wanted_of hI 3 rfl rfl rfl rfl (show a.eval (.tmp 29) = .bool false from hI.pv 3 rfl rfl (pred_of hp 3 rfl) rfl), _, ?_, rfl⟩
      simp only [execOp, resolve, List.map_toArray, List.map_cons, List.map_nil, e0]
      first
      | rfl
      | (go_simp; done)
      | (go_simp; simp; done)
    · refine owes_pv0 (fun E vs a W_ hI hE hp => ?_)
      have e0 : a.eval (.tmp 31) = .int .i64 (ps.length : Int) := hI.pv 5 rfl rfl (pred_of hp 5 rfl) rfl
      have e1 : a.eval (.tmp 33) = .int .i64 (ps.length : Int) := hI.pv 7 rfl rfl (pred_of hp 7 rfl) rfl
      refine ⟨wanted_of hI 3 rfl rfl rfl rfl (show a.eval (.tmp 29) = .bool false from hI.pv 3 rfl rfl (pred_of hp 3 rfl) rfl), _, ?_, rfl⟩
      simp only [execOp, e0, e1]
      first
      | rfl
      | (go_simp; done)
      | (go_simp; simp; done)
    · refine owes_pv0 (fun E vs a W_ hI hE hp => ?_)
      have e0 : a.eval (.tmp 29) = .bool false := hI.pv 3 rfl rfl (pred_of hp 3 rfl) rfl
      have e1 : a.eval (.tmp 34) = .bool false := hI.pv 8 rfl rfl (pred_of hp 8 rfl) rfl
      refine ⟨rfl, _, ?_, rfl⟩
      simp only [execOp, e0, e1]
      first
      | rfl
      | (go_simp; done)
      | (go_simp; simp; done)
    · refine owes_pv0 (fun E vs a W_ hI hE hp => ?_)
      have e0 : a.eval (.tmp 35) = .bool false := hI.pv 9 rfl rfl (pred_of hp 9 rfl) rfl
      refine ⟨rfl, _, ?_, rfl⟩
      simp only [execOp, e0]
      first
      | rfl
      | (go_simp; done)
      | (go_simp; simp; done)
    · refine owes_pv0 (fun E vs a W_ hI hE hp => ?_)
      have e0 : a.eval (.tmp 2) = .pointer (some ⟨w.heap.size, 0, none⟩) := hI.outer (d := 2) (by rfl) rfl
      have hb := blk_below F3_.out hI.world.2
      have q0 := (blk_cell hb 0).trans rfl
      have q1 := (blk_cell hb 1).trans rfl
      clear hb
      refine ⟨wanted_of hI 10 rfl rfl rfl rfl (show a.eval (.tmp 36) = .bool false from hI.pv 10 rfl rfl (pred_of hp 10 rfl) rfl), _, ?_, rfl⟩
      simp only [execOp, e0]
      go_simp
    · refine owes_pv0 (fun E vs a W_ hI hE hp => ?_)
      have e0 : a.eval (.tmp 1) = .slice A1 xs.length c1 := hI.outer (d := 1) (by rfl) rfl
      refine ⟨wanted_of hI 10 rfl rfl rfl rfl (show a.eval (.tmp 36) = .bool false from hI.pv 10 rfl rfl (pred_of hp 10 rfl) rfl), _, ?_, rfl⟩
      simp only [execOp, e0]
      first
      | rfl
      | (go_simp; done)
      | (go_simp; simp; done)
    · refine owes_pvc (fun E vs a W_ hI hE hp => ?_)
      have e0 : a.eval (.tmp 37) = .agg #[.int .i64 r0, .int .i64 r1] := hI.pv 11 rfl rfl (pred_of hp 11 rfl) rfl
      have e1 : a.eval (.tmp 38) = .slice A1 xs.length c1 := hI.pv 12 rfl rfl (pred_of hp 12 rfl) rfl
      refine ⟨wanted_of hI 10 rfl rfl rfl rfl (show a.eval (.tmp 36) = .bool false from hI.pv 10 rfl rfl (pred_of hp 10 rfl) rfl), 19, #[.agg #[.int .i64 r0, .int .i64 r1], .slice A1 xs.length c1], ?_, ?_⟩
      · simp only [execOp, resolve, List.map_toArray, List.map_cons, List.map_nil, e0, e1]
        rfl
      · refine (load_First.calls r0 r1 A1 c1 xs fi _ (Kd.C_below HR.out (below_step BW.out hI.world.2)) HC.out HF.out).mono ?_
        rintro e W1_ ⟨rfl, hb⟩
        exact ⟨_, rfl, hb, rfl⟩
    · refine owes_pv0 (fun E vs a W_ hI hE hp => ?_)
      have e0 : a.eval (.tmp 2) = .pointer (some ⟨w.heap.size, 0, none⟩) := hI.outer (d := 2) (by rfl) rfl
      have hb := blk_below F3_.out hI.world.2
      have q0 := (blk_cell hb 0).trans rfl
      have q1 := (blk_cell hb 1).trans rfl
      clear hb
      refine ⟨wanted_of hI 10 rfl rfl rfl rfl (show a.eval (.tmp 36) = .bool false from hI.pv 10 rfl rfl (pred_of hp 10 rfl) rfl), _, ?_, rfl⟩
      simp only [execOp, e0]
      go_simp
    · refine owes_pv0 (fun E vs a W_ hI hE hp => ?_)
      have e0 : a.eval (.tmp 1) = .slice A1 xs.length c1 := hI.outer (d := 1) (by rfl) rfl
      refine ⟨wanted_of hI 10 rfl rfl rfl rfl (show a.eval (.tmp 36) = .bool false from hI.pv 10 rfl rfl (pred_of hp 10 rfl) rfl), _, ?_, rfl⟩
      simp only [execOp, e0]
      first
      | rfl
      | (go_simp; done)
      | (go_simp; simp; done)
    · refine owes_pvc (fun E vs a W_ hI hE hp => ?_)
      have e0 : a.eval (.tmp 40) = .agg #[.int .i64 r0, .int .i64 r1] := hI.pv 14 rfl rfl (pred_of hp 14 rfl) rfl
      have e1 : a.eval (.tmp 41) = .slice A1 xs.length c1 := hI.pv 15 rfl rfl (pred_of hp 15 rfl) rfl
      refine ⟨wanted_of hI 10 rfl rfl rfl rfl (show a.eval (.tmp 36) = .bool false from hI.pv 10 rfl rfl (pred_of hp 10 rfl) rfl), 20, #[.agg #[.int .i64 r0, .int .i64 r1], .slice A1 xs.length c1], ?_, ?_⟩
      · simp only [execOp, resolve, List.map_toArray, List.map_cons, List.map_nil, e0, e1]
        rfl
      · refine (jitneyref04_First.calls k r0 r1 A1 c1 xs fi _ (Kd.C_below HR.out (below_step BW.out hI.world.2)) HC.out HG.out).mono ?_
        rintro e W1_ ⟨rfl, hb⟩
        exact ⟨_, rfl, hb, rfl⟩
    · refine owes_pv0 (fun E vs a W_ hI hE hp => ?_)
      have e0 : a.eval (.tmp 39) = .int .i64 fi := hI.pv 13 rfl rfl (pred_of hp 13 rfl) rfl
      have e1 : a.eval (.tmp 42) = .int .i64 fi := hI.pv 16 rfl rfl (pred_of hp 16 rfl) rfl
      refine ⟨wanted_of hI 10 rfl rfl rfl rfl (show a.eval (.tmp 36) = .bool false from hI.pv 10 rfl rfl (pred_of hp 10 rfl) rfl), _, ?_, rfl⟩
      simp only [execOp, e0, e1]
      first
      | rfl
      | (go_simp; done)
      | (go_simp; simp; done)
    · refine owes_pv0 (fun E vs a W_ hI hE hp => ?_)
      have e0 : a.eval (.tmp 36) = .bool false := hI.pv 10 rfl rfl (pred_of hp 10 rfl) rfl
      have e1 : a.eval (.tmp 43) = .bool false := hI.pv 17 rfl rfl (pred_of hp 17 rfl) rfl
      refine ⟨rfl, _, ?_, rfl⟩
      simp only [execOp, e0, e1]
      first
      | rfl
      | (go_simp; done)
      | (go_simp; simp; done)
  case hend =>
  intro E vs a w3 hI hall
  obtain rfl := hI.frame (by kernel_rfl) hall
  have v18 : vs 18 = .bool false := (phiP_at _ _ _ _).1 (hI.world.1 18 (hall 18 (by decide)))
  have HB_w3 := Aside0.mk hI.world.2
  clear hI hall
  simp only [putsFrom, List.setIfInBounds_toArray, List.set_cons_zero, List.set_cons_succ]
  rw [v18]
  clear v18
  have hL5 := CC5.out.2.1
  go_wp2
  obtain ⟨w4, hw4⟩ : ∃ w4, w4 = w3.alloc (.cells #[.int .i64 0, .int .i64 0] 23 (0, 0)) := ⟨_, rfl⟩
  rw [← hw4]
  have B9 := Aside0.mk (show w4.heap[w3.heap.size]? = some (.cells #[.int .i64 0, .int .i64 0] 23 (0, 0)) by rw [hw4]; exact blk_new _ _)
  have HB_w4 := Aside0.mk (show Below w3.heap.size w3 w4 by rw [hw4]; exact below_alloc (Below.refl _ _) _)
  have K0 := Aside0.mk (KeepW.refl w4 w3.heap.size)
  clear hw4
  have X5 := Aside0.mk (Kd.C_below (Kd.C_below (Kd.C_below CC5.out HB_w2.out) HB_w3.out) HB_w4.out)
  have X7 := Aside0.mk (Kd.C_below (Kd.C_below CC7.out HB_w3.out) HB_w4.out)
  have N5 := Aside0.mk (show ∀ ad, A5 = some ad → ad.block ≠ w3.heap.size from fun ad e => by have h1 := (AA5.out ad e).2; have h2 := HB_w2.out.size; have h3 := HB_w3.out.size; omega)
  have N7 := Aside0.mk (show ∀ ad, A7 = some ad → ad.block ≠ w3.heap.size from fun ad e => by have h1 := (AA7.out ad e).2; have h3 := HB_w3.out.size; omega)
  go_loopg [48] ps.length (fun gg v48 wr => ∃ kk : Nat, kk ≤ ps.length ∧ ps.length - kk ≤ gg ∧ v48 = .int .i64 kk ∧ Aside0 (wr.heap[w3.heap.size]? = some (.cells #[.int .i64 (load_Peak.go ps kk).f0, .int .i64 (load_Peak.go ps kk).f1] 23 (0, 0))) ∧ Aside0 (KeepW w4 wr w3.heap.size))
  case atStart => exact ⟨0, Nat.zero_le _, by omega, rfl, B9, K0⟩
  case round =>
    clear B9 K0
    obtain ⟨kk, hkk, hg, rfl, B9, KW⟩ := hrel
    by_cases hlt : kk < ps.length
    · have hltz : decide ((kk : Int) < (ps.length : Int)) = true := by simp; omega
      obtain ⟨ad5, e5, x50, x51⟩ := at_T23 X5.out (kk : Int) (by omega) (by omega)
      cases e5
      obtain ⟨ad7, e7, x70, x71⟩ := at_T23 X7.out (kk : Int) (by omega) (by omega)
      cases e7
      simp only [Int.toNat_natCast] at x50 x51 x70 x71
      have n5 : (ad5.add (kk * 2)).block ≠ w3.heap.size := by rw [add_block]; exact N5.out _ rfl
      have n7 : (ad7.add (kk * 2)).block ≠ w3.heap.size := by rw [add_block]; exact N7.out _ rfl
      have Y50 := Aside0.mk (KW.out.cell x50 n5)
      have Y51 := Aside0.mk (KW.out.cell x51 n5)
      have Y70 := Aside0.mk (KW.out.cell x70 n7)
      have Y71 := Aside0.mk (KW.out.cell x71 n7)
      have NN7 := Aside0.mk n7
      clear x50 x51 x70 x71 n5 n7
      go_wp2
      refine wp_region_pv [.val (.slice (some ad5) ps.length c5), .val (.int .i64 (kk : Int)), .val (.pointer (some (ad5.add (kk * 2)))), .val (.agg #[.int .i64 ((rd_T23 ps (kk : Int)).f0), .int .i64 ((rd_T23 ps (kk : Int)).f1)]), .val (.slice (some ad7) ps.length c7), .val (.int .i64 (kk : Int)), .val (.pointer (some (ad7.add (kk * 2)))), .val (.agg #[.int .i64 ((rd_T23 ps (kk : Int)).f0), .int .i64 ((rd_T23 ps (kk : Int)).f1)]), .val (.bool false)] rfl (by kernel_rfl) ?howesA ?hendA
      case howesA =>
        refine ⟨?_, ?_, ?_, ?_, ?_, ?_, ?_, ?_, ?_, trivial⟩
        · refine owes_pv0 (fun E vs a W_ hI hE hp => ?_)
          have e0 : a.eval (.tmp 5) = .slice (some ad5) ps.length c5 := hI.outer (d := 5) (by rfl) rfl
          refine ⟨rfl, _, ?_, rfl⟩
          simp only [execOp, e0]
          first
          | rfl
          | (go_simp; done)
          | (go_simp; simp; done)
        · refine owes_pv0 (fun E vs a W_ hI hE hp => ?_)
          have e0 : a.eval (.tmp 10) = .int .i64 (kk : Int) := hI.outer (d := 10) (by rfl) rfl
          refine ⟨rfl, _, ?_, rfl⟩
          simp only [execOp, e0]
          first
          | rfl
          | (go_simp; done)
          | (go_simp; simp; done)
        · refine owes_pv0 (fun E vs a W_ hI hE hp => ?_)
          have e0 : a.eval (.tmp 51) = .slice (some ad5) ps.length c5 := hI.pv 0 rfl rfl (pred_of hp 0 rfl) rfl
          have e1 : a.eval (.tmp 52) = .int .i64 (kk : Int) := hI.pv 1 rfl rfl (pred_of hp 1 rfl) rfl
          refine ⟨rfl, _, ?_, rfl⟩
          simp only [execOp, e0, e1]
          go_simp
        · refine owes_pv0 (fun E vs a W_ hI hE hp => ?_)
          have e0 : a.eval (.tmp 53) = .pointer (some (ad5.add (kk * 2))) := hI.pv 2 rfl rfl (pred_of hp 2 rfl) rfl
          have q0 := cell_below hI.world.2 Y50.out
          have q1 := cell_below hI.world.2 Y51.out
          refine ⟨rfl, _, ?_, rfl⟩
          simp only [execOp, e0]
          go_simp
        · refine owes_pv0 (fun E vs a W_ hI hE hp => ?_)
          have e0 : a.eval (.tmp 7) = .slice (some ad7) ps.length c7 := hI.outer (d := 7) (by rfl) rfl
          refine ⟨rfl, _, ?_, rfl⟩
          simp only [execOp, e0]
          first
          | rfl
          | (go_simp; done)
          | (go_simp; simp; done)
        · refine owes_pv0 (fun E vs a W_ hI hE hp => ?_)
          have e0 : a.eval (.tmp 10) = .int .i64 (kk : Int) := hI.outer (d := 10) (by rfl) rfl
          refine ⟨rfl, _, ?_, rfl⟩
          simp only [execOp, e0]
          first
          | rfl
          | (go_simp; done)
          | (go_simp; simp; done)
        · refine owes_pv0 (fun E vs a W_ hI hE hp => ?_)
          have e0 : a.eval (.tmp 55) = .slice (some ad7) ps.length c7 := hI.pv 4 rfl rfl (pred_of hp 4 rfl) rfl
          have e1 : a.eval (.tmp 56) = .int .i64 (kk : Int) := hI.pv 5 rfl rfl (pred_of hp 5 rfl) rfl
          refine ⟨rfl, _, ?_, rfl⟩
          simp only [execOp, e0, e1]
          go_simp
        · refine owes_pv0 (fun E vs a W_ hI hE hp => ?_)
          have e0 : a.eval (.tmp 57) = .pointer (some (ad7.add (kk * 2))) := hI.pv 6 rfl rfl (pred_of hp 6 rfl) rfl
          have q0 := cell_below hI.world.2 Y70.out
          have q1 := cell_below hI.world.2 Y71.out
          refine ⟨rfl, _, ?_, rfl⟩
          simp only [execOp, e0]
          go_simp
        · refine owes_pv0 (fun E vs a W_ hI hE hp => ?_)
          have e0 : a.eval (.tmp 54) = .agg #[.int .i64 ((rd_T23 ps (kk : Int)).f0), .int .i64 ((rd_T23 ps (kk : Int)).f1)] := hI.pv 3 rfl rfl (pred_of hp 3 rfl) rfl
          have e1 : a.eval (.tmp 58) = .agg #[.int .i64 ((rd_T23 ps (kk : Int)).f0), .int .i64 ((rd_T23 ps (kk : Int)).f1)] := hI.pv 7 rfl rfl (pred_of hp 7 rfl) rfl
          refine ⟨rfl, _, ?_, rfl⟩
          simp only [execOp, e0, e1]
          first
          | rfl
          | (go_simp; done)
          | (go_simp; simp; done)
      case hendA =>
      intro E vs a w5 hI hall
      obtain rfl := hI.frame (by kernel_rfl) hall
      have v8 : vs 8 = .bool false := (phiP_at _ _ _ _).1 (hI.world.1 8 (hall 8 (by decide)))
      have HB_w5 := Aside0.mk hI.world.2
      clear hI hall
      simp only [putsFrom, List.setIfInBounds_toArray, List.set_cons_zero, List.set_cons_succ]
      rw [v8]
      clear v8
      have Z9 := Aside0.mk (blk_below B9.out HB_w5.out)
      have Z70 := Aside0.mk (cell_below HB_w5.out Y70.out)
      have Z71 := Aside0.mk (cell_below HB_w5.out Y71.out)
      go_wp2
      obtain ⟨m0, hm0⟩ : ∃ m0 : Int, m0 = max (load_Peak.go ps kk).f0 (rd_T23 ps kk).f0 := ⟨_, rfl⟩
      obtain ⟨m1, hm1⟩ : ∃ m1 : Int, m1 = max (load_Peak.go ps kk).f1 (rd_T23 ps kk).f1 := ⟨_, rfl⟩
      have M0 := Aside0.mk hm0
      have M1 := Aside0.mk hm1
      clear hm0 hm1
      refine wp_region_told (phiC [.pointer (some ⟨w3.heap.size, 0, none⟩), .int .i64 ((load_Peak.go ps kk).f0), .slice (some ad7) ps.length c7, .int .i64 (kk : Int), .pointer (some (ad7.add (kk * 2))), .pointer (some (ad7.add (kk * 2))), .int .i64 ((rd_T23 ps (kk : Int)).f0), .int .i64 m0, .pointer (some ⟨w3.heap.size, 1, none⟩), .int .i64 ((load_Peak.go ps kk).f1), .slice (some ad7) ps.length c7, .int .i64 (kk : Int), .pointer (some (ad7.add (kk * 2))), .pointer (some (⟨(ad7.add (kk * 2)).block, (ad7.add (kk * 2)).off + 1, none⟩)), .int .i64 ((rd_T23 ps (kk : Int)).f1), .int .i64 m1, .pointer (some ⟨w3.heap.size, 0, none⟩), undef, .pointer (some ⟨w3.heap.size, 1, none⟩), undef]) (fun E _ W_ => W_.heap[w3.heap.size]? = some (.cells #[.int .i64 (if E 17 then m0 else (load_Peak.go ps kk).f0), .int .i64 (if E 19 then m1 else (load_Peak.go ps kk).f1)] 23 (0, 0)) ∧ KeepW w5 W_ w3.heap.size) rfl (by kernel_rfl) ⟨Z9.out, ⟨rfl, rfl, rfl, Nat.le_refl _, fun _ _ _ => rfl⟩⟩ ?howesB ?hendB
      case howesB =>
        refine ⟨?_, ?_, ?_, ?_, ?_, ?_, ?_, ?_, ?_, ?_, ?_, ?_, ?_, ?_, ?_, ?_, ?_, ?_, ?_, ?_, trivial⟩
        · refine owes_val rfl (fun E _ _ W_ hE hW => by simpa [upd] using hW) (fun E vs a W_ hI hE hp => ?_)
          have e0 : a.eval (.tmp 9) = .pointer (some ⟨w3.heap.size, 0, none⟩) := hI.outer (d := 9) (by rfl) rfl
          refine ⟨_, ?_, rfl⟩
          simp only [execOp, e0]
          first
          | rfl
          | (go_simp; done)
          | (go_simp; simp; done)
        · refine owes_val rfl (fun E _ _ W_ hE hW => by simpa [upd] using hW) (fun E vs a W_ hI hE hp => ?_)
          have e0 : a.eval (.tmp 60) = .pointer (some ⟨w3.heap.size, 0, none⟩) := hI.phi 0 rfl rfl (pred_of hp 0 rfl) rfl
          have hb := hI.world.2.1
          have n17 := hI.notYet hE 17 rfl rfl
          rw [n17] at hb
          have q0 := (blk_cell hb 0).trans (by rfl)
          clear hb
          refine ⟨_, ?_, rfl⟩
          simp only [execOp, e0]
          go_simp
        · refine owes_val rfl (fun E _ _ W_ hE hW => by simpa [upd] using hW) (fun E vs a W_ hI hE hp => ?_)
          have e0 : a.eval (.tmp 7) = .slice (some ad7) ps.length c7 := hI.outer (d := 7) (by rfl) rfl
          refine ⟨_, ?_, rfl⟩
          simp only [execOp, e0]
          first
          | rfl
          | (go_simp; done)
          | (go_simp; simp; done)
        · refine owes_val rfl (fun E _ _ W_ hE hW => by simpa [upd] using hW) (fun E vs a W_ hI hE hp => ?_)
          have e0 : a.eval (.tmp 10) = .int .i64 (kk : Int) := hI.outer (d := 10) (by rfl) rfl
          refine ⟨_, ?_, rfl⟩
          simp only [execOp, e0]
          first
          | rfl
          | (go_simp; done)
          | (go_simp; simp; done)
        · refine owes_val rfl (fun E _ _ W_ hE hW => by simpa [upd] using hW) (fun E vs a W_ hI hE hp => ?_)
          have e0 : a.eval (.tmp 62) = .slice (some ad7) ps.length c7 := hI.phi 2 rfl rfl (pred_of hp 2 rfl) rfl
          have e1 : a.eval (.tmp 63) = .int .i64 (kk : Int) := hI.phi 3 rfl rfl (pred_of hp 3 rfl) rfl
          refine ⟨_, ?_, rfl⟩
          simp only [execOp, e0, e1]
          go_simp
        · refine owes_val rfl (fun E _ _ W_ hE hW => by simpa [upd] using hW) (fun E vs a W_ hI hE hp => ?_)
          have e0 : a.eval (.tmp 64) = .pointer (some (ad7.add (kk * 2))) := hI.phi 4 rfl rfl (pred_of hp 4 rfl) rfl
          refine ⟨_, ?_, rfl⟩
          simp only [execOp, e0]
          first
          | rfl
          | (go_simp; done)
          | (go_simp; simp; done)
        · refine owes_val rfl (fun E _ _ W_ hE hW => by simpa [upd] using hW) (fun E vs a W_ hI hE hp => ?_)
          have e0 : a.eval (.tmp 65) = .pointer (some (ad7.add (kk * 2))) := hI.phi 5 rfl rfl (pred_of hp 5 rfl) rfl
          have q0 := KeepW.cell hI.world.2.2 Z70.out NN7.out
          refine ⟨_, ?_, rfl⟩
          simp only [execOp, e0]
          go_simp
        · refine owes_val rfl (fun E _ _ W_ hE hW => by simpa [upd] using hW) (fun E vs a W_ hI hE hp => ?_)
          have e0 : a.eval (.tmp 61) = .int .i64 ((load_Peak.go ps kk).f0) := hI.phi 1 rfl rfl (pred_of hp 1 rfl) rfl
          have e1 : a.eval (.tmp 66) = .int .i64 ((rd_T23 ps (kk : Int)).f0) := hI.phi 6 rfl rfl (pred_of hp 6 rfl) rfl
          refine ⟨_, ?_, rfl⟩
          simp only [execOp, resolve, List.map_toArray, List.map_cons, List.map_nil, e0, e1]
          rw [M0.out]
          go_simp
          split <;> omega
        · refine owes_val rfl (fun E _ _ W_ hE hW => by simpa [upd] using hW) (fun E vs a W_ hI hE hp => ?_)
          have e0 : a.eval (.tmp 9) = .pointer (some ⟨w3.heap.size, 0, none⟩) := hI.outer (d := 9) (by rfl) rfl
          refine ⟨_, ?_, rfl⟩
          simp only [execOp, e0]
          first
          | rfl
          | (go_simp; done)
          | (go_simp; simp; done)
        · refine owes_val rfl (fun E _ _ W_ hE hW => by simpa [upd] using hW) (fun E vs a W_ hI hE hp => ?_)
          have e0 : a.eval (.tmp 68) = .pointer (some ⟨w3.heap.size, 1, none⟩) := hI.phi 8 rfl rfl (pred_of hp 8 rfl) rfl
          have hb := hI.world.2.1
          have n19 := hI.notYet hE 19 rfl rfl
          rw [n19] at hb
          have q0 := (blk_cell hb 1).trans (by rfl)
          clear hb
          refine ⟨_, ?_, rfl⟩
          simp only [execOp, e0]
          go_simp
        · refine owes_val rfl (fun E _ _ W_ hE hW => by simpa [upd] using hW) (fun E vs a W_ hI hE hp => ?_)
          have e0 : a.eval (.tmp 7) = .slice (some ad7) ps.length c7 := hI.outer (d := 7) (by rfl) rfl
          refine ⟨_, ?_, rfl⟩
          simp only [execOp, e0]
          first
          | rfl
          | (go_simp; done)
          | (go_simp; simp; done)
        · refine owes_val rfl (fun E _ _ W_ hE hW => by simpa [upd] using hW) (fun E vs a W_ hI hE hp => ?_)
          have e0 : a.eval (.tmp 10) = .int .i64 (kk : Int) := hI.outer (d := 10) (by rfl) rfl
          refine ⟨_, ?_, rfl⟩
          simp only [execOp, e0]
          first
          | rfl
          | (go_simp; done)
          | (go_simp; simp; done)
        · refine owes_val rfl (fun E _ _ W_ hE hW => by simpa [upd] using hW) (fun E vs a W_ hI hE hp => ?_)
          have e0 : a.eval (.tmp 70) = .slice (some ad7) ps.length c7 := hI.phi 10 rfl rfl (pred_of hp 10 rfl) rfl
          have e1 : a.eval (.tmp 71) = .int .i64 (kk : Int) := hI.phi 11 rfl rfl (pred_of hp 11 rfl) rfl
          refine ⟨_, ?_, rfl⟩
          simp only [execOp, e0, e1]
          go_simp
        · refine owes_val rfl (fun E _ _ W_ hE hW => by simpa [upd] using hW) (fun E vs a W_ hI hE hp => ?_)
          have e0 : a.eval (.tmp 72) = .pointer (some (ad7.add (kk * 2))) := hI.phi 12 rfl rfl (pred_of hp 12 rfl) rfl
          refine ⟨_, ?_, rfl⟩
          simp only [execOp, e0]
          first
          | rfl
          | (go_simp; done)
          | (go_simp; simp; done)
        · refine owes_val rfl (fun E _ _ W_ hE hW => by simpa [upd] using hW) (fun E vs a W_ hI hE hp => ?_)
          have e0 : a.eval (.tmp 73) = .pointer (some (⟨(ad7.add (kk * 2)).block, (ad7.add (kk * 2)).off + 1, none⟩)) := hI.phi 13 rfl rfl (pred_of hp 13 rfl) rfl
          have q0 := KeepW.cell hI.world.2.2 Z71.out NN7.out
          refine ⟨_, ?_, rfl⟩
          simp only [execOp, e0]
          go_simp
        · refine owes_val rfl (fun E _ _ W_ hE hW => by simpa [upd] using hW) (fun E vs a W_ hI hE hp => ?_)
          have e0 : a.eval (.tmp 69) = .int .i64 ((load_Peak.go ps kk).f1) := hI.phi 9 rfl rfl (pred_of hp 9 rfl) rfl
          have e1 : a.eval (.tmp 74) = .int .i64 ((rd_T23 ps (kk : Int)).f1) := hI.phi 14 rfl rfl (pred_of hp 14 rfl) rfl
          refine ⟨_, ?_, rfl⟩
          simp only [execOp, resolve, List.map_toArray, List.map_cons, List.map_nil, e0, e1]
          rw [M1.out]
          go_simp
          split <;> omega
        · refine owes_val rfl (fun E _ _ W_ hE hW => by simpa [upd] using hW) (fun E vs a W_ hI hE hp => ?_)
          have e0 : a.eval (.tmp 9) = .pointer (some ⟨w3.heap.size, 0, none⟩) := hI.outer (d := 9) (by rfl) rfl
          refine ⟨_, ?_, rfl⟩
          simp only [execOp, e0]
          first
          | rfl
          | (go_simp; done)
          | (go_simp; simp; done)
        · refine owes_world rfl (fun E vs a W_ hI hE hp => ?_)
          have e0 : a.eval (.tmp 76) = .pointer (some ⟨w3.heap.size, 0, none⟩) := hI.phi 16 rfl rfl (pred_of hp 16 rfl) rfl
          have e1 : a.eval (.tmp 67) = .int .i64 m0 := hI.phi 7 rfl rfl (pred_of hp 7 rfl) rfl
          have hb := hI.world.2.1
          have n19 := hI.notYet hE 19 rfl rfl
          rw [hE, n19] at hb
          have q0 := (blk_cell hb 0).trans (by rfl)
          have q1 := (blk_cell hb 1).trans (by rfl)
          have f0 := blk_frozen hb 0
          have f1 := blk_frozen hb 1
          refine ⟨undef, W_.setCell ⟨w3.heap.size, 0, none⟩ (.int .i64 m0), .inr ⟨rfl, ?_⟩, rfl, fun j v' _ hj => phiC_stable _ j v' _ hj, ?_⟩
          · simp only [execOp, e0, e1]
            go_simp
          · exact ⟨by simpa [upd, n19] using blk_put hb 0 (.int .i64 m0) rfl, hI.world.2.2.trans (KeepW.set _ _ _ _)⟩
        · refine owes_val rfl (fun E _ _ W_ hE hW => by simpa [upd] using hW) (fun E vs a W_ hI hE hp => ?_)
          have e0 : a.eval (.tmp 9) = .pointer (some ⟨w3.heap.size, 0, none⟩) := hI.outer (d := 9) (by rfl) rfl
          refine ⟨_, ?_, rfl⟩
          simp only [execOp, e0]
          first
          | rfl
          | (go_simp; done)
          | (go_simp; simp; done)
        · refine owes_world rfl (fun E vs a W_ hI hE hp => ?_)
          have e0 : a.eval (.tmp 77) = .pointer (some ⟨w3.heap.size, 1, none⟩) := hI.phi 18 rfl rfl (pred_of hp 18 rfl) rfl
          have e1 : a.eval (.tmp 75) = .int .i64 m1 := hI.phi 15 rfl rfl (pred_of hp 15 rfl) rfl
          have hb := hI.world.2.1
          have y17 : E 17 = true := pred_of hp 17 rfl
          rw [hE, y17] at hb
          have q0 := (blk_cell hb 0).trans (by rfl)
          have q1 := (blk_cell hb 1).trans (by rfl)
          have f0 := blk_frozen hb 0
          have f1 := blk_frozen hb 1
          refine ⟨undef, W_.setCell ⟨w3.heap.size, 1, none⟩ (.int .i64 m1), .inr ⟨rfl, ?_⟩, rfl, fun j v' _ hj => phiC_stable _ j v' _ hj, ?_⟩
          · simp only [execOp, e0, e1]
            go_simp
          · exact ⟨by simpa [upd, y17] using blk_put hb 1 (.int .i64 m1) rfl, hI.world.2.2.trans (KeepW.set _ _ _ _)⟩
      case hendB =>
      intro E vs a W hI hall
      obtain rfl := hI.frame (by kernel_rfl) hall
      have y17 := hall 17 (by decide)
      have y19 := hall 19 (by decide)
      have hb := hI.world.2.1
      rw [y17, y19] at hb
      have HB9 := Aside0.mk hb
      have KW3 := Aside0.mk ((KW.out.trans (KeepW.of_below HB_w5.out _)).trans hI.world.2.2)
      clear hI hb hall y17 y19
      simp only [putsFrom, List.setIfInBounds_toArray, List.set_cons_zero, List.set_cons_succ]
      go_wp2
      go_roundg (ps.length - (kk + 1))
      case measure => omega
      case rel => exact ⟨kk + 1, by omega, by omega, by go_num, ⟨by rw [HB9.out]; simp [load_Peak.go, load_Peak.top, M0.out, M1.out]⟩, KW3⟩
    · have hltz : decide ((kk : Int) < (ps.length : Int)) = false := by simp; omega
      have : kk = ps.length := by omega
      subst this
      go_wp2
      have BW3 := Aside0.mk ((below_step (below_step BW.out HB_w3.out) HB_w4.out).trans (KW.out.below (below_size (below_step (below_step BW.out HB_w3.out) HB_w4.out)) (below_size (below_step BW.out HB_w3.out))))
      refine wp_region_pv [.val (.slice A1 xs.length c1), .val (.agg #[.int .i64 ((load_Peak.go ps ps.length).f0), .int .i64 ((load_Peak.go ps ps.length).f1)]), .val (.agg #[.int .i64 ((load_Peak.go ps ps.length).f0), .int .i64 ((load_Peak.go ps ps.length).f1)]), .val (.bool true), .val (.bool true)] rfl (by kernel_rfl) ?howesC ?hendC
      case howesC =>
        refine ⟨?_, ?_, ?_, ?_, ?_, trivial⟩
        · refine owes_pv0 (fun E vs a W_ hI hE hp => ?_)
          have e0 : a.eval (.tmp 1) = .slice A1 xs.length c1 := hI.outer (d := 1) (by rfl) rfl
          refine ⟨rfl, _, ?_, rfl⟩
          simp only [execOp, e0]
          first
          | rfl
          | (go_simp; done)
          | (go_simp; simp; done)
        · refine owes_pvc (fun E vs a W_ hI hE hp => ?_)
          have e0 : a.eval (.tmp 79) = .slice A1 xs.length c1 := hI.pv 0 rfl rfl (pred_of hp 0 rfl) rfl
          refine ⟨rfl, 21, #[.slice A1 xs.length c1], ?_, ?_⟩
          · simp only [execOp, resolve, List.map_toArray, List.map_cons, List.map_nil, e0]
            rfl
          · refine (load_Peak.calls k A1 c1 xs (load_Peak.go ps ps.length).f0 (load_Peak.go ps ps.length).f1 _ (Kd.C_below HR.out (below_step BW3.out hI.world.2)) HC.out HK.out).mono ?_
            rintro e W1_ ⟨rfl, hb⟩
            exact ⟨_, rfl, hb, rfl⟩
        · refine owes_pv0 (fun E vs a W_ hI hE hp => ?_)
          have e0 : a.eval (.tmp 9) = .pointer (some ⟨w3.heap.size, 0, none⟩) := hI.outer (d := 9) (by rfl) rfl
          have hb := blk_below B9.out hI.world.2
          have q0 := (blk_cell hb 0).trans rfl
          have q1 := (blk_cell hb 1).trans rfl
          clear hb
          refine ⟨rfl, _, ?_, rfl⟩
          simp only [execOp, e0]
          go_simp
        · refine owes_pv0 (fun E vs a W_ hI hE hp => ?_)
          have e0 : a.eval (.tmp 80) = .agg #[.int .i64 ((load_Peak.go ps ps.length).f0), .int .i64 ((load_Peak.go ps ps.length).f1)] := hI.pv 1 rfl rfl (pred_of hp 1 rfl) rfl
          have e1 : a.eval (.tmp 81) = .agg #[.int .i64 ((load_Peak.go ps ps.length).f0), .int .i64 ((load_Peak.go ps ps.length).f1)] := hI.pv 2 rfl rfl (pred_of hp 2 rfl) rfl
          refine ⟨rfl, _, ?_, rfl⟩
          simp only [execOp, e0, e1]
          first
          | rfl
          | (go_simp; done)
          | (go_simp; simp; done)
        · refine owes_pv0 (fun E vs a W_ hI hE hp => ?_)
          have e0 : a.eval (.tmp 82) = .bool true := hI.pv 3 rfl rfl (pred_of hp 3 rfl) rfl
          refine ⟨rfl, _, ?_, rfl⟩
          simp only [execOp, e0]
          first
          | rfl
          | (go_simp; done)
          | (go_simp; simp; done)
      case hendC =>
      intro E vs a W hI hall
      have e1 : a.tmps.getD 4 undef = .bool true := hI.pv 4 rfl rfl (hall 4 (by decide)) rfl
      have e2 : a.defers = [] := hI.defers
      have hb := hI.world.2
      clear hI hall
      go_wp2
      refine bodyPost_ret (v := .bool true) ((results_tmp (t := 4) rfl _ _ _).trans (by rw [e1])) e2 ⟨rfl, below_step BW3.out hb⟩
end Go.Proofs.Ytocoapfnkkmkiaa.P
