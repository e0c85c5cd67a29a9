/- Loads are added in any order, and taken away again: the walk. -/
import Derived.Test.YtocoapfnkkmkiaaP1
import Derived.Test.YtocoapfnkkmkiaaP2
import Derived.Test.YtocoapfnkkmkiaaP3
import Derived.Test.YtocoapfnkkmkiaaP4
import Derived.Test.YtocoapfnkkmkiaaP5
import Derived.Test.YtocoapfnkkmkiaaP8
namespace Go.Proofs.Ytocoapfnkkmkiaa.P
open Go.Proofs.YtocoapfnkkmkiaaR
open Go.RowKit Go.Proofs.YtocoapfnkkmkiaaW.PrintWords Go.Proofs.YtocoapfnkkmkiaaW.PrintLast Go.Proofs.YtocoapfnkkmkiaaW.PrintMore
attribute [local go_sem] max2_int min2_int max_two min_two max_three min_three max_four min_four
set_option linter.unusedVariables false
set_option linter.unusedSimpArgs false
attribute [local go_sem high] eqA23
set_option maxHeartbeats 8000000 in
set_option maxRecDepth 100000 in
theorem loadAdds_way100 (a0 a1 b0 b1 r0 r1 more x0 x1 n0 n1 m0 m1 : Int) (w : World)
    (hA : load_Add.f 5 a0 a1 b0 b1 = some (x0, x1, true)) (hB : load_Add.f 5 b0 b1 a0 a1 = some (x0, x1, true)) (hN : load_Neg.f b0 b1 = some (n0, n1)) (hC : load_Add.f 5 x0 x1 n0 n1 = some (a0, a1, true))
    (hR : load_Right.f r0 r1 = some false) :
    Calls Try.prog 6 #[.agg #[.int .i64 a0, .int .i64 a1], .agg #[.int .i64 b0, .int .i64 b1], .agg #[.int .i64 r0, .int .i64 r1], .int .i64 more] w fun e w' => e = .returned (.bool true) ∧ Below w.heap.size w w' := by
  have hu23 := Try.underlying23
  have hu3 := Try.underlying3
  have HA := Aside0.mk hA
  have HB := Aside0.mk hB
  have HN := Aside0.mk hN
  have HC := Aside0.mk hC
  have HR := Aside0.mk hR
  clear hA hB hN hC hR
  go_enter Try.func6, Try.ntmps6
  go_wp2_with (first | (go_at_call 8; (with_reducible refine (jitneylaw04_alive.calls true _ rfl).mono ?_); rintro e w0 ⟨rfl, hb⟩; have b1_ := blk_below (g := w.heap.size) (o := .cells #[.int .i64 a0, .int .i64 a1] 23 (0, 0)) (blk_alloc (blk_alloc (blk_new w _) _) _) hb; have b2_ := blk_below (g := w.heap.size + 1) (o := .cells #[.int .i64 b0, .int .i64 b1] 23 (0, 0)) (blk_alloc (heap_alloc2_new w _ _) _) hb; have b3_ := blk_below (g := w.heap.size + 1 + 1) (o := .cells #[.int .i64 r0, .int .i64 r1] 23 (0, 0)) (heap_alloc3_new w _ _ _) hb; have HB_w0 := Aside0.mk hb; have F1_ := Aside0.mk b1_; have cb1_0 := (blk_cell b1_ 0).trans rfl; have zb1_0 := blk_frozen b1_ 0; have cb1_1 := (blk_cell b1_ 1).trans rfl; have zb1_1 := blk_frozen b1_ 1; have lb1_ := blk_lt b1_; clear b1_; have F2_ := Aside0.mk b2_; have cb2_0 := (blk_cell b2_ 0).trans rfl; have zb2_0 := blk_frozen b2_ 0; have cb2_1 := (blk_cell b2_ 1).trans rfl; have zb2_1 := blk_frozen b2_ 1; have lb2_ := blk_lt b2_; clear b2_; have F3_ := Aside0.mk b3_; have cb3_0 := (blk_cell b3_ 0).trans rfl; have zb3_0 := blk_frozen b3_ 0; have cb3_1 := (blk_cell b3_ 1).trans rfl; have zb3_1 := blk_frozen b3_ 1; have lb3_ := blk_lt b3_; clear b3_; clear hb) | (go_at_call 9; (with_reducible refine (load_Add.calls 5 a0 a1 b0 b1 x0 x1 true _ HA.out).mono ?_); rintro e w1 ⟨rfl, hb⟩; clear cb1_0 zb1_0 cb1_1 zb1_1 lb1_ cb2_0 zb2_0 cb2_1 zb2_1 lb2_ cb3_0 zb3_0 cb3_1 zb3_1 lb3_; have b4_ := blk_below (g := w.heap.size) (o := .cells #[.int .i64 a0, .int .i64 a1] 23 (0, 0)) (by (with_reducible repeat (first | refine blk_drewN ?_ _ | refine blk_drew ?_ | refine blk_alloc ?_ _)); exact F1_.out) hb; have b5_ := blk_below (g := w.heap.size + 1) (o := .cells #[.int .i64 b0, .int .i64 b1] 23 (0, 0)) (by (with_reducible repeat (first | refine blk_drewN ?_ _ | refine blk_drew ?_ | refine blk_alloc ?_ _)); exact F2_.out) hb; have b6_ := blk_below (g := w.heap.size + 1 + 1) (o := .cells #[.int .i64 r0, .int .i64 r1] 23 (0, 0)) (by (with_reducible repeat (first | refine blk_drewN ?_ _ | refine blk_drew ?_ | refine blk_alloc ?_ _)); exact F3_.out) hb; have HB_w1 := Aside0.mk hb; have F4_ := Aside0.mk b4_; have cb4_0 := (blk_cell b4_ 0).trans rfl; have zb4_0 := blk_frozen b4_ 0; have cb4_1 := (blk_cell b4_ 1).trans rfl; have zb4_1 := blk_frozen b4_ 1; have lb4_ := blk_lt b4_; clear b4_; have F5_ := Aside0.mk b5_; have cb5_0 := (blk_cell b5_ 0).trans rfl; have zb5_0 := blk_frozen b5_ 0; have cb5_1 := (blk_cell b5_ 1).trans rfl; have zb5_1 := blk_frozen b5_ 1; have lb5_ := blk_lt b5_; clear b5_; have F6_ := Aside0.mk b6_; have cb6_0 := (blk_cell b6_ 0).trans rfl; have zb6_0 := blk_frozen b6_ 0; have cb6_1 := (blk_cell b6_ 1).trans rfl; have zb6_1 := blk_frozen b6_ 1; have lb6_ := blk_lt b6_; clear b6_; clear hb) | (go_at_call 9; (with_reducible refine (load_Add.calls 5 b0 b1 a0 a1 x0 x1 true _ HB.out).mono ?_); rintro e w2 ⟨rfl, hb⟩; clear cb4_0 zb4_0 cb4_1 zb4_1 lb4_ cb5_0 zb5_0 cb5_1 zb5_1 lb5_ cb6_0 zb6_0 cb6_1 zb6_1 lb6_; have b7_ := blk_below (g := w.heap.size) (o := .cells #[.int .i64 a0, .int .i64 a1] 23 (0, 0)) (by (with_reducible repeat (first | refine blk_drewN ?_ _ | refine blk_drew ?_ | refine blk_alloc ?_ _)); exact F4_.out) hb; have b8_ := blk_below (g := w.heap.size + 1) (o := .cells #[.int .i64 b0, .int .i64 b1] 23 (0, 0)) (by (with_reducible repeat (first | refine blk_drewN ?_ _ | refine blk_drew ?_ | refine blk_alloc ?_ _)); exact F5_.out) hb; have b9_ := blk_below (g := w.heap.size + 1 + 1) (o := .cells #[.int .i64 r0, .int .i64 r1] 23 (0, 0)) (by (with_reducible repeat (first | refine blk_drewN ?_ _ | refine blk_drew ?_ | refine blk_alloc ?_ _)); exact F6_.out) hb; have b10_ := blk_below (g := w1.heap.size) (o := .cells #[.int .i64 x0, .int .i64 x1] 23 (0, 0)) (blk_new w1 _) hb; have HB_w2 := Aside0.mk hb; have F7_ := Aside0.mk b7_; have cb7_0 := (blk_cell b7_ 0).trans rfl; have zb7_0 := blk_frozen b7_ 0; have cb7_1 := (blk_cell b7_ 1).trans rfl; have zb7_1 := blk_frozen b7_ 1; have lb7_ := blk_lt b7_; clear b7_; have F8_ := Aside0.mk b8_; have cb8_0 := (blk_cell b8_ 0).trans rfl; have zb8_0 := blk_frozen b8_ 0; have cb8_1 := (blk_cell b8_ 1).trans rfl; have zb8_1 := blk_frozen b8_ 1; have lb8_ := blk_lt b8_; clear b8_; have F9_ := Aside0.mk b9_; have cb9_0 := (blk_cell b9_ 0).trans rfl; have zb9_0 := blk_frozen b9_ 0; have cb9_1 := (blk_cell b9_ 1).trans rfl; have zb9_1 := blk_frozen b9_ 1; have lb9_ := blk_lt b9_; clear b9_; have F10_ := Aside0.mk b10_; have cb10_0 := (blk_cell b10_ 0).trans rfl; have zb10_0 := blk_frozen b10_ 0; have cb10_1 := (blk_cell b10_ 1).trans rfl; have zb10_1 := blk_frozen b10_ 1; have lb10_ := blk_lt b10_; clear b10_; clear hb))
  obtain ⟨w3, hw3⟩ : ∃ w3, w3 = w2.alloc (.cells #[.int .i64 x0, .int .i64 x1] 23 (0, 0)) := ⟨_, rfl⟩
  rw [← hw3]
  have hb : Below w2.heap.size w2 w3 := by rw [hw3]; exact below_alloc (Below.refl _ _) _
  clear cb7_0 zb7_0 cb7_1 zb7_1 lb7_ cb8_0 zb8_0 cb8_1 zb8_1 lb8_ cb9_0 zb9_0 cb9_1 zb9_1 lb9_ cb10_0 zb10_0 cb10_1 zb10_1 lb10_
  have b11_ := blk_below (g := w.heap.size) (o := .cells #[.int .i64 a0, .int .i64 a1] 23 (0, 0)) (by (with_reducible repeat (first | refine blk_drewN ?_ _ | refine blk_drew ?_ | refine blk_alloc ?_ _)); exact F7_.out) hb
  have b12_ := blk_below (g := w.heap.size + 1) (o := .cells #[.int .i64 b0, .int .i64 b1] 23 (0, 0)) (by (with_reducible repeat (first | refine blk_drewN ?_ _ | refine blk_drew ?_ | refine blk_alloc ?_ _)); exact F8_.out) hb
  have b13_ := blk_below (g := w.heap.size + 1 + 1) (o := .cells #[.int .i64 r0, .int .i64 r1] 23 (0, 0)) (by (with_reducible repeat (first | refine blk_drewN ?_ _ | refine blk_drew ?_ | refine blk_alloc ?_ _)); exact F9_.out) hb
  have b14_ := blk_below (g := w1.heap.size) (o := .cells #[.int .i64 x0, .int .i64 x1] 23 (0, 0)) (by (with_reducible repeat (first | refine blk_drewN ?_ _ | refine blk_drew ?_ | refine blk_alloc ?_ _)); exact F10_.out) hb
  have b15_ : w3.heap[w2.heap.size]? = some (.cells #[.int .i64 x0, .int .i64 x1] 23 (0, 0)) := by rw [hw3]; exact blk_new _ _
  have F11_ := Aside0.mk b11_
  clear b11_
  have F12_ := Aside0.mk b12_
  clear b12_
  have F13_ := Aside0.mk b13_
  clear b13_
  have F14_ := Aside0.mk b14_
  clear b14_
  have F15_ := Aside0.mk b15_
  clear b15_
  have HB_w3 := Aside0.mk hb
  clear hb hw3
  refine wp_region_told (phiO [some (.agg #[.int .i64 x0, .int .i64 x1]), some (.agg #[.int .i64 b0, .int .i64 b1]), some (.agg #[.int .i64 n0, .int .i64 n1]), some (.tuple #[.agg #[.int .i64 a0, .int .i64 a1], .bool true]), some (.tuple #[.agg #[.int .i64 a0, .int .i64 a1], .bool true]), some (.agg #[.int .i64 a0, .int .i64 a1]), some (.bool true), none, some (undef), some (.bool true)]) (fun E vs W_ => Below w3.heap.size w3 W_ ∧ BoxIn w3 7 8 #[.int .i64 0, .int .i64 0] #[.int .i64 a0, .int .i64 a1] 23 E vs W_) rfl (by kernel_rfl) ⟨⟨rfl, rfl, rfl, Nat.le_refl _, fun _ _ => rfl⟩, fun h => absurd h (by simp)⟩ ?howes ?hend
  case howes =>
    refine ⟨?_, ?_, ?_, ?_, ?_, ?_, ?_, ?_, ?_, ?_, trivial⟩
    · refine owes_val rfl (fun E vs v W_ hE hW => ⟨hW.1, hW.2.other (Below.refl _ _) (by decide) (by decide) v⟩) (fun E vs a W_ hI hE hp => ?_)
      have e0 : a.eval (.tmp 9) = .pointer (some ⟨w1.heap.size, 0, none⟩) := hI.outer (d := 9) (by rfl) rfl
      have hb := blk_below F14_.out hI.world.2.1
      have q0 := (blk_cell hb 0).trans rfl
      have q1 := (blk_cell hb 1).trans rfl
      clear hb
      refine ⟨_, ?_, rfl⟩
      simp only [execOp, e0]
      go_simp
    · refine owes_val rfl (fun E vs v W_ hE hW => ⟨hW.1, hW.2.other (Below.refl _ _) (by decide) (by decide) v⟩) (fun E vs a W_ hI hE hp => ?_)
      have e0 : a.eval (.tmp 5) = .pointer (some ⟨(w.heap.size + 1), 0, none⟩) := hI.outer (d := 5) (by rfl) rfl
      have hb := blk_below F12_.out hI.world.2.1
      have q0 := (blk_cell hb 0).trans rfl
      have q1 := (blk_cell hb 1).trans rfl
      clear hb
      refine ⟨_, ?_, rfl⟩
      simp only [execOp, e0]
      go_simp
    · refine owes_callS (fun E vs a W_ hI hE hp => ?_)
      have e0 : a.eval (.tmp 41) = .agg #[.int .i64 b0, .int .i64 b1] := hI.phi 1 rfl rfl (pred_of hp 1 rfl) rfl
      refine ⟨rfl, 11, #[.agg #[.int .i64 b0, .int .i64 b1]], ?_, ?_⟩
      · simp only [execOp, resolve, List.map_toArray, List.map_cons, List.map_nil, e0]
        rfl
      · refine (load_Neg.calls b0 b1 n0 n1 _ HN.out).mono ?_
        rintro e W1_ ⟨rfl, hb⟩
        exact ⟨_, rfl, rfl, fun j v' _ hj => phiO_stable _ j v' _ hj, below_step hI.world.2.1 hb, hI.world.2.2.other hb (by decide) (by decide) _⟩
    · refine owes_callS (fun E vs a W_ hI hE hp => ?_)
      have e0 : a.eval (.tmp 40) = .agg #[.int .i64 x0, .int .i64 x1] := hI.phi 0 rfl rfl (pred_of hp 0 rfl) rfl
      have e1 : a.eval (.tmp 42) = .agg #[.int .i64 n0, .int .i64 n1] := hI.phi 2 rfl rfl (pred_of hp 2 rfl) rfl
      refine ⟨rfl, 9, #[.agg #[.int .i64 x0, .int .i64 x1], .agg #[.int .i64 n0, .int .i64 n1]], ?_, ?_⟩
      · simp only [execOp, resolve, List.map_toArray, List.map_cons, List.map_nil, e0, e1]
        rfl
      · refine (load_Add.calls 5 x0 x1 n0 n1 a0 a1 true _ HC.out).mono ?_
        rintro e W1_ ⟨rfl, hb⟩
        exact ⟨_, rfl, rfl, fun j v' _ hj => phiO_stable _ j v' _ hj, below_step hI.world.2.1 hb, hI.world.2.2.other hb (by decide) (by decide) _⟩
    · refine owes_val rfl (fun E vs v W_ hE hW => ⟨hW.1, hW.2.other (Below.refl _ _) (by decide) (by decide) v⟩) (fun E vs a W_ hI hE hp => ?_)
      have e0 : a.eval (.tmp 43) = .tuple #[.agg #[.int .i64 a0, .int .i64 a1], .bool true] := hI.phi 3 rfl rfl (pred_of hp 3 rfl) rfl
      refine ⟨_, ?_, rfl⟩
      simp only [execOp, e0]
      first
      | rfl
      | (go_simp; done)
      | (go_simp; simp; done)
    · refine owes_val rfl (fun E vs v W_ hE hW => ⟨hW.1, hW.2.other (Below.refl _ _) (by decide) (by decide) v⟩) (fun E vs a W_ hI hE hp => ?_)
      have e0 : a.eval (.tmp 39) = .tuple #[.agg #[.int .i64 a0, .int .i64 a1], .bool true] := hI.phi 4 rfl rfl (pred_of hp 4 rfl) rfl
      refine ⟨_, ?_, rfl⟩
      simp only [execOp, e0]
      first
      | rfl
      | (go_simp; done)
      | (go_simp; simp; done)
    · refine owes_val rfl (fun E vs v W_ hE hW => ⟨hW.1, hW.2.other (Below.refl _ _) (by decide) (by decide) v⟩) (fun E vs a W_ hI hE hp => ?_)
      have e0 : a.eval (.tmp 39) = .tuple #[.agg #[.int .i64 a0, .int .i64 a1], .bool true] := hI.phi 4 rfl rfl (pred_of hp 4 rfl) rfl
      refine ⟨_, ?_, rfl⟩
      simp only [execOp, e0]
      first
      | rfl
      | (go_simp; done)
      | (go_simp; simp; done)
    · refine owes_world rfl (fun E vs a W_ hI hE hp => ?_)
      have hs := hI.notYet hE 8 rfl rfl
      refine ⟨.pointer (some ⟨W_.heap.size, 0, none⟩), W_.alloc (.cells #[.int .i64 0, .int .i64 0] 23 (0, 0)), .inl ?_, trivial, fun j v' _ hj => phiO_stable _ j v' _ hj, below_step hI.world.2.1 (below_alloc (Below.refl _ _) _), BoxIn.made hI.world.2.1.size hs (by decide)⟩
      simp only [execOp]
      go_simp
    · refine owes_world rfl (fun E vs a W_ hI hE hp => ?_)
      have e1 : a.eval (.tmp 44) = .agg #[.int .i64 a0, .int .i64 a1] := hI.phi 5 rfl rfl (pred_of hp 5 rfl) rfl
      have ya : E 7 = true := pred_of hp 7 rfl
      obtain ⟨g, hv, hg, hh⟩ := hI.world.2.2 ya
      rw [hE, if_neg (by decide)] at hh
      have e0 : a.eval (.tmp 13) = .pointer (some ⟨g, 0, none⟩) := (hI.tmp (i := 7) rfl rfl ya (by simp)).trans hv
      have q0 := (blk_cell hh 0).trans rfl
      have f0 := blk_frozen hh 0
      have q1 := (blk_cell hh 1).trans rfl
      have f1 := blk_frozen hh 1
      have hh2 : ((W_.setCell ⟨g, 0, none⟩ (.int .i64 a0)).setCell ⟨g, 1, none⟩ (.int .i64 a1)).heap[g]? = some (.cells #[.int .i64 a0, .int .i64 a1] 23 (0, 0)) := (blk_put (cs' := #[.int .i64 a0, .int .i64 a1]) (blk_put (cs' := #[.int .i64 a0, .int .i64 0]) hh 0 _ rfl) 1 _ rfl)
      refine ⟨undef, ((W_.setCell ⟨g, 0, none⟩ (.int .i64 a0)).setCell ⟨g, 1, none⟩ (.int .i64 a1)), .inr ⟨rfl, ?_⟩, rfl, fun j v' _ hj => phiO_stable _ j v' _ hj, (below_set (below_set hI.world.2.1 hg) hg), BoxIn.put1 hv hg (by decide) hh2 _⟩
      simp only [execOp, e0, e1]
      go_simp
    · refine owes_val rfl (fun E vs v W_ hE hW => ⟨hW.1, hW.2.other (Below.refl _ _) (by decide) (by decide) v⟩) (fun E vs a W_ hI hE hp => ?_)
      have e0 : a.eval (.tmp 45) = .bool true := hI.phi 6 rfl rfl (pred_of hp 6 rfl) rfl
      refine ⟨_, ?_, rfl⟩
      simp only [execOp, e0]
      first
      | rfl
      | (go_simp; done)
      | (go_simp; simp; done)
  case hend =>
  intro E vs a w5 hI hall
  obtain rfl := hI.frame (by kernel_rfl) hall
  obtain ⟨gz, v7, hgz, hz⟩ := hI.world.2.2 (hall 7 (by decide))
  rw [hall 8 (by decide), if_pos rfl] at hz
  have v9 : vs 9 = .bool true := hI.world.1 9 (hall 9 (by decide))
  have hb := hI.world.2.1
  clear hI hall
  simp only [putsFrom, List.setIfInBounds_toArray, List.set_cons_zero, List.set_cons_succ]
  rw [v7, v9]
  clear v7 v9
  have b16_ := blk_below (g := w.heap.size) (o := .cells #[.int .i64 a0, .int .i64 a1] 23 (0, 0)) (by (with_reducible repeat (first | refine blk_drewN ?_ _ | refine blk_drew ?_ | refine blk_alloc ?_ _)); exact F11_.out) hb
  have b17_ := blk_below (g := w.heap.size + 1) (o := .cells #[.int .i64 b0, .int .i64 b1] 23 (0, 0)) (by (with_reducible repeat (first | refine blk_drewN ?_ _ | refine blk_drew ?_ | refine blk_alloc ?_ _)); exact F12_.out) hb
  have b18_ := blk_below (g := w.heap.size + 1 + 1) (o := .cells #[.int .i64 r0, .int .i64 r1] 23 (0, 0)) (by (with_reducible repeat (first | refine blk_drewN ?_ _ | refine blk_drew ?_ | refine blk_alloc ?_ _)); exact F13_.out) hb
  have b19_ := blk_below (g := w1.heap.size) (o := .cells #[.int .i64 x0, .int .i64 x1] 23 (0, 0)) (by (with_reducible repeat (first | refine blk_drewN ?_ _ | refine blk_drew ?_ | refine blk_alloc ?_ _)); exact F14_.out) hb
  have b20_ := blk_below (g := w2.heap.size) (o := .cells #[.int .i64 x0, .int .i64 x1] 23 (0, 0)) (by (with_reducible repeat (first | refine blk_drewN ?_ _ | refine blk_drew ?_ | refine blk_alloc ?_ _)); exact F15_.out) hb
  have b21_ := hz
  have HB_w5 := Aside0.mk hb
  clear hb hz
  have F16_ := Aside0.mk b16_
  have cb16_0 := (blk_cell b16_ 0).trans rfl; have zb16_0 := blk_frozen b16_ 0
  have cb16_1 := (blk_cell b16_ 1).trans rfl; have zb16_1 := blk_frozen b16_ 1
  have lb16_ := blk_lt b16_
  clear b16_
  have F17_ := Aside0.mk b17_
  have cb17_0 := (blk_cell b17_ 0).trans rfl; have zb17_0 := blk_frozen b17_ 0
  have cb17_1 := (blk_cell b17_ 1).trans rfl; have zb17_1 := blk_frozen b17_ 1
  have lb17_ := blk_lt b17_
  clear b17_
  have F18_ := Aside0.mk b18_
  have cb18_0 := (blk_cell b18_ 0).trans rfl; have zb18_0 := blk_frozen b18_ 0
  have cb18_1 := (blk_cell b18_ 1).trans rfl; have zb18_1 := blk_frozen b18_ 1
  have lb18_ := blk_lt b18_
  clear b18_
  have F19_ := Aside0.mk b19_
  have cb19_0 := (blk_cell b19_ 0).trans rfl; have zb19_0 := blk_frozen b19_ 0
  have cb19_1 := (blk_cell b19_ 1).trans rfl; have zb19_1 := blk_frozen b19_ 1
  have lb19_ := blk_lt b19_
  clear b19_
  have F20_ := Aside0.mk b20_
  have cb20_0 := (blk_cell b20_ 0).trans rfl; have zb20_0 := blk_frozen b20_ 0
  have cb20_1 := (blk_cell b20_ 1).trans rfl; have zb20_1 := blk_frozen b20_ 1
  have lb20_ := blk_lt b20_
  clear b20_
  have F21_ := Aside0.mk b21_
  have cb21_0 := (blk_cell b21_ 0).trans rfl; have zb21_0 := blk_frozen b21_ 0
  have cb21_1 := (blk_cell b21_ 1).trans rfl; have zb21_1 := blk_frozen b21_ 1
  have lb21_ := blk_lt b21_
  clear b21_
  go_wp2_with (first | (go_at_call 13; (with_reducible refine (load_Right.calls r0 r1 false _ HR.out).mono ?_); rintro e w4 ⟨rfl, hb⟩; clear cb16_0 zb16_0 cb16_1 zb16_1 lb16_ cb17_0 zb17_0 cb17_1 zb17_1 lb17_ cb18_0 zb18_0 cb18_1 zb18_1 lb18_ cb19_0 zb19_0 cb19_1 zb19_1 lb19_ cb20_0 zb20_0 cb20_1 zb20_1 lb20_ cb21_0 zb21_0 cb21_1 zb21_1 lb21_; have b22_ := blk_below (g := w.heap.size) (o := .cells #[.int .i64 a0, .int .i64 a1] 23 (0, 0)) (by (with_reducible repeat (first | refine blk_drewN ?_ _ | refine blk_drew ?_ | refine blk_alloc ?_ _)); exact F16_.out) hb; have b23_ := blk_below (g := w.heap.size + 1) (o := .cells #[.int .i64 b0, .int .i64 b1] 23 (0, 0)) (by (with_reducible repeat (first | refine blk_drewN ?_ _ | refine blk_drew ?_ | refine blk_alloc ?_ _)); exact F17_.out) hb; have b24_ := blk_below (g := w.heap.size + 1 + 1) (o := .cells #[.int .i64 r0, .int .i64 r1] 23 (0, 0)) (by (with_reducible repeat (first | refine blk_drewN ?_ _ | refine blk_drew ?_ | refine blk_alloc ?_ _)); exact F18_.out) hb; have b25_ := blk_below (g := w1.heap.size) (o := .cells #[.int .i64 x0, .int .i64 x1] 23 (0, 0)) (by (with_reducible repeat (first | refine blk_drewN ?_ _ | refine blk_drew ?_ | refine blk_alloc ?_ _)); exact F19_.out) hb; have b26_ := blk_below (g := w2.heap.size) (o := .cells #[.int .i64 x0, .int .i64 x1] 23 (0, 0)) (by (with_reducible repeat (first | refine blk_drewN ?_ _ | refine blk_drew ?_ | refine blk_alloc ?_ _)); exact F20_.out) hb; have b27_ := blk_below (g := gz) (o := .cells #[.int .i64 a0, .int .i64 a1] 23 (0, 0)) (by (with_reducible repeat (first | refine blk_drewN ?_ _ | refine blk_drew ?_ | refine blk_alloc ?_ _)); exact F21_.out) hb; have b28_ := blk_below (g := w5.heap.size) (o := .cells #[.int .i64 r0, .int .i64 r1] 23 (0, 0)) (blk_new w5 _) hb; have HB_w4 := Aside0.mk hb; have F22_ := Aside0.mk b22_; have cb22_0 := (blk_cell b22_ 0).trans rfl; have zb22_0 := blk_frozen b22_ 0; have cb22_1 := (blk_cell b22_ 1).trans rfl; have zb22_1 := blk_frozen b22_ 1; have lb22_ := blk_lt b22_; clear b22_; have F23_ := Aside0.mk b23_; have cb23_0 := (blk_cell b23_ 0).trans rfl; have zb23_0 := blk_frozen b23_ 0; have cb23_1 := (blk_cell b23_ 1).trans rfl; have zb23_1 := blk_frozen b23_ 1; have lb23_ := blk_lt b23_; clear b23_; have F24_ := Aside0.mk b24_; have cb24_0 := (blk_cell b24_ 0).trans rfl; have zb24_0 := blk_frozen b24_ 0; have cb24_1 := (blk_cell b24_ 1).trans rfl; have zb24_1 := blk_frozen b24_ 1; have lb24_ := blk_lt b24_; clear b24_; have F25_ := Aside0.mk b25_; have cb25_0 := (blk_cell b25_ 0).trans rfl; have zb25_0 := blk_frozen b25_ 0; have cb25_1 := (blk_cell b25_ 1).trans rfl; have zb25_1 := blk_frozen b25_ 1; have lb25_ := blk_lt b25_; clear b25_; have F26_ := Aside0.mk b26_; have cb26_0 := (blk_cell b26_ 0).trans rfl; have zb26_0 := blk_frozen b26_ 0; have cb26_1 := (blk_cell b26_ 1).trans rfl; have zb26_1 := blk_frozen b26_ 1; have lb26_ := blk_lt b26_; clear b26_; have F27_ := Aside0.mk b27_; have cb27_0 := (blk_cell b27_ 0).trans rfl; have zb27_0 := blk_frozen b27_ 0; have cb27_1 := (blk_cell b27_ 1).trans rfl; have zb27_1 := blk_frozen b27_ 1; have lb27_ := blk_lt b27_; clear b27_; have F28_ := Aside0.mk b28_; have cb28_0 := (blk_cell b28_ 0).trans rfl; have zb28_0 := blk_frozen b28_ 0; have cb28_1 := (blk_cell b28_ 1).trans rfl; have zb28_1 := blk_frozen b28_ 1; have lb28_ := blk_lt b28_; clear b28_; clear hb))
  have BW := Aside0.mk (below_step (below_alloc (below_step (below_step (below_step (below_alloc (below_step (below_step (below_alloc (below_alloc (below_alloc (Below.refl _ _) _) _) _) HB_w0.out) HB_w1.out) _) HB_w2.out) HB_w3.out) HB_w5.out) _) HB_w4.out)
  have GE15 := Aside0.mk (show w.heap.size ≤ w5.heap.size from below_size (below_step (below_step (below_step (below_alloc (below_step (below_step (below_alloc (below_alloc (below_alloc (Below.refl _ _) _) _) _) HB_w0.out) HB_w1.out) _) HB_w2.out) HB_w3.out) HB_w5.out))
  clear cb22_0 zb22_0 cb22_1 zb22_1 lb22_ cb23_0 zb23_0 cb23_1 zb23_1 lb23_ cb24_0 zb24_0 cb24_1 zb24_1 lb24_ cb25_0 zb25_0 cb25_1 zb25_1 lb25_ cb26_0 zb26_0 cb26_1 zb26_1 lb26_ cb27_0 zb27_0 cb27_1 zb27_1 lb27_ cb28_0 zb28_0 cb28_1 zb28_1 lb28_
  refine wp_region_pv [.val (.agg #[.int .i64 r0, .int .i64 r1]), .val (.bool false), .val (.bool true), .val (.bool true), .val (undef), .val (undef), .val (undef), .val (undef), .val (.bool true), .val (.bool true), .val (undef), .val (undef), .val (undef), .val (undef), .val (undef), .val (undef), .val (undef), .val (undef), .val (undef), .val (undef), .val (.bool true), .val (.bool true)] rfl (by kernel_rfl) ?howes ?hend
  case howes =>
    refine ⟨?_, ?_, ?_, ?_, ?_, ?_, ?_, ?_, ?_, ?_, ?_, ?_, ?_, ?_, ?_, ?_, ?_, ?_, ?_, ?_, ?_, ?_, trivial⟩
    · refine owes_pv0 (fun E vs a W_ hI hE hp => ?_)
      have e0 : a.eval (.tmp 6) = .pointer (some ⟨(w.heap.size + 1 + 1), 0, none⟩) := hI.outer (d := 6) (by rfl) rfl
      have hb := blk_below F24_.out hI.world.2
      have q0 := (blk_cell hb 0).trans rfl
      have q1 := (blk_cell hb 1).trans rfl
      clear hb
      refine ⟨rfl, _, ?_, rfl⟩
      simp only [execOp, e0]
      go_simp
    · refine owes_pvc (fun E vs a W_ hI hE hp => ?_)
      have e0 : a.eval (.tmp 68) = .agg #[.int .i64 r0, .int .i64 r1] := hI.pv 0 rfl rfl (pred_of hp 0 rfl) rfl
      refine ⟨rfl, 13, #[.agg #[.int .i64 r0, .int .i64 r1]], ?_, ?_⟩
      · simp only [execOp, resolve, List.map_toArray, List.map_cons, List.map_nil, e0]
        rfl
      · refine (load_Right.calls r0 r1 false _ HR.out).mono ?_
        rintro e W1_ ⟨rfl, hb⟩
        exact ⟨_, rfl, hb, rfl⟩
    · refine owes_pv0 (fun E vs a W_ hI hE hp => ?_)
      have e0 : a.eval (.tmp 69) = .bool false := hI.pv 1 rfl rfl (pred_of hp 1 rfl) rfl
      refine ⟨rfl, _, ?_, rfl⟩
      simp only [execOp, e0]
      first
      | rfl
      | (go_simp; done)
      | (go_simp; simp; done)
    · refine owes_pv0 (fun E vs a W_ hI hE hp => ?_)
      have e0 : a.eval (.tmp 70) = .bool true := hI.pv 2 rfl rfl (pred_of hp 2 rfl) rfl
      refine ⟨rfl, _, ?_, rfl⟩
      simp only [execOp, e0]
      first
      | rfl
      | (go_simp; done)
      | (go_simp; simp; done)
    · exact owes_pvs (fun E vs a W_ hI hE hp => ⟨unwanted_of hI 3 rfl rfl rfl rfl (show a.eval (.tmp 71) = .bool true from hI.pv 3 rfl rfl (pred_of hp 3 rfl) rfl) (fun c hc => by first | (cases hc; decide) | cases hc), rfl⟩)
    · exact owes_pvs (fun E vs a W_ hI hE hp => ⟨unwanted_of hI 3 rfl rfl rfl rfl (show a.eval (.tmp 71) = .bool true from hI.pv 3 rfl rfl (pred_of hp 3 rfl) rfl) (fun c hc => by first | (cases hc; decide) | cases hc), rfl⟩)
    · exact owes_pvs (fun E vs a W_ hI hE hp => ⟨unwanted_of hI 3 rfl rfl rfl rfl (show a.eval (.tmp 71) = .bool true from hI.pv 3 rfl rfl (pred_of hp 3 rfl) rfl) (fun c hc => by first | (cases hc; decide) | cases hc), rfl⟩)
    · exact owes_pvs (fun E vs a W_ hI hE hp => ⟨unwanted_of hI 3 rfl rfl rfl rfl (show a.eval (.tmp 71) = .bool true from hI.pv 3 rfl rfl (pred_of hp 3 rfl) rfl) (fun c hc => by first | (cases hc; decide) | cases hc), rfl⟩)
    · refine owes_pv0 (fun E vs a W_ hI hE hp => ?_)
      have e0 : a.eval (.tmp 71) = .bool true := hI.pv 3 rfl rfl (pred_of hp 3 rfl) rfl
      have e1 : a.eval (.tmp 75) = undef := hI.pv 7 rfl rfl (pred_of hp 7 rfl) rfl
      refine ⟨rfl, _, ?_, rfl⟩
      simp only [execOp, e0, e1]
      first
      | rfl
      | (go_simp; done)
      | (go_simp; simp; done)
    · refine owes_pv0 (fun E vs a W_ hI hE hp => ?_)
      have e0 : a.eval (.tmp 76) = .bool true := hI.pv 8 rfl rfl (pred_of hp 8 rfl) rfl
      refine ⟨rfl, _, ?_, rfl⟩
      simp only [execOp, e0]
      first
      | rfl
      | (go_simp; done)
      | (go_simp; simp; done)
    · exact owes_pvs (fun E vs a W_ hI hE hp => ⟨unwanted_of hI 9 rfl rfl rfl rfl (show a.eval (.tmp 77) = .bool true from hI.pv 9 rfl rfl (pred_of hp 9 rfl) rfl) (fun c hc => by first | (cases hc; decide) | cases hc), rfl⟩)
    · exact owes_pvs (fun E vs a W_ hI hE hp => ⟨unwanted_of hI 9 rfl rfl rfl rfl (show a.eval (.tmp 77) = .bool true from hI.pv 9 rfl rfl (pred_of hp 9 rfl) rfl) (fun c hc => by first | (cases hc; decide) | cases hc), rfl⟩)
    · exact owes_pvs (fun E vs a W_ hI hE hp => ⟨unwanted_of hI 9 rfl rfl rfl rfl (show a.eval (.tmp 77) = .bool true from hI.pv 9 rfl rfl (pred_of hp 9 rfl) rfl) (fun c hc => by first | (cases hc; decide) | cases hc), rfl⟩)
    · exact owes_pvs (fun E vs a W_ hI hE hp => ⟨unwanted_of hI 9 rfl rfl rfl rfl (show a.eval (.tmp 77) = .bool true from hI.pv 9 rfl rfl (pred_of hp 9 rfl) rfl) (fun c hc => by first | (cases hc; decide) | cases hc), rfl⟩)
    · exact owes_pvs (fun E vs a W_ hI hE hp => ⟨unwanted_of hI 13 rfl rfl rfl rfl (show a.eval (.tmp 81) = undef from hI.pv 13 rfl rfl (pred_of hp 13 rfl) rfl) (fun c hc => by first | (cases hc; decide) | cases hc), rfl⟩)
    · exact owes_pvs (fun E vs a W_ hI hE hp => ⟨unwanted_of hI 13 rfl rfl rfl rfl (show a.eval (.tmp 81) = undef from hI.pv 13 rfl rfl (pred_of hp 13 rfl) rfl) (fun c hc => by first | (cases hc; decide) | cases hc), rfl⟩)
    · exact owes_pvs (fun E vs a W_ hI hE hp => ⟨unwanted_of hI 13 rfl rfl rfl rfl (show a.eval (.tmp 81) = undef from hI.pv 13 rfl rfl (pred_of hp 13 rfl) rfl) (fun c hc => by first | (cases hc; decide) | cases hc), rfl⟩)
    · exact owes_pvs (fun E vs a W_ hI hE hp => ⟨unwanted_of hI 13 rfl rfl rfl rfl (show a.eval (.tmp 81) = undef from hI.pv 13 rfl rfl (pred_of hp 13 rfl) rfl) (fun c hc => by first | (cases hc; decide) | cases hc), rfl⟩)
    · exact owes_pvs (fun E vs a W_ hI hE hp => ⟨unwanted_of hI 13 rfl rfl rfl rfl (show a.eval (.tmp 81) = undef from hI.pv 13 rfl rfl (pred_of hp 13 rfl) rfl) (fun c hc => by first | (cases hc; decide) | cases hc), rfl⟩)
    · exact owes_pvs (fun E vs a W_ hI hE hp => ⟨unwanted_of hI 9 rfl rfl rfl rfl (show a.eval (.tmp 77) = .bool true from hI.pv 9 rfl rfl (pred_of hp 9 rfl) rfl) (fun c hc => by first | (cases hc; decide) | cases hc), rfl⟩)
    · refine owes_pv0 (fun E vs a W_ hI hE hp => ?_)
      have e0 : a.eval (.tmp 77) = .bool true := hI.pv 9 rfl rfl (pred_of hp 9 rfl) rfl
      have e1 : a.eval (.tmp 87) = undef := hI.pv 19 rfl rfl (pred_of hp 19 rfl) rfl
      refine ⟨rfl, _, ?_, rfl⟩
      simp only [execOp, e0, e1]
      first
      | rfl
      | (go_simp; done)
      | (go_simp; simp; done)
    · refine owes_pv0 (fun E vs a W_ hI hE hp => ?_)
      have e0 : a.eval (.tmp 88) = .bool true := hI.pv 20 rfl rfl (pred_of hp 20 rfl) rfl
      refine ⟨rfl, _, ?_, rfl⟩
      simp only [execOp, e0]
      first
      | rfl
      | (go_simp; done)
      | (go_simp; simp; done)
  case hend =>
  intro E vs a W hI hall
  have e1 : a.tmps.getD 8 undef = .bool true := hI.pv 21 rfl rfl (hall 21 (by decide)) rfl
  have e2 : a.defers = [] := hI.defers
  have hb := hI.world.2
  clear hI hall
  go_wp2
  refine bodyPost_ret (v := .bool true) ((results_tmp (t := 8) rfl _ _ _).trans (by rw [e1])) e2 ⟨rfl, below_step BW.out hb⟩

set_option maxHeartbeats 8000000 in
set_option maxRecDepth 100000 in
theorem loadAdds_way110 (a0 a1 b0 b1 r0 r1 more x0 x1 n0 n1 m0 m1 : Int) (w : World)
    (hA : load_Add.f 5 a0 a1 b0 b1 = some (x0, x1, true)) (hB : load_Add.f 5 b0 b1 a0 a1 = some (x0, x1, true)) (hN : load_Neg.f b0 b1 = some (n0, n1)) (hC : load_Add.f 5 x0 x1 n0 n1 = some (a0, a1, true))
    (hR : load_Right.f r0 r1 = some true) (hF : load_Fits.f r0 r1 a0 a1 = some false) :
    Calls Try.prog 6 #[.agg #[.int .i64 a0, .int .i64 a1], .agg #[.int .i64 b0, .int .i64 b1], .agg #[.int .i64 r0, .int .i64 r1], .int .i64 more] w fun e w' => e = .returned (.bool true) ∧ Below w.heap.size w w' := by
  have hu23 := Try.underlying23
  have hu3 := Try.underlying3
  have HA := Aside0.mk hA
  have HB := Aside0.mk hB
  have HN := Aside0.mk hN
  have HC := Aside0.mk hC
  have HR := Aside0.mk hR
  have HF := Aside0.mk hF
  clear hA hB hN hC hR hF
  go_enter Try.func6, Try.ntmps6
  go_wp2_with (first | (go_at_call 8; (with_reducible refine (jitneylaw04_alive.calls true _ rfl).mono ?_); rintro e w0 ⟨rfl, hb⟩; have b1_ := blk_below (g := w.heap.size) (o := .cells #[.int .i64 a0, .int .i64 a1] 23 (0, 0)) (blk_alloc (blk_alloc (blk_new w _) _) _) hb; have b2_ := blk_below (g := w.heap.size + 1) (o := .cells #[.int .i64 b0, .int .i64 b1] 23 (0, 0)) (blk_alloc (heap_alloc2_new w _ _) _) hb; have b3_ := blk_below (g := w.heap.size + 1 + 1) (o := .cells #[.int .i64 r0, .int .i64 r1] 23 (0, 0)) (heap_alloc3_new w _ _ _) hb; have HB_w0 := Aside0.mk hb; have F1_ := Aside0.mk b1_; have cb1_0 := (blk_cell b1_ 0).trans rfl; have zb1_0 := blk_frozen b1_ 0; have cb1_1 := (blk_cell b1_ 1).trans rfl; have zb1_1 := blk_frozen b1_ 1; have lb1_ := blk_lt b1_; clear b1_; have F2_ := Aside0.mk b2_; have cb2_0 := (blk_cell b2_ 0).trans rfl; have zb2_0 := blk_frozen b2_ 0; have cb2_1 := (blk_cell b2_ 1).trans rfl; have zb2_1 := blk_frozen b2_ 1; have lb2_ := blk_lt b2_; clear b2_; have F3_ := Aside0.mk b3_; have cb3_0 := (blk_cell b3_ 0).trans rfl; have zb3_0 := blk_frozen b3_ 0; have cb3_1 := (blk_cell b3_ 1).trans rfl; have zb3_1 := blk_frozen b3_ 1; have lb3_ := blk_lt b3_; clear b3_; clear hb) | (go_at_call 9; (with_reducible refine (load_Add.calls 5 a0 a1 b0 b1 x0 x1 true _ HA.out).mono ?_); rintro e w1 ⟨rfl, hb⟩; clear cb1_0 zb1_0 cb1_1 zb1_1 lb1_ cb2_0 zb2_0 cb2_1 zb2_1 lb2_ cb3_0 zb3_0 cb3_1 zb3_1 lb3_; have b4_ := blk_below (g := w.heap.size) (o := .cells #[.int .i64 a0, .int .i64 a1] 23 (0, 0)) (by (with_reducible repeat (first | refine blk_drewN ?_ _ | refine blk_drew ?_ | refine blk_alloc ?_ _)); exact F1_.out) hb; have b5_ := blk_below (g := w.heap.size + 1) (o := .cells #[.int .i64 b0, .int .i64 b1] 23 (0, 0)) (by (with_reducible repeat (first | refine blk_drewN ?_ _ | refine blk_drew ?_ | refine blk_alloc ?_ _)); exact F2_.out) hb; have b6_ := blk_below (g := w.heap.size + 1 + 1) (o := .cells #[.int .i64 r0, .int .i64 r1] 23 (0, 0)) (by (with_reducible repeat (first | refine blk_drewN ?_ _ | refine blk_drew ?_ | refine blk_alloc ?_ _)); exact F3_.out) hb; have HB_w1 := Aside0.mk hb; have F4_ := Aside0.mk b4_; have cb4_0 := (blk_cell b4_ 0).trans rfl; have zb4_0 := blk_frozen b4_ 0; have cb4_1 := (blk_cell b4_ 1).trans rfl; have zb4_1 := blk_frozen b4_ 1; have lb4_ := blk_lt b4_; clear b4_; have F5_ := Aside0.mk b5_; have cb5_0 := (blk_cell b5_ 0).trans rfl; have zb5_0 := blk_frozen b5_ 0; have cb5_1 := (blk_cell b5_ 1).trans rfl; have zb5_1 := blk_frozen b5_ 1; have lb5_ := blk_lt b5_; clear b5_; have F6_ := Aside0.mk b6_; have cb6_0 := (blk_cell b6_ 0).trans rfl; have zb6_0 := blk_frozen b6_ 0; have cb6_1 := (blk_cell b6_ 1).trans rfl; have zb6_1 := blk_frozen b6_ 1; have lb6_ := blk_lt b6_; clear b6_; clear hb) | (go_at_call 9; (with_reducible refine (load_Add.calls 5 b0 b1 a0 a1 x0 x1 true _ HB.out).mono ?_); rintro e w2 ⟨rfl, hb⟩; clear cb4_0 zb4_0 cb4_1 zb4_1 lb4_ cb5_0 zb5_0 cb5_1 zb5_1 lb5_ cb6_0 zb6_0 cb6_1 zb6_1 lb6_; have b7_ := blk_below (g := w.heap.size) (o := .cells #[.int .i64 a0, .int .i64 a1] 23 (0, 0)) (by (with_reducible repeat (first | refine blk_drewN ?_ _ | refine blk_drew ?_ | refine blk_alloc ?_ _)); exact F4_.out) hb; have b8_ := blk_below (g := w.heap.size + 1) (o := .cells #[.int .i64 b0, .int .i64 b1] 23 (0, 0)) (by (with_reducible repeat (first | refine blk_drewN ?_ _ | refine blk_drew ?_ | refine blk_alloc ?_ _)); exact F5_.out) hb; have b9_ := blk_below (g := w.heap.size + 1 + 1) (o := .cells #[.int .i64 r0, .int .i64 r1] 23 (0, 0)) (by (with_reducible repeat (first | refine blk_drewN ?_ _ | refine blk_drew ?_ | refine blk_alloc ?_ _)); exact F6_.out) hb; have b10_ := blk_below (g := w1.heap.size) (o := .cells #[.int .i64 x0, .int .i64 x1] 23 (0, 0)) (blk_new w1 _) hb; have HB_w2 := Aside0.mk hb; have F7_ := Aside0.mk b7_; have cb7_0 := (blk_cell b7_ 0).trans rfl; have zb7_0 := blk_frozen b7_ 0; have cb7_1 := (blk_cell b7_ 1).trans rfl; have zb7_1 := blk_frozen b7_ 1; have lb7_ := blk_lt b7_; clear b7_; have F8_ := Aside0.mk b8_; have cb8_0 := (blk_cell b8_ 0).trans rfl; have zb8_0 := blk_frozen b8_ 0; have cb8_1 := (blk_cell b8_ 1).trans rfl; have zb8_1 := blk_frozen b8_ 1; have lb8_ := blk_lt b8_; clear b8_; have F9_ := Aside0.mk b9_; have cb9_0 := (blk_cell b9_ 0).trans rfl; have zb9_0 := blk_frozen b9_ 0; have cb9_1 := (blk_cell b9_ 1).trans rfl; have zb9_1 := blk_frozen b9_ 1; have lb9_ := blk_lt b9_; clear b9_; have F10_ := Aside0.mk b10_; have cb10_0 := (blk_cell b10_ 0).trans rfl; have zb10_0 := blk_frozen b10_ 0; have cb10_1 := (blk_cell b10_ 1).trans rfl; have zb10_1 := blk_frozen b10_ 1; have lb10_ := blk_lt b10_; clear b10_; clear hb))
  obtain ⟨w3, hw3⟩ : ∃ w3, w3 = w2.alloc (.cells #[.int .i64 x0, .int .i64 x1] 23 (0, 0)) := ⟨_, rfl⟩
  rw [← hw3]
  have hb : Below w2.heap.size w2 w3 := by rw [hw3]; exact below_alloc (Below.refl _ _) _
  clear cb7_0 zb7_0 cb7_1 zb7_1 lb7_ cb8_0 zb8_0 cb8_1 zb8_1 lb8_ cb9_0 zb9_0 cb9_1 zb9_1 lb9_ cb10_0 zb10_0 cb10_1 zb10_1 lb10_
  have b11_ := blk_below (g := w.heap.size) (o := .cells #[.int .i64 a0, .int .i64 a1] 23 (0, 0)) (by (with_reducible repeat (first | refine blk_drewN ?_ _ | refine blk_drew ?_ | refine blk_alloc ?_ _)); exact F7_.out) hb
  have b12_ := blk_below (g := w.heap.size + 1) (o := .cells #[.int .i64 b0, .int .i64 b1] 23 (0, 0)) (by (with_reducible repeat (first | refine blk_drewN ?_ _ | refine blk_drew ?_ | refine blk_alloc ?_ _)); exact F8_.out) hb
  have b13_ := blk_below (g := w.heap.size + 1 + 1) (o := .cells #[.int .i64 r0, .int .i64 r1] 23 (0, 0)) (by (with_reducible repeat (first | refine blk_drewN ?_ _ | refine blk_drew ?_ | refine blk_alloc ?_ _)); exact F9_.out) hb
  have b14_ := blk_below (g := w1.heap.size) (o := .cells #[.int .i64 x0, .int .i64 x1] 23 (0, 0)) (by (with_reducible repeat (first | refine blk_drewN ?_ _ | refine blk_drew ?_ | refine blk_alloc ?_ _)); exact F10_.out) hb
  have b15_ : w3.heap[w2.heap.size]? = some (.cells #[.int .i64 x0, .int .i64 x1] 23 (0, 0)) := by rw [hw3]; exact blk_new _ _
  have F11_ := Aside0.mk b11_
  clear b11_
  have F12_ := Aside0.mk b12_
  clear b12_
  have F13_ := Aside0.mk b13_
  clear b13_
  have F14_ := Aside0.mk b14_
  clear b14_
  have F15_ := Aside0.mk b15_
  clear b15_
  have HB_w3 := Aside0.mk hb
  clear hb hw3
  refine wp_region_told (phiO [some (.agg #[.int .i64 x0, .int .i64 x1]), some (.agg #[.int .i64 b0, .int .i64 b1]), some (.agg #[.int .i64 n0, .int .i64 n1]), some (.tuple #[.agg #[.int .i64 a0, .int .i64 a1], .bool true]), some (.tuple #[.agg #[.int .i64 a0, .int .i64 a1], .bool true]), some (.agg #[.int .i64 a0, .int .i64 a1]), some (.bool true), none, some (undef), some (.bool true)]) (fun E vs W_ => Below w3.heap.size w3 W_ ∧ BoxIn w3 7 8 #[.int .i64 0, .int .i64 0] #[.int .i64 a0, .int .i64 a1] 23 E vs W_) rfl (by kernel_rfl) ⟨⟨rfl, rfl, rfl, Nat.le_refl _, fun _ _ => rfl⟩, fun h => absurd h (by simp)⟩ ?howes ?hend
  case howes =>
    refine ⟨?_, ?_, ?_, ?_, ?_, ?_, ?_, ?_, ?_, ?_, trivial⟩
    · refine owes_val rfl (fun E vs v W_ hE hW => ⟨hW.1, hW.2.other (Below.refl _ _) (by decide) (by decide) v⟩) (fun E vs a W_ hI hE hp => ?_)
      have e0 : a.eval (.tmp 9) = .pointer (some ⟨w1.heap.size, 0, none⟩) := hI.outer (d := 9) (by rfl) rfl
      have hb := blk_below F14_.out hI.world.2.1
      have q0 := (blk_cell hb 0).trans rfl
      have q1 := (blk_cell hb 1).trans rfl
      clear hb
      refine ⟨_, ?_, rfl⟩
      simp only [execOp, e0]
      go_simp
    · refine owes_val rfl (fun E vs v W_ hE hW => ⟨hW.1, hW.2.other (Below.refl _ _) (by decide) (by decide) v⟩) (fun E vs a W_ hI hE hp => ?_)
      have e0 : a.eval (.tmp 5) = .pointer (some ⟨(w.heap.size + 1), 0, none⟩) := hI.outer (d := 5) (by rfl) rfl
      have hb := blk_below F12_.out hI.world.2.1
      have q0 := (blk_cell hb 0).trans rfl
      have q1 := (blk_cell hb 1).trans rfl
      clear hb
      refine ⟨_, ?_, rfl⟩
      simp only [execOp, e0]
      go_simp
    · refine owes_callS (fun E vs a W_ hI hE hp => ?_)
      have e0 : a.eval (.tmp 41) = .agg #[.int .i64 b0, .int .i64 b1] := hI.phi 1 rfl rfl (pred_of hp 1 rfl) rfl
      refine ⟨rfl, 11, #[.agg #[.int .i64 b0, .int .i64 b1]], ?_, ?_⟩
      · simp only [execOp, resolve, List.map_toArray, List.map_cons, List.map_nil, e0]
        rfl
      · refine (load_Neg.calls b0 b1 n0 n1 _ HN.out).mono ?_
        rintro e W1_ ⟨rfl, hb⟩
        exact ⟨_, rfl, rfl, fun j v' _ hj => phiO_stable _ j v' _ hj, below_step hI.world.2.1 hb, hI.world.2.2.other hb (by decide) (by decide) _⟩
    · refine owes_callS (fun E vs a W_ hI hE hp => ?_)
      have e0 : a.eval (.tmp 40) = .agg #[.int .i64 x0, .int .i64 x1] := hI.phi 0 rfl rfl (pred_of hp 0 rfl) rfl
      have e1 : a.eval (.tmp 42) = .agg #[.int .i64 n0, .int .i64 n1] := hI.phi 2 rfl rfl (pred_of hp 2 rfl) rfl
      refine ⟨rfl, 9, #[.agg #[.int .i64 x0, .int .i64 x1], .agg #[.int .i64 n0, .int .i64 n1]], ?_, ?_⟩
      · simp only [execOp, resolve, List.map_toArray, List.map_cons, List.map_nil, e0, e1]
        rfl
      · refine (load_Add.calls 5 x0 x1 n0 n1 a0 a1 true _ HC.out).mono ?_
        rintro e W1_ ⟨rfl, hb⟩
        exact ⟨_, rfl, rfl, fun j v' _ hj => phiO_stable _ j v' _ hj, below_step hI.world.2.1 hb, hI.world.2.2.other hb (by decide) (by decide) _⟩
    · refine owes_val rfl (fun E vs v W_ hE hW => ⟨hW.1, hW.2.other (Below.refl _ _) (by decide) (by decide) v⟩) (fun E vs a W_ hI hE hp => ?_)
      have e0 : a.eval (.tmp 43) = .tuple #[.agg #[.int .i64 a0, .int .i64 a1], .bool true] := hI.phi 3 rfl rfl (pred_of hp 3 rfl) rfl
      refine ⟨_, ?_, rfl⟩
      simp only [execOp, e0]
      first
      | rfl
      | (go_simp; done)
      | (go_simp; simp; done)
    · refine owes_val rfl (fun E vs v W_ hE hW => ⟨hW.1, hW.2.other (Below.refl _ _) (by decide) (by decide) v⟩) (fun E vs a W_ hI hE hp => ?_)
      have e0 : a.eval (.tmp 39) = .tuple #[.agg #[.int .i64 a0, .int .i64 a1], .bool true] := hI.phi 4 rfl rfl (pred_of hp 4 rfl) rfl
      refine ⟨_, ?_, rfl⟩
      simp only [execOp, e0]
      first
      | rfl
      | (go_simp; done)
      | (go_simp; simp; done)
    · refine owes_val rfl (fun E vs v W_ hE hW => ⟨hW.1, hW.2.other (Below.refl _ _) (by decide) (by decide) v⟩) (fun E vs a W_ hI hE hp => ?_)
      have e0 : a.eval (.tmp 39) = .tuple #[.agg #[.int .i64 a0, .int .i64 a1], .bool true] := hI.phi 4 rfl rfl (pred_of hp 4 rfl) rfl
      refine ⟨_, ?_, rfl⟩
      simp only [execOp, e0]
      first
      | rfl
      | (go_simp; done)
      | (go_simp; simp; done)
    · refine owes_world rfl (fun E vs a W_ hI hE hp => ?_)
      have hs := hI.notYet hE 8 rfl rfl
      refine ⟨.pointer (some ⟨W_.heap.size, 0, none⟩), W_.alloc (.cells #[.int .i64 0, .int .i64 0] 23 (0, 0)), .inl ?_, trivial, fun j v' _ hj => phiO_stable _ j v' _ hj, below_step hI.world.2.1 (below_alloc (Below.refl _ _) _), BoxIn.made hI.world.2.1.size hs (by decide)⟩
      simp only [execOp]
      go_simp
    · refine owes_world rfl (fun E vs a W_ hI hE hp => ?_)
      have e1 : a.eval (.tmp 44) = .agg #[.int .i64 a0, .int .i64 a1] := hI.phi 5 rfl rfl (pred_of hp 5 rfl) rfl
      have ya : E 7 = true := pred_of hp 7 rfl
      obtain ⟨g, hv, hg, hh⟩ := hI.world.2.2 ya
      rw [hE, if_neg (by decide)] at hh
      have e0 : a.eval (.tmp 13) = .pointer (some ⟨g, 0, none⟩) := (hI.tmp (i := 7) rfl rfl ya (by simp)).trans hv
      have q0 := (blk_cell hh 0).trans rfl
      have f0 := blk_frozen hh 0
      have q1 := (blk_cell hh 1).trans rfl
      have f1 := blk_frozen hh 1
      have hh2 : ((W_.setCell ⟨g, 0, none⟩ (.int .i64 a0)).setCell ⟨g, 1, none⟩ (.int .i64 a1)).heap[g]? = some (.cells #[.int .i64 a0, .int .i64 a1] 23 (0, 0)) := (blk_put (cs' := #[.int .i64 a0, .int .i64 a1]) (blk_put (cs' := #[.int .i64 a0, .int .i64 0]) hh 0 _ rfl) 1 _ rfl)
      refine ⟨undef, ((W_.setCell ⟨g, 0, none⟩ (.int .i64 a0)).setCell ⟨g, 1, none⟩ (.int .i64 a1)), .inr ⟨rfl, ?_⟩, rfl, fun j v' _ hj => phiO_stable _ j v' _ hj, (below_set (below_set hI.world.2.1 hg) hg), BoxIn.put1 hv hg (by decide) hh2 _⟩
      simp only [execOp, e0, e1]
      go_simp
    · refine owes_val rfl (fun E vs v W_ hE hW => ⟨hW.1, hW.2.other (Below.refl _ _) (by decide) (by decide) v⟩) (fun E vs a W_ hI hE hp => ?_)
      have e0 : a.eval (.tmp 45) = .bool true := hI.phi 6 rfl rfl (pred_of hp 6 rfl) rfl
      refine ⟨_, ?_, rfl⟩
      simp only [execOp, e0]
      first
      | rfl
      | (go_simp; done)
      | (go_simp; simp; done)
  case hend =>
  intro E vs a w5 hI hall
  obtain rfl := hI.frame (by kernel_rfl) hall
  obtain ⟨gz, v7, hgz, hz⟩ := hI.world.2.2 (hall 7 (by decide))
  rw [hall 8 (by decide), if_pos rfl] at hz
  have v9 : vs 9 = .bool true := hI.world.1 9 (hall 9 (by decide))
  have hb := hI.world.2.1
  clear hI hall
  simp only [putsFrom, List.setIfInBounds_toArray, List.set_cons_zero, List.set_cons_succ]
  rw [v7, v9]
  clear v7 v9
  have b16_ := blk_below (g := w.heap.size) (o := .cells #[.int .i64 a0, .int .i64 a1] 23 (0, 0)) (by (with_reducible repeat (first | refine blk_drewN ?_ _ | refine blk_drew ?_ | refine blk_alloc ?_ _)); exact F11_.out) hb
  have b17_ := blk_below (g := w.heap.size + 1) (o := .cells #[.int .i64 b0, .int .i64 b1] 23 (0, 0)) (by (with_reducible repeat (first | refine blk_drewN ?_ _ | refine blk_drew ?_ | refine blk_alloc ?_ _)); exact F12_.out) hb
  have b18_ := blk_below (g := w.heap.size + 1 + 1) (o := .cells #[.int .i64 r0, .int .i64 r1] 23 (0, 0)) (by (with_reducible repeat (first | refine blk_drewN ?_ _ | refine blk_drew ?_ | refine blk_alloc ?_ _)); exact F13_.out) hb
  have b19_ := blk_below (g := w1.heap.size) (o := .cells #[.int .i64 x0, .int .i64 x1] 23 (0, 0)) (by (with_reducible repeat (first | refine blk_drewN ?_ _ | refine blk_drew ?_ | refine blk_alloc ?_ _)); exact F14_.out) hb
  have b20_ := blk_below (g := w2.heap.size) (o := .cells #[.int .i64 x0, .int .i64 x1] 23 (0, 0)) (by (with_reducible repeat (first | refine blk_drewN ?_ _ | refine blk_drew ?_ | refine blk_alloc ?_ _)); exact F15_.out) hb
  have b21_ := hz
  have HB_w5 := Aside0.mk hb
  clear hb hz
  have F16_ := Aside0.mk b16_
  have cb16_0 := (blk_cell b16_ 0).trans rfl; have zb16_0 := blk_frozen b16_ 0
  have cb16_1 := (blk_cell b16_ 1).trans rfl; have zb16_1 := blk_frozen b16_ 1
  have lb16_ := blk_lt b16_
  clear b16_
  have F17_ := Aside0.mk b17_
  have cb17_0 := (blk_cell b17_ 0).trans rfl; have zb17_0 := blk_frozen b17_ 0
  have cb17_1 := (blk_cell b17_ 1).trans rfl; have zb17_1 := blk_frozen b17_ 1
  have lb17_ := blk_lt b17_
  clear b17_
  have F18_ := Aside0.mk b18_
  have cb18_0 := (blk_cell b18_ 0).trans rfl; have zb18_0 := blk_frozen b18_ 0
  have cb18_1 := (blk_cell b18_ 1).trans rfl; have zb18_1 := blk_frozen b18_ 1
  have lb18_ := blk_lt b18_
  clear b18_
  have F19_ := Aside0.mk b19_
  have cb19_0 := (blk_cell b19_ 0).trans rfl; have zb19_0 := blk_frozen b19_ 0
  have cb19_1 := (blk_cell b19_ 1).trans rfl; have zb19_1 := blk_frozen b19_ 1
  have lb19_ := blk_lt b19_
  clear b19_
  have F20_ := Aside0.mk b20_
  have cb20_0 := (blk_cell b20_ 0).trans rfl; have zb20_0 := blk_frozen b20_ 0
  have cb20_1 := (blk_cell b20_ 1).trans rfl; have zb20_1 := blk_frozen b20_ 1
  have lb20_ := blk_lt b20_
  clear b20_
  have F21_ := Aside0.mk b21_
  have cb21_0 := (blk_cell b21_ 0).trans rfl; have zb21_0 := blk_frozen b21_ 0
  have cb21_1 := (blk_cell b21_ 1).trans rfl; have zb21_1 := blk_frozen b21_ 1
  have lb21_ := blk_lt b21_
  clear b21_
  go_wp2_with (first | (go_at_call 13; (with_reducible refine (load_Right.calls r0 r1 true _ HR.out).mono ?_); rintro e w4 ⟨rfl, hb⟩; clear cb16_0 zb16_0 cb16_1 zb16_1 lb16_ cb17_0 zb17_0 cb17_1 zb17_1 lb17_ cb18_0 zb18_0 cb18_1 zb18_1 lb18_ cb19_0 zb19_0 cb19_1 zb19_1 lb19_ cb20_0 zb20_0 cb20_1 zb20_1 lb20_ cb21_0 zb21_0 cb21_1 zb21_1 lb21_; have b22_ := blk_below (g := w.heap.size) (o := .cells #[.int .i64 a0, .int .i64 a1] 23 (0, 0)) (by (with_reducible repeat (first | refine blk_drewN ?_ _ | refine blk_drew ?_ | refine blk_alloc ?_ _)); exact F16_.out) hb; have b23_ := blk_below (g := w.heap.size + 1) (o := .cells #[.int .i64 b0, .int .i64 b1] 23 (0, 0)) (by (with_reducible repeat (first | refine blk_drewN ?_ _ | refine blk_drew ?_ | refine blk_alloc ?_ _)); exact F17_.out) hb; have b24_ := blk_below (g := w.heap.size + 1 + 1) (o := .cells #[.int .i64 r0, .int .i64 r1] 23 (0, 0)) (by (with_reducible repeat (first | refine blk_drewN ?_ _ | refine blk_drew ?_ | refine blk_alloc ?_ _)); exact F18_.out) hb; have b25_ := blk_below (g := w1.heap.size) (o := .cells #[.int .i64 x0, .int .i64 x1] 23 (0, 0)) (by (with_reducible repeat (first | refine blk_drewN ?_ _ | refine blk_drew ?_ | refine blk_alloc ?_ _)); exact F19_.out) hb; have b26_ := blk_below (g := w2.heap.size) (o := .cells #[.int .i64 x0, .int .i64 x1] 23 (0, 0)) (by (with_reducible repeat (first | refine blk_drewN ?_ _ | refine blk_drew ?_ | refine blk_alloc ?_ _)); exact F20_.out) hb; have b27_ := blk_below (g := gz) (o := .cells #[.int .i64 a0, .int .i64 a1] 23 (0, 0)) (by (with_reducible repeat (first | refine blk_drewN ?_ _ | refine blk_drew ?_ | refine blk_alloc ?_ _)); exact F21_.out) hb; have b28_ := blk_below (g := w5.heap.size) (o := .cells #[.int .i64 r0, .int .i64 r1] 23 (0, 0)) (blk_new w5 _) hb; have HB_w4 := Aside0.mk hb; have F22_ := Aside0.mk b22_; have cb22_0 := (blk_cell b22_ 0).trans rfl; have zb22_0 := blk_frozen b22_ 0; have cb22_1 := (blk_cell b22_ 1).trans rfl; have zb22_1 := blk_frozen b22_ 1; have lb22_ := blk_lt b22_; clear b22_; have F23_ := Aside0.mk b23_; have cb23_0 := (blk_cell b23_ 0).trans rfl; have zb23_0 := blk_frozen b23_ 0; have cb23_1 := (blk_cell b23_ 1).trans rfl; have zb23_1 := blk_frozen b23_ 1; have lb23_ := blk_lt b23_; clear b23_; have F24_ := Aside0.mk b24_; have cb24_0 := (blk_cell b24_ 0).trans rfl; have zb24_0 := blk_frozen b24_ 0; have cb24_1 := (blk_cell b24_ 1).trans rfl; have zb24_1 := blk_frozen b24_ 1; have lb24_ := blk_lt b24_; clear b24_; have F25_ := Aside0.mk b25_; have cb25_0 := (blk_cell b25_ 0).trans rfl; have zb25_0 := blk_frozen b25_ 0; have cb25_1 := (blk_cell b25_ 1).trans rfl; have zb25_1 := blk_frozen b25_ 1; have lb25_ := blk_lt b25_; clear b25_; have F26_ := Aside0.mk b26_; have cb26_0 := (blk_cell b26_ 0).trans rfl; have zb26_0 := blk_frozen b26_ 0; have cb26_1 := (blk_cell b26_ 1).trans rfl; have zb26_1 := blk_frozen b26_ 1; have lb26_ := blk_lt b26_; clear b26_; have F27_ := Aside0.mk b27_; have cb27_0 := (blk_cell b27_ 0).trans rfl; have zb27_0 := blk_frozen b27_ 0; have cb27_1 := (blk_cell b27_ 1).trans rfl; have zb27_1 := blk_frozen b27_ 1; have lb27_ := blk_lt b27_; clear b27_; have F28_ := Aside0.mk b28_; have cb28_0 := (blk_cell b28_ 0).trans rfl; have zb28_0 := blk_frozen b28_ 0; have cb28_1 := (blk_cell b28_ 1).trans rfl; have zb28_1 := blk_frozen b28_ 1; have lb28_ := blk_lt b28_; clear b28_; clear hb))
  have BW := Aside0.mk (below_step (below_alloc (below_step (below_step (below_step (below_alloc (below_step (below_step (below_alloc (below_alloc (below_alloc (Below.refl _ _) _) _) _) HB_w0.out) HB_w1.out) _) HB_w2.out) HB_w3.out) HB_w5.out) _) HB_w4.out)
  have GE15 := Aside0.mk (show w.heap.size ≤ w5.heap.size from below_size (below_step (below_step (below_step (below_alloc (below_step (below_step (below_alloc (below_alloc (below_alloc (Below.refl _ _) _) _) _) HB_w0.out) HB_w1.out) _) HB_w2.out) HB_w3.out) HB_w5.out))
  have NE4 := Aside0.mk (show w.heap.size ≠ w5.heap.size by have s_HB_w0 := HB_w0.out.size; (try simp at s_HB_w0); have s_HB_w1 := HB_w1.out.size; (try simp at s_HB_w1); have s_HB_w2 := HB_w2.out.size; (try simp at s_HB_w2); have s_HB_w3 := HB_w3.out.size; (try simp at s_HB_w3); have s_HB_w5 := HB_w5.out.size; (try simp at s_HB_w5); omega)
  have NE6 := Aside0.mk (show w.heap.size + 1 + 1 ≠ w5.heap.size by have s_HB_w0 := HB_w0.out.size; (try simp at s_HB_w0); have s_HB_w1 := HB_w1.out.size; (try simp at s_HB_w1); have s_HB_w2 := HB_w2.out.size; (try simp at s_HB_w2); have s_HB_w3 := HB_w3.out.size; (try simp at s_HB_w3); have s_HB_w5 := HB_w5.out.size; (try simp at s_HB_w5); omega)
  clear cb22_0 zb22_0 cb22_1 zb22_1 lb22_ cb23_0 zb23_0 cb23_1 zb23_1 lb23_ cb24_0 zb24_0 cb24_1 zb24_1 lb24_ cb25_0 zb25_0 cb25_1 zb25_1 lb25_ cb26_0 zb26_0 cb26_1 zb26_1 lb26_ cb27_0 zb27_0 cb27_1 zb27_1 lb27_ cb28_0 zb28_0 cb28_1 zb28_1 lb28_
  obtain ⟨w6, hw6⟩ : ∃ w6, w6 = (w4.setCell ⟨w5.heap.size, 0, none⟩ (.int .i64 (wrap64 (r0 + Go.bits .and .i64 more 1023)))).setCell ⟨w5.heap.size, 1, none⟩ (.int .i64 (wrap64 (r1 + Go.bits .and .i64 more 255))) := ⟨_, rfl⟩
  rw [← hw6]
  have b4x : w6.heap[w.heap.size]? = some (.cells #[.int .i64 a0, .int .i64 a1] 23 (0, 0)) := by rw [hw6]; exact blk_far (blk_far F22_.out NE4.out _) NE4.out _
  have b6x : w6.heap[(w.heap.size + 1 + 1)]? = some (.cells #[.int .i64 r0, .int .i64 r1] 23 (0, 0)) := by rw [hw6]; exact blk_far (blk_far F24_.out NE6.out _) NE6.out _
  have b15x : w6.heap[w5.heap.size]? = some (.cells #[.int .i64 (wrap64 (r0 + Go.bits .and .i64 more 1023)), .int .i64 (wrap64 (r1 + Go.bits .and .i64 more 255))] 23 (0, 0)) := by rw [hw6]; exact blk_put (blk_put (cs' := #[.int .i64 (wrap64 (r0 + Go.bits .and .i64 more 1023)), .int .i64 r1]) F28_.out 0 _ rfl) 1 _ rfl
  have BW6 := Aside0.mk (show Below w.heap.size w w6 by rw [hw6]; exact below_set (below_set BW.out GE15.out) GE15.out)
  clear BW hw6
  have BW := BW6
  have C4 := Aside0.mk b4x
  have C6 := Aside0.mk b6x
  have C15 := Aside0.mk b15x
  clear b4x b6x b15x
  refine wp_region_pv [.val (.agg #[.int .i64 r0, .int .i64 r1]), .val (.bool true), .val (.bool false), .val (.bool false), .val (.agg #[.int .i64 r0, .int .i64 r1]), .val (.agg #[.int .i64 a0, .int .i64 a1]), .val (.bool false), .val (.bool true), .val (.bool true), .val (.bool true), .val (undef), .val (undef), .val (undef), .val (undef), .val (undef), .val (undef), .val (undef), .val (undef), .val (undef), .val (undef), .val (.bool true), .val (.bool true)] rfl (by kernel_rfl) ?howes ?hend
  case howes =>
    refine ⟨?_, ?_, ?_, ?_, ?_, ?_, ?_, ?_, ?_, ?_, ?_, ?_, ?_, ?_, ?_, ?_, ?_, ?_, ?_, ?_, ?_, ?_, trivial⟩
    · refine owes_pv0 (fun E vs a W_ hI hE hp => ?_)
      have e0 : a.eval (.tmp 6) = .pointer (some ⟨(w.heap.size + 1 + 1), 0, none⟩) := hI.outer (d := 6) (by rfl) rfl
      have hb := blk_below C6.out hI.world.2
      have q0 := (blk_cell hb 0).trans rfl
      have q1 := (blk_cell hb 1).trans rfl
      clear hb
      refine ⟨rfl, _, ?_, rfl⟩
      simp only [execOp, e0]
      go_simp
    · refine owes_pvc (fun E vs a W_ hI hE hp => ?_)
      have e0 : a.eval (.tmp 68) = .agg #[.int .i64 r0, .int .i64 r1] := hI.pv 0 rfl rfl (pred_of hp 0 rfl) rfl
      refine ⟨rfl, 13, #[.agg #[.int .i64 r0, .int .i64 r1]], ?_, ?_⟩
      · simp only [execOp, resolve, List.map_toArray, List.map_cons, List.map_nil, e0]
        rfl
      · refine (load_Right.calls r0 r1 true _ HR.out).mono ?_
        rintro e W1_ ⟨rfl, hb⟩
        exact ⟨_, rfl, hb, rfl⟩
    · refine owes_pv0 (fun E vs a W_ hI hE hp => ?_)
      have e0 : a.eval (.tmp 69) = .bool true := hI.pv 1 rfl rfl (pred_of hp 1 rfl) rfl
      refine ⟨rfl, _, ?_, rfl⟩
      simp only [execOp, e0]
      first
      | rfl
      | (go_simp; done)
      | (go_simp; simp; done)
    · refine owes_pv0 (fun E vs a W_ hI hE hp => ?_)
      have e0 : a.eval (.tmp 70) = .bool false := hI.pv 2 rfl rfl (pred_of hp 2 rfl) rfl
      refine ⟨rfl, _, ?_, rfl⟩
      simp only [execOp, e0]
      first
      | rfl
      | (go_simp; done)
      | (go_simp; simp; done)
    · refine owes_pv0 (fun E vs a W_ hI hE hp => ?_)
      have e0 : a.eval (.tmp 6) = .pointer (some ⟨(w.heap.size + 1 + 1), 0, none⟩) := hI.outer (d := 6) (by rfl) rfl
      have hb := blk_below C6.out hI.world.2
      have q0 := (blk_cell hb 0).trans rfl
      have q1 := (blk_cell hb 1).trans rfl
      clear hb
      refine ⟨wanted_of hI 3 rfl rfl rfl rfl (show a.eval (.tmp 71) = .bool false from hI.pv 3 rfl rfl (pred_of hp 3 rfl) rfl), _, ?_, rfl⟩
      simp only [execOp, e0]
      go_simp
    · refine owes_pv0 (fun E vs a W_ hI hE hp => ?_)
      have e0 : a.eval (.tmp 4) = .pointer (some ⟨w.heap.size, 0, none⟩) := hI.outer (d := 4) (by rfl) rfl
      have hb := blk_below C4.out hI.world.2
      have q0 := (blk_cell hb 0).trans rfl
      have q1 := (blk_cell hb 1).trans rfl
      clear hb
      refine ⟨wanted_of hI 3 rfl rfl rfl rfl (show a.eval (.tmp 71) = .bool false from hI.pv 3 rfl rfl (pred_of hp 3 rfl) rfl), _, ?_, rfl⟩
      simp only [execOp, e0]
      go_simp
    · refine owes_pvc (fun E vs a W_ hI hE hp => ?_)
      have e0 : a.eval (.tmp 72) = .agg #[.int .i64 r0, .int .i64 r1] := hI.pv 4 rfl rfl (pred_of hp 4 rfl) rfl
      have e1 : a.eval (.tmp 73) = .agg #[.int .i64 a0, .int .i64 a1] := hI.pv 5 rfl rfl (pred_of hp 5 rfl) rfl
      refine ⟨wanted_of hI 3 rfl rfl rfl rfl (show a.eval (.tmp 71) = .bool false from hI.pv 3 rfl rfl (pred_of hp 3 rfl) rfl), 15, #[.agg #[.int .i64 r0, .int .i64 r1], .agg #[.int .i64 a0, .int .i64 a1]], ?_, ?_⟩
      · simp only [execOp, resolve, List.map_toArray, List.map_cons, List.map_nil, e0, e1]
        rfl
      · refine (load_Fits.calls r0 r1 a0 a1 false _ HF.out).mono ?_
        rintro e W1_ ⟨rfl, hb⟩
        exact ⟨_, rfl, hb, rfl⟩
    · refine owes_pv0 (fun E vs a W_ hI hE hp => ?_)
      have e0 : a.eval (.tmp 74) = .bool false := hI.pv 6 rfl rfl (pred_of hp 6 rfl) rfl
      refine ⟨wanted_of hI 3 rfl rfl rfl rfl (show a.eval (.tmp 71) = .bool false from hI.pv 3 rfl rfl (pred_of hp 3 rfl) rfl), _, ?_, rfl⟩
      simp only [execOp, e0]
      first
      | rfl
      | (go_simp; done)
      | (go_simp; simp; done)
    · refine owes_pv0 (fun E vs a W_ hI hE hp => ?_)
      have e0 : a.eval (.tmp 71) = .bool false := hI.pv 3 rfl rfl (pred_of hp 3 rfl) rfl
      have e1 : a.eval (.tmp 75) = .bool true := hI.pv 7 rfl rfl (pred_of hp 7 rfl) rfl
      refine ⟨rfl, _, ?_, rfl⟩
      simp only [execOp, e0, e1]
      first
      | rfl
      | (go_simp; done)
      | (go_simp; simp; done)
    · refine owes_pv0 (fun E vs a W_ hI hE hp => ?_)
      have e0 : a.eval (.tmp 76) = .bool true := hI.pv 8 rfl rfl (pred_of hp 8 rfl) rfl
      refine ⟨rfl, _, ?_, rfl⟩
      simp only [execOp, e0]
      first
      | rfl
      | (go_simp; done)
      | (go_simp; simp; done)
    · exact owes_pvs (fun E vs a W_ hI hE hp => ⟨unwanted_of hI 9 rfl rfl rfl rfl (show a.eval (.tmp 77) = .bool true from hI.pv 9 rfl rfl (pred_of hp 9 rfl) rfl) (fun c hc => by first | (cases hc; decide) | cases hc), rfl⟩)
    · exact owes_pvs (fun E vs a W_ hI hE hp => ⟨unwanted_of hI 9 rfl rfl rfl rfl (show a.eval (.tmp 77) = .bool true from hI.pv 9 rfl rfl (pred_of hp 9 rfl) rfl) (fun c hc => by first | (cases hc; decide) | cases hc), rfl⟩)
    · exact owes_pvs (fun E vs a W_ hI hE hp => ⟨unwanted_of hI 9 rfl rfl rfl rfl (show a.eval (.tmp 77) = .bool true from hI.pv 9 rfl rfl (pred_of hp 9 rfl) rfl) (fun c hc => by first | (cases hc; decide) | cases hc), rfl⟩)
    · exact owes_pvs (fun E vs a W_ hI hE hp => ⟨unwanted_of hI 9 rfl rfl rfl rfl (show a.eval (.tmp 77) = .bool true from hI.pv 9 rfl rfl (pred_of hp 9 rfl) rfl) (fun c hc => by first | (cases hc; decide) | cases hc), rfl⟩)
    · exact owes_pvs (fun E vs a W_ hI hE hp => ⟨unwanted_of hI 13 rfl rfl rfl rfl (show a.eval (.tmp 81) = undef from hI.pv 13 rfl rfl (pred_of hp 13 rfl) rfl) (fun c hc => by first | (cases hc; decide) | cases hc), rfl⟩)
    · exact owes_pvs (fun E vs a W_ hI hE hp => ⟨unwanted_of hI 13 rfl rfl rfl rfl (show a.eval (.tmp 81) = undef from hI.pv 13 rfl rfl (pred_of hp 13 rfl) rfl) (fun c hc => by first | (cases hc; decide) | cases hc), rfl⟩)
    · exact owes_pvs (fun E vs a W_ hI hE hp => ⟨unwanted_of hI 13 rfl rfl rfl rfl (show a.eval (.tmp 81) = undef from hI.pv 13 rfl rfl (pred_of hp 13 rfl) rfl) (fun c hc => by first | (cases hc; decide) | cases hc), rfl⟩)
    · exact owes_pvs (fun E vs a W_ hI hE hp => ⟨unwanted_of hI 13 rfl rfl rfl rfl (show a.eval (.tmp 81) = undef from hI.pv 13 rfl rfl (pred_of hp 13 rfl) rfl) (fun c hc => by first | (cases hc; decide) | cases hc), rfl⟩)
    · exact owes_pvs (fun E vs a W_ hI hE hp => ⟨unwanted_of hI 13 rfl rfl rfl rfl (show a.eval (.tmp 81) = undef from hI.pv 13 rfl rfl (pred_of hp 13 rfl) rfl) (fun c hc => by first | (cases hc; decide) | cases hc), rfl⟩)
    · exact owes_pvs (fun E vs a W_ hI hE hp => ⟨unwanted_of hI 9 rfl rfl rfl rfl (show a.eval (.tmp 77) = .bool true from hI.pv 9 rfl rfl (pred_of hp 9 rfl) rfl) (fun c hc => by first | (cases hc; decide) | cases hc), rfl⟩)
    · refine owes_pv0 (fun E vs a W_ hI hE hp => ?_)
      have e0 : a.eval (.tmp 77) = .bool true := hI.pv 9 rfl rfl (pred_of hp 9 rfl) rfl
      have e1 : a.eval (.tmp 87) = undef := hI.pv 19 rfl rfl (pred_of hp 19 rfl) rfl
      refine ⟨rfl, _, ?_, rfl⟩
      simp only [execOp, e0, e1]
      first
      | rfl
      | (go_simp; done)
      | (go_simp; simp; done)
    · refine owes_pv0 (fun E vs a W_ hI hE hp => ?_)
      have e0 : a.eval (.tmp 88) = .bool true := hI.pv 20 rfl rfl (pred_of hp 20 rfl) rfl
      refine ⟨rfl, _, ?_, rfl⟩
      simp only [execOp, e0]
      first
      | rfl
      | (go_simp; done)
      | (go_simp; simp; done)
  case hend =>
  intro E vs a W hI hall
  have e1 : a.tmps.getD 8 undef = .bool true := hI.pv 21 rfl rfl (hall 21 (by decide)) rfl
  have e2 : a.defers = [] := hI.defers
  have hb := hI.world.2
  clear hI hall
  go_wp2
  refine bodyPost_ret (v := .bool true) ((results_tmp (t := 8) rfl _ _ _).trans (by rw [e1])) e2 ⟨rfl, below_step BW.out hb⟩

set_option maxHeartbeats 8000000 in
set_option maxRecDepth 100000 in
theorem loadAdds_way111 (a0 a1 b0 b1 r0 r1 more x0 x1 n0 n1 m0 m1 : Int) (w : World)
    (hA : load_Add.f 5 a0 a1 b0 b1 = some (x0, x1, true)) (hB : load_Add.f 5 b0 b1 a0 a1 = some (x0, x1, true)) (hN : load_Neg.f b0 b1 = some (n0, n1)) (hC : load_Add.f 5 x0 x1 n0 n1 = some (a0, a1, true))
    (hR : load_Right.f r0 r1 = some true) (hF : load_Fits.f r0 r1 a0 a1 = some true) (hG : load_Fits.f (wrap64 (r0 + Go.bits .and .i64 more 1023)) (wrap64 (r1 + Go.bits .and .i64 more 255)) a0 a1 = some true) (hM : load_Neg.f a0 a1 = some (m0, m1)) (hK : load_Neg.f m0 m1 = some (a0, a1)) :
    Calls Try.prog 6 #[.agg #[.int .i64 a0, .int .i64 a1], .agg #[.int .i64 b0, .int .i64 b1], .agg #[.int .i64 r0, .int .i64 r1], .int .i64 more] w fun e w' => e = .returned (.bool true) ∧ Below w.heap.size w w' := by
  have hu23 := Try.underlying23
  have hu3 := Try.underlying3
  have HA := Aside0.mk hA
  have HB := Aside0.mk hB
  have HN := Aside0.mk hN
  have HC := Aside0.mk hC
  have HR := Aside0.mk hR
  have HF := Aside0.mk hF
  have HG := Aside0.mk hG
  have HM := Aside0.mk hM
  have HK := Aside0.mk hK
  clear hA hB hN hC hR hF hG hM hK
  go_enter Try.func6, Try.ntmps6
  go_wp2_with (first | (go_at_call 8; (with_reducible refine (jitneylaw04_alive.calls true _ rfl).mono ?_); rintro e w0 ⟨rfl, hb⟩; have b1_ := blk_below (g := w.heap.size) (o := .cells #[.int .i64 a0, .int .i64 a1] 23 (0, 0)) (blk_alloc (blk_alloc (blk_new w _) _) _) hb; have b2_ := blk_below (g := w.heap.size + 1) (o := .cells #[.int .i64 b0, .int .i64 b1] 23 (0, 0)) (blk_alloc (heap_alloc2_new w _ _) _) hb; have b3_ := blk_below (g := w.heap.size + 1 + 1) (o := .cells #[.int .i64 r0, .int .i64 r1] 23 (0, 0)) (heap_alloc3_new w _ _ _) hb; have HB_w0 := Aside0.mk hb; have F1_ := Aside0.mk b1_; have cb1_0 := (blk_cell b1_ 0).trans rfl; have zb1_0 := blk_frozen b1_ 0; have cb1_1 := (blk_cell b1_ 1).trans rfl; have zb1_1 := blk_frozen b1_ 1; have lb1_ := blk_lt b1_; clear b1_; have F2_ := Aside0.mk b2_; have cb2_0 := (blk_cell b2_ 0).trans rfl; have zb2_0 := blk_frozen b2_ 0; have cb2_1 := (blk_cell b2_ 1).trans rfl; have zb2_1 := blk_frozen b2_ 1; have lb2_ := blk_lt b2_; clear b2_; have F3_ := Aside0.mk b3_; have cb3_0 := (blk_cell b3_ 0).trans rfl; have zb3_0 := blk_frozen b3_ 0; have cb3_1 := (blk_cell b3_ 1).trans rfl; have zb3_1 := blk_frozen b3_ 1; have lb3_ := blk_lt b3_; clear b3_; clear hb) | (go_at_call 9; (with_reducible refine (load_Add.calls 5 a0 a1 b0 b1 x0 x1 true _ HA.out).mono ?_); rintro e w1 ⟨rfl, hb⟩; clear cb1_0 zb1_0 cb1_1 zb1_1 lb1_ cb2_0 zb2_0 cb2_1 zb2_1 lb2_ cb3_0 zb3_0 cb3_1 zb3_1 lb3_; have b4_ := blk_below (g := w.heap.size) (o := .cells #[.int .i64 a0, .int .i64 a1] 23 (0, 0)) (by (with_reducible repeat (first | refine blk_drewN ?_ _ | refine blk_drew ?_ | refine blk_alloc ?_ _)); exact F1_.out) hb; have b5_ := blk_below (g := w.heap.size + 1) (o := .cells #[.int .i64 b0, .int .i64 b1] 23 (0, 0)) (by (with_reducible repeat (first | refine blk_drewN ?_ _ | refine blk_drew ?_ | refine blk_alloc ?_ _)); exact F2_.out) hb; have b6_ := blk_below (g := w.heap.size + 1 + 1) (o := .cells #[.int .i64 r0, .int .i64 r1] 23 (0, 0)) (by (with_reducible repeat (first | refine blk_drewN ?_ _ | refine blk_drew ?_ | refine blk_alloc ?_ _)); exact F3_.out) hb; have HB_w1 := Aside0.mk hb; have F4_ := Aside0.mk b4_; have cb4_0 := (blk_cell b4_ 0).trans rfl; have zb4_0 := blk_frozen b4_ 0; have cb4_1 := (blk_cell b4_ 1).trans rfl; have zb4_1 := blk_frozen b4_ 1; have lb4_ := blk_lt b4_; clear b4_; have F5_ := Aside0.mk b5_; have cb5_0 := (blk_cell b5_ 0).trans rfl; have zb5_0 := blk_frozen b5_ 0; have cb5_1 := (blk_cell b5_ 1).trans rfl; have zb5_1 := blk_frozen b5_ 1; have lb5_ := blk_lt b5_; clear b5_; have F6_ := Aside0.mk b6_; have cb6_0 := (blk_cell b6_ 0).trans rfl; have zb6_0 := blk_frozen b6_ 0; have cb6_1 := (blk_cell b6_ 1).trans rfl; have zb6_1 := blk_frozen b6_ 1; have lb6_ := blk_lt b6_; clear b6_; clear hb) | (go_at_call 9; (with_reducible refine (load_Add.calls 5 b0 b1 a0 a1 x0 x1 true _ HB.out).mono ?_); rintro e w2 ⟨rfl, hb⟩; clear cb4_0 zb4_0 cb4_1 zb4_1 lb4_ cb5_0 zb5_0 cb5_1 zb5_1 lb5_ cb6_0 zb6_0 cb6_1 zb6_1 lb6_; have b7_ := blk_below (g := w.heap.size) (o := .cells #[.int .i64 a0, .int .i64 a1] 23 (0, 0)) (by (with_reducible repeat (first | refine blk_drewN ?_ _ | refine blk_drew ?_ | refine blk_alloc ?_ _)); exact F4_.out) hb; have b8_ := blk_below (g := w.heap.size + 1) (o := .cells #[.int .i64 b0, .int .i64 b1] 23 (0, 0)) (by (with_reducible repeat (first | refine blk_drewN ?_ _ | refine blk_drew ?_ | refine blk_alloc ?_ _)); exact F5_.out) hb; have b9_ := blk_below (g := w.heap.size + 1 + 1) (o := .cells #[.int .i64 r0, .int .i64 r1] 23 (0, 0)) (by (with_reducible repeat (first | refine blk_drewN ?_ _ | refine blk_drew ?_ | refine blk_alloc ?_ _)); exact F6_.out) hb; have b10_ := blk_below (g := w1.heap.size) (o := .cells #[.int .i64 x0, .int .i64 x1] 23 (0, 0)) (blk_new w1 _) hb; have HB_w2 := Aside0.mk hb; have F7_ := Aside0.mk b7_; have cb7_0 := (blk_cell b7_ 0).trans rfl; have zb7_0 := blk_frozen b7_ 0; have cb7_1 := (blk_cell b7_ 1).trans rfl; have zb7_1 := blk_frozen b7_ 1; have lb7_ := blk_lt b7_; clear b7_; have F8_ := Aside0.mk b8_; have cb8_0 := (blk_cell b8_ 0).trans rfl; have zb8_0 := blk_frozen b8_ 0; have cb8_1 := (blk_cell b8_ 1).trans rfl; have zb8_1 := blk_frozen b8_ 1; have lb8_ := blk_lt b8_; clear b8_; have F9_ := Aside0.mk b9_; have cb9_0 := (blk_cell b9_ 0).trans rfl; have zb9_0 := blk_frozen b9_ 0; have cb9_1 := (blk_cell b9_ 1).trans rfl; have zb9_1 := blk_frozen b9_ 1; have lb9_ := blk_lt b9_; clear b9_; have F10_ := Aside0.mk b10_; have cb10_0 := (blk_cell b10_ 0).trans rfl; have zb10_0 := blk_frozen b10_ 0; have cb10_1 := (blk_cell b10_ 1).trans rfl; have zb10_1 := blk_frozen b10_ 1; have lb10_ := blk_lt b10_; clear b10_; clear hb))
  obtain ⟨w3, hw3⟩ : ∃ w3, w3 = w2.alloc (.cells #[.int .i64 x0, .int .i64 x1] 23 (0, 0)) := ⟨_, rfl⟩
  rw [← hw3]
  have hb : Below w2.heap.size w2 w3 := by rw [hw3]; exact below_alloc (Below.refl _ _) _
  clear cb7_0 zb7_0 cb7_1 zb7_1 lb7_ cb8_0 zb8_0 cb8_1 zb8_1 lb8_ cb9_0 zb9_0 cb9_1 zb9_1 lb9_ cb10_0 zb10_0 cb10_1 zb10_1 lb10_
  have b11_ := blk_below (g := w.heap.size) (o := .cells #[.int .i64 a0, .int .i64 a1] 23 (0, 0)) (by (with_reducible repeat (first | refine blk_drewN ?_ _ | refine blk_drew ?_ | refine blk_alloc ?_ _)); exact F7_.out) hb
  have b12_ := blk_below (g := w.heap.size + 1) (o := .cells #[.int .i64 b0, .int .i64 b1] 23 (0, 0)) (by (with_reducible repeat (first | refine blk_drewN ?_ _ | refine blk_drew ?_ | refine blk_alloc ?_ _)); exact F8_.out) hb
  have b13_ := blk_below (g := w.heap.size + 1 + 1) (o := .cells #[.int .i64 r0, .int .i64 r1] 23 (0, 0)) (by (with_reducible repeat (first | refine blk_drewN ?_ _ | refine blk_drew ?_ | refine blk_alloc ?_ _)); exact F9_.out) hb
  have b14_ := blk_below (g := w1.heap.size) (o := .cells #[.int .i64 x0, .int .i64 x1] 23 (0, 0)) (by (with_reducible repeat (first | refine blk_drewN ?_ _ | refine blk_drew ?_ | refine blk_alloc ?_ _)); exact F10_.out) hb
  have b15_ : w3.heap[w2.heap.size]? = some (.cells #[.int .i64 x0, .int .i64 x1] 23 (0, 0)) := by rw [hw3]; exact blk_new _ _
  have F11_ := Aside0.mk b11_
  clear b11_
  have F12_ := Aside0.mk b12_
  clear b12_
  have F13_ := Aside0.mk b13_
  clear b13_
  have F14_ := Aside0.mk b14_
  clear b14_
  have F15_ := Aside0.mk b15_
  clear b15_
  have HB_w3 := Aside0.mk hb
  clear hb hw3
  refine wp_region_told (phiO [some (.agg #[.int .i64 x0, .int .i64 x1]), some (.agg #[.int .i64 b0, .int .i64 b1]), some (.agg #[.int .i64 n0, .int .i64 n1]), some (.tuple #[.agg #[.int .i64 a0, .int .i64 a1], .bool true]), some (.tuple #[.agg #[.int .i64 a0, .int .i64 a1], .bool true]), some (.agg #[.int .i64 a0, .int .i64 a1]), some (.bool true), none, some (undef), some (.bool true)]) (fun E vs W_ => Below w3.heap.size w3 W_ ∧ BoxIn w3 7 8 #[.int .i64 0, .int .i64 0] #[.int .i64 a0, .int .i64 a1] 23 E vs W_) rfl (by kernel_rfl) ⟨⟨rfl, rfl, rfl, Nat.le_refl _, fun _ _ => rfl⟩, fun h => absurd h (by simp)⟩ ?howes ?hend
  case howes =>
    refine ⟨?_, ?_, ?_, ?_, ?_, ?_, ?_, ?_, ?_, ?_, trivial⟩
    · refine owes_val rfl (fun E vs v W_ hE hW => ⟨hW.1, hW.2.other (Below.refl _ _) (by decide) (by decide) v⟩) (fun E vs a W_ hI hE hp => ?_)
      have e0 : a.eval (.tmp 9) = .pointer (some ⟨w1.heap.size, 0, none⟩) := hI.outer (d := 9) (by rfl) rfl
      have hb := blk_below F14_.out hI.world.2.1
      have q0 := (blk_cell hb 0).trans rfl
      have q1 := (blk_cell hb 1).trans rfl
      clear hb
      refine ⟨_, ?_, rfl⟩
      simp only [execOp, e0]
      go_simp
    · refine owes_val rfl (fun E vs v W_ hE hW => ⟨hW.1, hW.2.other (Below.refl _ _) (by decide) (by decide) v⟩) (fun E vs a W_ hI hE hp => ?_)
      have e0 : a.eval (.tmp 5) = .pointer (some ⟨(w.heap.size + 1), 0, none⟩) := hI.outer (d := 5) (by rfl) rfl
      have hb := blk_below F12_.out hI.world.2.1
      have q0 := (blk_cell hb 0).trans rfl
      have q1 := (blk_cell hb 1).trans rfl
      clear hb
      refine ⟨_, ?_, rfl⟩
      simp only [execOp, e0]
      go_simp
    · refine owes_callS (fun E vs a W_ hI hE hp => ?_)
      have e0 : a.eval (.tmp 41) = .agg #[.int .i64 b0, .int .i64 b1] := hI.phi 1 rfl rfl (pred_of hp 1 rfl) rfl
      refine ⟨rfl, 11, #[.agg #[.int .i64 b0, .int .i64 b1]], ?_, ?_⟩
      · simp only [execOp, resolve, List.map_toArray, List.map_cons, List.map_nil, e0]
        rfl
      · refine (load_Neg.calls b0 b1 n0 n1 _ HN.out).mono ?_
        rintro e W1_ ⟨rfl, hb⟩
        exact ⟨_, rfl, rfl, fun j v' _ hj => phiO_stable _ j v' _ hj, below_step hI.world.2.1 hb, hI.world.2.2.other hb (by decide) (by decide) _⟩
    · refine owes_callS (fun E vs a W_ hI hE hp => ?_)
      have e0 : a.eval (.tmp 40) = .agg #[.int .i64 x0, .int .i64 x1] := hI.phi 0 rfl rfl (pred_of hp 0 rfl) rfl
      have e1 : a.eval (.tmp 42) = .agg #[.int .i64 n0, .int .i64 n1] := hI.phi 2 rfl rfl (pred_of hp 2 rfl) rfl
      refine ⟨rfl, 9, #[.agg #[.int .i64 x0, .int .i64 x1], .agg #[.int .i64 n0, .int .i64 n1]], ?_, ?_⟩
      · simp only [execOp, resolve, List.map_toArray, List.map_cons, List.map_nil, e0, e1]
        rfl
      · refine (load_Add.calls 5 x0 x1 n0 n1 a0 a1 true _ HC.out).mono ?_
        rintro e W1_ ⟨rfl, hb⟩
        exact ⟨_, rfl, rfl, fun j v' _ hj => phiO_stable _ j v' _ hj, below_step hI.world.2.1 hb, hI.world.2.2.other hb (by decide) (by decide) _⟩
    · refine owes_val rfl (fun E vs v W_ hE hW => ⟨hW.1, hW.2.other (Below.refl _ _) (by decide) (by decide) v⟩) (fun E vs a W_ hI hE hp => ?_)
      have e0 : a.eval (.tmp 43) = .tuple #[.agg #[.int .i64 a0, .int .i64 a1], .bool true] := hI.phi 3 rfl rfl (pred_of hp 3 rfl) rfl
      refine ⟨_, ?_, rfl⟩
      simp only [execOp, e0]
      first
      | rfl
      | (go_simp; done)
      | (go_simp; simp; done)
    · refine owes_val rfl (fun E vs v W_ hE hW => ⟨hW.1, hW.2.other (Below.refl _ _) (by decide) (by decide) v⟩) (fun E vs a W_ hI hE hp => ?_)
      have e0 : a.eval (.tmp 39) = .tuple #[.agg #[.int .i64 a0, .int .i64 a1], .bool true] := hI.phi 4 rfl rfl (pred_of hp 4 rfl) rfl
      refine ⟨_, ?_, rfl⟩
      simp only [execOp, e0]
      first
      | rfl
      | (go_simp; done)
      | (go_simp; simp; done)
    · refine owes_val rfl (fun E vs v W_ hE hW => ⟨hW.1, hW.2.other (Below.refl _ _) (by decide) (by decide) v⟩) (fun E vs a W_ hI hE hp => ?_)
      have e0 : a.eval (.tmp 39) = .tuple #[.agg #[.int .i64 a0, .int .i64 a1], .bool true] := hI.phi 4 rfl rfl (pred_of hp 4 rfl) rfl
      refine ⟨_, ?_, rfl⟩
      simp only [execOp, e0]
      first
      | rfl
      | (go_simp; done)
      | (go_simp; simp; done)
    · refine owes_world rfl (fun E vs a W_ hI hE hp => ?_)
      have hs := hI.notYet hE 8 rfl rfl
      refine ⟨.pointer (some ⟨W_.heap.size, 0, none⟩), W_.alloc (.cells #[.int .i64 0, .int .i64 0] 23 (0, 0)), .inl ?_, trivial, fun j v' _ hj => phiO_stable _ j v' _ hj, below_step hI.world.2.1 (below_alloc (Below.refl _ _) _), BoxIn.made hI.world.2.1.size hs (by decide)⟩
      simp only [execOp]
      go_simp
    · refine owes_world rfl (fun E vs a W_ hI hE hp => ?_)
      have e1 : a.eval (.tmp 44) = .agg #[.int .i64 a0, .int .i64 a1] := hI.phi 5 rfl rfl (pred_of hp 5 rfl) rfl
      have ya : E 7 = true := pred_of hp 7 rfl
      obtain ⟨g, hv, hg, hh⟩ := hI.world.2.2 ya
      rw [hE, if_neg (by decide)] at hh
      have e0 : a.eval (.tmp 13) = .pointer (some ⟨g, 0, none⟩) := (hI.tmp (i := 7) rfl rfl ya (by simp)).trans hv
      have q0 := (blk_cell hh 0).trans rfl
      have f0 := blk_frozen hh 0
      have q1 := (blk_cell hh 1).trans rfl
      have f1 := blk_frozen hh 1
      have hh2 : ((W_.setCell ⟨g, 0, none⟩ (.int .i64 a0)).setCell ⟨g, 1, none⟩ (.int .i64 a1)).heap[g]? = some (.cells #[.int .i64 a0, .int .i64 a1] 23 (0, 0)) := (blk_put (cs' := #[.int .i64 a0, .int .i64 a1]) (blk_put (cs' := #[.int .i64 a0, .int .i64 0]) hh 0 _ rfl) 1 _ rfl)
      refine ⟨undef, ((W_.setCell ⟨g, 0, none⟩ (.int .i64 a0)).setCell ⟨g, 1, none⟩ (.int .i64 a1)), .inr ⟨rfl, ?_⟩, rfl, fun j v' _ hj => phiO_stable _ j v' _ hj, (below_set (below_set hI.world.2.1 hg) hg), BoxIn.put1 hv hg (by decide) hh2 _⟩
      simp only [execOp, e0, e1]
      go_simp
    · refine owes_val rfl (fun E vs v W_ hE hW => ⟨hW.1, hW.2.other (Below.refl _ _) (by decide) (by decide) v⟩) (fun E vs a W_ hI hE hp => ?_)
      have e0 : a.eval (.tmp 45) = .bool true := hI.phi 6 rfl rfl (pred_of hp 6 rfl) rfl
      refine ⟨_, ?_, rfl⟩
      simp only [execOp, e0]
      first
      | rfl
      | (go_simp; done)
      | (go_simp; simp; done)
  case hend =>
  intro E vs a w5 hI hall
  obtain rfl := hI.frame (by kernel_rfl) hall
  obtain ⟨gz, v7, hgz, hz⟩ := hI.world.2.2 (hall 7 (by decide))
  rw [hall 8 (by decide), if_pos rfl] at hz
  have v9 : vs 9 = .bool true := hI.world.1 9 (hall 9 (by decide))
  have hb := hI.world.2.1
  clear hI hall
  simp only [putsFrom, List.setIfInBounds_toArray, List.set_cons_zero, List.set_cons_succ]
  rw [v7, v9]
  clear v7 v9
  have b16_ := blk_below (g := w.heap.size) (o := .cells #[.int .i64 a0, .int .i64 a1] 23 (0, 0)) (by (with_reducible repeat (first | refine blk_drewN ?_ _ | refine blk_drew ?_ | refine blk_alloc ?_ _)); exact F11_.out) hb
  have b17_ := blk_below (g := w.heap.size + 1) (o := .cells #[.int .i64 b0, .int .i64 b1] 23 (0, 0)) (by (with_reducible repeat (first | refine blk_drewN ?_ _ | refine blk_drew ?_ | refine blk_alloc ?_ _)); exact F12_.out) hb
  have b18_ := blk_below (g := w.heap.size + 1 + 1) (o := .cells #[.int .i64 r0, .int .i64 r1] 23 (0, 0)) (by (with_reducible repeat (first | refine blk_drewN ?_ _ | refine blk_drew ?_ | refine blk_alloc ?_ _)); exact F13_.out) hb
  have b19_ := blk_below (g := w1.heap.size) (o := .cells #[.int .i64 x0, .int .i64 x1] 23 (0, 0)) (by (with_reducible repeat (first | refine blk_drewN ?_ _ | refine blk_drew ?_ | refine blk_alloc ?_ _)); exact F14_.out) hb
  have b20_ := blk_below (g := w2.heap.size) (o := .cells #[.int .i64 x0, .int .i64 x1] 23 (0, 0)) (by (with_reducible repeat (first | refine blk_drewN ?_ _ | refine blk_drew ?_ | refine blk_alloc ?_ _)); exact F15_.out) hb
  have b21_ := hz
  have HB_w5 := Aside0.mk hb
  clear hb hz
  have F16_ := Aside0.mk b16_
  have cb16_0 := (blk_cell b16_ 0).trans rfl; have zb16_0 := blk_frozen b16_ 0
  have cb16_1 := (blk_cell b16_ 1).trans rfl; have zb16_1 := blk_frozen b16_ 1
  have lb16_ := blk_lt b16_
  clear b16_
  have F17_ := Aside0.mk b17_
  have cb17_0 := (blk_cell b17_ 0).trans rfl; have zb17_0 := blk_frozen b17_ 0
  have cb17_1 := (blk_cell b17_ 1).trans rfl; have zb17_1 := blk_frozen b17_ 1
  have lb17_ := blk_lt b17_
  clear b17_
  have F18_ := Aside0.mk b18_
  have cb18_0 := (blk_cell b18_ 0).trans rfl; have zb18_0 := blk_frozen b18_ 0
  have cb18_1 := (blk_cell b18_ 1).trans rfl; have zb18_1 := blk_frozen b18_ 1
  have lb18_ := blk_lt b18_
  clear b18_
  have F19_ := Aside0.mk b19_
  have cb19_0 := (blk_cell b19_ 0).trans rfl; have zb19_0 := blk_frozen b19_ 0
  have cb19_1 := (blk_cell b19_ 1).trans rfl; have zb19_1 := blk_frozen b19_ 1
  have lb19_ := blk_lt b19_
  clear b19_
  have F20_ := Aside0.mk b20_
  have cb20_0 := (blk_cell b20_ 0).trans rfl; have zb20_0 := blk_frozen b20_ 0
  have cb20_1 := (blk_cell b20_ 1).trans rfl; have zb20_1 := blk_frozen b20_ 1
  have lb20_ := blk_lt b20_
  clear b20_
  have F21_ := Aside0.mk b21_
  have cb21_0 := (blk_cell b21_ 0).trans rfl; have zb21_0 := blk_frozen b21_ 0
  have cb21_1 := (blk_cell b21_ 1).trans rfl; have zb21_1 := blk_frozen b21_ 1
  have lb21_ := blk_lt b21_
  clear b21_
  go_wp2_with (first | (go_at_call 13; (with_reducible refine (load_Right.calls r0 r1 true _ HR.out).mono ?_); rintro e w4 ⟨rfl, hb⟩; clear cb16_0 zb16_0 cb16_1 zb16_1 lb16_ cb17_0 zb17_0 cb17_1 zb17_1 lb17_ cb18_0 zb18_0 cb18_1 zb18_1 lb18_ cb19_0 zb19_0 cb19_1 zb19_1 lb19_ cb20_0 zb20_0 cb20_1 zb20_1 lb20_ cb21_0 zb21_0 cb21_1 zb21_1 lb21_; have b22_ := blk_below (g := w.heap.size) (o := .cells #[.int .i64 a0, .int .i64 a1] 23 (0, 0)) (by (with_reducible repeat (first | refine blk_drewN ?_ _ | refine blk_drew ?_ | refine blk_alloc ?_ _)); exact F16_.out) hb; have b23_ := blk_below (g := w.heap.size + 1) (o := .cells #[.int .i64 b0, .int .i64 b1] 23 (0, 0)) (by (with_reducible repeat (first | refine blk_drewN ?_ _ | refine blk_drew ?_ | refine blk_alloc ?_ _)); exact F17_.out) hb; have b24_ := blk_below (g := w.heap.size + 1 + 1) (o := .cells #[.int .i64 r0, .int .i64 r1] 23 (0, 0)) (by (with_reducible repeat (first | refine blk_drewN ?_ _ | refine blk_drew ?_ | refine blk_alloc ?_ _)); exact F18_.out) hb; have b25_ := blk_below (g := w1.heap.size) (o := .cells #[.int .i64 x0, .int .i64 x1] 23 (0, 0)) (by (with_reducible repeat (first | refine blk_drewN ?_ _ | refine blk_drew ?_ | refine blk_alloc ?_ _)); exact F19_.out) hb; have b26_ := blk_below (g := w2.heap.size) (o := .cells #[.int .i64 x0, .int .i64 x1] 23 (0, 0)) (by (with_reducible repeat (first | refine blk_drewN ?_ _ | refine blk_drew ?_ | refine blk_alloc ?_ _)); exact F20_.out) hb; have b27_ := blk_below (g := gz) (o := .cells #[.int .i64 a0, .int .i64 a1] 23 (0, 0)) (by (with_reducible repeat (first | refine blk_drewN ?_ _ | refine blk_drew ?_ | refine blk_alloc ?_ _)); exact F21_.out) hb; have b28_ := blk_below (g := w5.heap.size) (o := .cells #[.int .i64 r0, .int .i64 r1] 23 (0, 0)) (blk_new w5 _) hb; have HB_w4 := Aside0.mk hb; have F22_ := Aside0.mk b22_; have cb22_0 := (blk_cell b22_ 0).trans rfl; have zb22_0 := blk_frozen b22_ 0; have cb22_1 := (blk_cell b22_ 1).trans rfl; have zb22_1 := blk_frozen b22_ 1; have lb22_ := blk_lt b22_; clear b22_; have F23_ := Aside0.mk b23_; have cb23_0 := (blk_cell b23_ 0).trans rfl; have zb23_0 := blk_frozen b23_ 0; have cb23_1 := (blk_cell b23_ 1).trans rfl; have zb23_1 := blk_frozen b23_ 1; have lb23_ := blk_lt b23_; clear b23_; have F24_ := Aside0.mk b24_; have cb24_0 := (blk_cell b24_ 0).trans rfl; have zb24_0 := blk_frozen b24_ 0; have cb24_1 := (blk_cell b24_ 1).trans rfl; have zb24_1 := blk_frozen b24_ 1; have lb24_ := blk_lt b24_; clear b24_; have F25_ := Aside0.mk b25_; have cb25_0 := (blk_cell b25_ 0).trans rfl; have zb25_0 := blk_frozen b25_ 0; have cb25_1 := (blk_cell b25_ 1).trans rfl; have zb25_1 := blk_frozen b25_ 1; have lb25_ := blk_lt b25_; clear b25_; have F26_ := Aside0.mk b26_; have cb26_0 := (blk_cell b26_ 0).trans rfl; have zb26_0 := blk_frozen b26_ 0; have cb26_1 := (blk_cell b26_ 1).trans rfl; have zb26_1 := blk_frozen b26_ 1; have lb26_ := blk_lt b26_; clear b26_; have F27_ := Aside0.mk b27_; have cb27_0 := (blk_cell b27_ 0).trans rfl; have zb27_0 := blk_frozen b27_ 0; have cb27_1 := (blk_cell b27_ 1).trans rfl; have zb27_1 := blk_frozen b27_ 1; have lb27_ := blk_lt b27_; clear b27_; have F28_ := Aside0.mk b28_; have cb28_0 := (blk_cell b28_ 0).trans rfl; have zb28_0 := blk_frozen b28_ 0; have cb28_1 := (blk_cell b28_ 1).trans rfl; have zb28_1 := blk_frozen b28_ 1; have lb28_ := blk_lt b28_; clear b28_; clear hb))
  have BW := Aside0.mk (below_step (below_alloc (below_step (below_step (below_step (below_alloc (below_step (below_step (below_alloc (below_alloc (below_alloc (Below.refl _ _) _) _) _) HB_w0.out) HB_w1.out) _) HB_w2.out) HB_w3.out) HB_w5.out) _) HB_w4.out)
  have GE15 := Aside0.mk (show w.heap.size ≤ w5.heap.size from below_size (below_step (below_step (below_step (below_alloc (below_step (below_step (below_alloc (below_alloc (below_alloc (Below.refl _ _) _) _) _) HB_w0.out) HB_w1.out) _) HB_w2.out) HB_w3.out) HB_w5.out))
  have NE4 := Aside0.mk (show w.heap.size ≠ w5.heap.size by have s_HB_w0 := HB_w0.out.size; (try simp at s_HB_w0); have s_HB_w1 := HB_w1.out.size; (try simp at s_HB_w1); have s_HB_w2 := HB_w2.out.size; (try simp at s_HB_w2); have s_HB_w3 := HB_w3.out.size; (try simp at s_HB_w3); have s_HB_w5 := HB_w5.out.size; (try simp at s_HB_w5); omega)
  have NE6 := Aside0.mk (show w.heap.size + 1 + 1 ≠ w5.heap.size by have s_HB_w0 := HB_w0.out.size; (try simp at s_HB_w0); have s_HB_w1 := HB_w1.out.size; (try simp at s_HB_w1); have s_HB_w2 := HB_w2.out.size; (try simp at s_HB_w2); have s_HB_w3 := HB_w3.out.size; (try simp at s_HB_w3); have s_HB_w5 := HB_w5.out.size; (try simp at s_HB_w5); omega)
  clear cb22_0 zb22_0 cb22_1 zb22_1 lb22_ cb23_0 zb23_0 cb23_1 zb23_1 lb23_ cb24_0 zb24_0 cb24_1 zb24_1 lb24_ cb25_0 zb25_0 cb25_1 zb25_1 lb25_ cb26_0 zb26_0 cb26_1 zb26_1 lb26_ cb27_0 zb27_0 cb27_1 zb27_1 lb27_ cb28_0 zb28_0 cb28_1 zb28_1 lb28_
  obtain ⟨w6, hw6⟩ : ∃ w6, w6 = (w4.setCell ⟨w5.heap.size, 0, none⟩ (.int .i64 (wrap64 (r0 + Go.bits .and .i64 more 1023)))).setCell ⟨w5.heap.size, 1, none⟩ (.int .i64 (wrap64 (r1 + Go.bits .and .i64 more 255))) := ⟨_, rfl⟩
  rw [← hw6]
  have b4x : w6.heap[w.heap.size]? = some (.cells #[.int .i64 a0, .int .i64 a1] 23 (0, 0)) := by rw [hw6]; exact blk_far (blk_far F22_.out NE4.out _) NE4.out _
  have b6x : w6.heap[(w.heap.size + 1 + 1)]? = some (.cells #[.int .i64 r0, .int .i64 r1] 23 (0, 0)) := by rw [hw6]; exact blk_far (blk_far F24_.out NE6.out _) NE6.out _
  have b15x : w6.heap[w5.heap.size]? = some (.cells #[.int .i64 (wrap64 (r0 + Go.bits .and .i64 more 1023)), .int .i64 (wrap64 (r1 + Go.bits .and .i64 more 255))] 23 (0, 0)) := by rw [hw6]; exact blk_put (blk_put (cs' := #[.int .i64 (wrap64 (r0 + Go.bits .and .i64 more 1023)), .int .i64 r1]) F28_.out 0 _ rfl) 1 _ rfl
  have BW6 := Aside0.mk (show Below w.heap.size w w6 by rw [hw6]; exact below_set (below_set BW.out GE15.out) GE15.out)
  clear BW hw6
  have BW := BW6
  have C4 := Aside0.mk b4x
  have C6 := Aside0.mk b6x
  have C15 := Aside0.mk b15x
  clear b4x b6x b15x
  refine wp_region_pv [.val (.agg #[.int .i64 r0, .int .i64 r1]), .val (.bool true), .val (.bool false), .val (.bool false), .val (.agg #[.int .i64 r0, .int .i64 r1]), .val (.agg #[.int .i64 a0, .int .i64 a1]), .val (.bool true), .val (.bool false), .val (.bool false), .val (.bool false), .val (.agg #[.int .i64 (wrap64 (r0 + Go.bits .and .i64 more 1023)), .int .i64 (wrap64 (r1 + Go.bits .and .i64 more 255))]), .val (.agg #[.int .i64 a0, .int .i64 a1]), .val (.bool true), .val (.bool true), .val (.agg #[.int .i64 a0, .int .i64 a1]), .val (.agg #[.int .i64 m0, .int .i64 m1]), .val (.agg #[.int .i64 a0, .int .i64 a1]), .val (.agg #[.int .i64 a0, .int .i64 a1]), .val (.bool true), .val (.bool true), .val (.bool true), .val (.bool true)] rfl (by kernel_rfl) ?howes ?hend
  case howes =>
    refine ⟨?_, ?_, ?_, ?_, ?_, ?_, ?_, ?_, ?_, ?_, ?_, ?_, ?_, ?_, ?_, ?_, ?_, ?_, ?_, ?_, ?_, ?_, trivial⟩
    · refine owes_pv0 (fun E vs a W_ hI hE hp => ?_)
      have e0 : a.eval (.tmp 6) = .pointer (some ⟨(w.heap.size + 1 + 1), 0, none⟩) := hI.outer (d := 6) (by rfl) rfl
      have hb := blk_below C6.out hI.world.2
      have q0 := (blk_cell hb 0).trans rfl
      have q1 := (blk_cell hb 1).trans rfl
      clear hb
      refine ⟨rfl, _, ?_, rfl⟩
      simp only [execOp, e0]
      go_simp
    · refine owes_pvc (fun E vs a W_ hI hE hp => ?_)
      have e0 : a.eval (.tmp 68) = .agg #[.int .i64 r0, .int .i64 r1] := hI.pv 0 rfl rfl (pred_of hp 0 rfl) rfl
      refine ⟨rfl, 13, #[.agg #[.int .i64 r0, .int .i64 r1]], ?_, ?_⟩
      · simp only [execOp, resolve, List.map_toArray, List.map_cons, List.map_nil, e0]
        rfl
      · refine (load_Right.calls r0 r1 true _ HR.out).mono ?_
        rintro e W1_ ⟨rfl, hb⟩
        exact ⟨_, rfl, hb, rfl⟩
    · refine owes_pv0 (fun E vs a W_ hI hE hp => ?_)
      have e0 : a.eval (.tmp 69) = .bool true := hI.pv 1 rfl rfl (pred_of hp 1 rfl) rfl
      refine ⟨rfl, _, ?_, rfl⟩
      simp only [execOp, e0]
      first
      | rfl
      | (go_simp; done)
      | (go_simp; simp; done)
    · refine owes_pv0 (fun E vs a W_ hI hE hp => ?_)
      have e0 : a.eval (.tmp 70) = .bool false := hI.pv 2 rfl rfl (pred_of hp 2 rfl) rfl
      refine ⟨rfl, _, ?_, rfl⟩
      simp only [execOp, e0]
      first
      | rfl
      | (go_simp; done)
      | (go_simp; simp; done)
    · refine owes_pv0 (fun E vs a W_ hI hE hp => ?_)
      have e0 : a.eval (.tmp 6) = .pointer (some ⟨(w.heap.size + 1 + 1), 0, none⟩) := hI.outer (d := 6) (by rfl) rfl
      have hb := blk_below C6.out hI.world.2
      have q0 := (blk_cell hb 0).trans rfl
      have q1 := (blk_cell hb 1).trans rfl
      clear hb
      refine ⟨wanted_of hI 3 rfl rfl rfl rfl (show a.eval (.tmp 71) = .bool false from hI.pv 3 rfl rfl (pred_of hp 3 rfl) rfl), _, ?_, rfl⟩
      simp only [execOp, e0]
      go_simp
    · refine owes_pv0 (fun E vs a W_ hI hE hp => ?_)
      have e0 : a.eval (.tmp 4) = .pointer (some ⟨w.heap.size, 0, none⟩) := hI.outer (d := 4) (by rfl) rfl
      have hb := blk_below C4.out hI.world.2
      have q0 := (blk_cell hb 0).trans rfl
      have q1 := (blk_cell hb 1).trans rfl
      clear hb
      refine ⟨wanted_of hI 3 rfl rfl rfl rfl (show a.eval (.tmp 71) = .bool false from hI.pv 3 rfl rfl (pred_of hp 3 rfl) rfl), _, ?_, rfl⟩
      simp only [execOp, e0]
      go_simp
    · refine owes_pvc (fun E vs a W_ hI hE hp => ?_)
      have e0 : a.eval (.tmp 72) = .agg #[.int .i64 r0, .int .i64 r1] := hI.pv 4 rfl rfl (pred_of hp 4 rfl) rfl
      have e1 : a.eval (.tmp 73) = .agg #[.int .i64 a0, .int .i64 a1] := hI.pv 5 rfl rfl (pred_of hp 5 rfl) rfl
      refine ⟨wanted_of hI 3 rfl rfl rfl rfl (show a.eval (.tmp 71) = .bool false from hI.pv 3 rfl rfl (pred_of hp 3 rfl) rfl), 15, #[.agg #[.int .i64 r0, .int .i64 r1], .agg #[.int .i64 a0, .int .i64 a1]], ?_, ?_⟩
      · simp only [execOp, resolve, List.map_toArray, List.map_cons, List.map_nil, e0, e1]
        rfl
      · refine (load_Fits.calls r0 r1 a0 a1 true _ HF.out).mono ?_
        rintro e W1_ ⟨rfl, hb⟩
        exact ⟨_, rfl, hb, rfl⟩
    · refine owes_pv0 (fun E vs a W_ hI hE hp => ?_)
      have e0 : a.eval (.tmp 74) = .bool true := hI.pv 6 rfl rfl (pred_of hp 6 rfl) rfl
      refine ⟨wanted_of hI 3 rfl rfl rfl rfl (show a.eval (.tmp 71) = .bool false from hI.pv 3 rfl rfl (pred_of hp 3 rfl) rfl), _, ?_, rfl⟩
      simp only [execOp, e0]
      first
      | rfl
      | (go_simp; done)
      | (go_simp; simp; done)
    · refine owes_pv0 (fun E vs a W_ hI hE hp => ?_)
      have e0 : a.eval (.tmp 71) = .bool false := hI.pv 3 rfl rfl (pred_of hp 3 rfl) rfl
      have e1 : a.eval (.tmp 75) = .bool false := hI.pv 7 rfl rfl (pred_of hp 7 rfl) rfl
      refine ⟨rfl, _, ?_, rfl⟩
      simp only [execOp, e0, e1]
      first
      | rfl
      | (go_simp; done)
      | (go_simp; simp; done)
    · refine owes_pv0 (fun E vs a W_ hI hE hp => ?_)
      have e0 : a.eval (.tmp 76) = .bool false := hI.pv 8 rfl rfl (pred_of hp 8 rfl) rfl
      refine ⟨rfl, _, ?_, rfl⟩
      simp only [execOp, e0]
      first
      | rfl
      | (go_simp; done)
      | (go_simp; simp; done)
    · refine owes_pv0 (fun E vs a W_ hI hE hp => ?_)
      have e0 : a.eval (.tmp 15) = .pointer (some ⟨w5.heap.size, 0, none⟩) := hI.outer (d := 15) (by rfl) rfl
      have hb := blk_below C15.out hI.world.2
      have q0 := (blk_cell hb 0).trans rfl
      have q1 := (blk_cell hb 1).trans rfl
      clear hb
      refine ⟨wanted_of hI 9 rfl rfl rfl rfl (show a.eval (.tmp 77) = .bool false from hI.pv 9 rfl rfl (pred_of hp 9 rfl) rfl), _, ?_, rfl⟩
      simp only [execOp, e0]
      go_simp
    · refine owes_pv0 (fun E vs a W_ hI hE hp => ?_)
      have e0 : a.eval (.tmp 4) = .pointer (some ⟨w.heap.size, 0, none⟩) := hI.outer (d := 4) (by rfl) rfl
      have hb := blk_below C4.out hI.world.2
      have q0 := (blk_cell hb 0).trans rfl
      have q1 := (blk_cell hb 1).trans rfl
      clear hb
      refine ⟨wanted_of hI 9 rfl rfl rfl rfl (show a.eval (.tmp 77) = .bool false from hI.pv 9 rfl rfl (pred_of hp 9 rfl) rfl), _, ?_, rfl⟩
      simp only [execOp, e0]
      go_simp
    · refine owes_pvc (fun E vs a W_ hI hE hp => ?_)
      have e0 : a.eval (.tmp 78) = .agg #[.int .i64 (wrap64 (r0 + Go.bits .and .i64 more 1023)), .int .i64 (wrap64 (r1 + Go.bits .and .i64 more 255))] := hI.pv 10 rfl rfl (pred_of hp 10 rfl) rfl
      have e1 : a.eval (.tmp 79) = .agg #[.int .i64 a0, .int .i64 a1] := hI.pv 11 rfl rfl (pred_of hp 11 rfl) rfl
      refine ⟨wanted_of hI 9 rfl rfl rfl rfl (show a.eval (.tmp 77) = .bool false from hI.pv 9 rfl rfl (pred_of hp 9 rfl) rfl), 15, #[.agg #[.int .i64 (wrap64 (r0 + Go.bits .and .i64 more 1023)), .int .i64 (wrap64 (r1 + Go.bits .and .i64 more 255))], .agg #[.int .i64 a0, .int .i64 a1]], ?_, ?_⟩
      · simp only [execOp, resolve, List.map_toArray, List.map_cons, List.map_nil, e0, e1]
        rfl
      · refine (load_Fits.calls (wrap64 (r0 + Go.bits .and .i64 more 1023)) (wrap64 (r1 + Go.bits .and .i64 more 255)) a0 a1 true _ HG.out).mono ?_
        rintro e W1_ ⟨rfl, hb⟩
        exact ⟨_, rfl, hb, rfl⟩
    · refine owes_pv0 (fun E vs a W_ hI hE hp => ?_)
      have e0 : a.eval (.tmp 80) = .bool true := hI.pv 12 rfl rfl (pred_of hp 12 rfl) rfl
      refine ⟨wanted_of hI 9 rfl rfl rfl rfl (show a.eval (.tmp 77) = .bool false from hI.pv 9 rfl rfl (pred_of hp 9 rfl) rfl), _, ?_, rfl⟩
      simp only [execOp, e0]
      first
      | rfl
      | (go_simp; done)
      | (go_simp; simp; done)
    · refine owes_pv0 (fun E vs a W_ hI hE hp => ?_)
      have e0 : a.eval (.tmp 4) = .pointer (some ⟨w.heap.size, 0, none⟩) := hI.outer (d := 4) (by rfl) rfl
      have hb := blk_below C4.out hI.world.2
      have q0 := (blk_cell hb 0).trans rfl
      have q1 := (blk_cell hb 1).trans rfl
      clear hb
      refine ⟨wanted_of hI 13 rfl rfl rfl rfl (show a.eval (.tmp 81) = .bool true from hI.pv 13 rfl rfl (pred_of hp 13 rfl) rfl), _, ?_, rfl⟩
      simp only [execOp, e0]
      go_simp
    · refine owes_pvc (fun E vs a W_ hI hE hp => ?_)
      have e0 : a.eval (.tmp 82) = .agg #[.int .i64 a0, .int .i64 a1] := hI.pv 14 rfl rfl (pred_of hp 14 rfl) rfl
      refine ⟨wanted_of hI 13 rfl rfl rfl rfl (show a.eval (.tmp 81) = .bool true from hI.pv 13 rfl rfl (pred_of hp 13 rfl) rfl), 11, #[.agg #[.int .i64 a0, .int .i64 a1]], ?_, ?_⟩
      · simp only [execOp, resolve, List.map_toArray, List.map_cons, List.map_nil, e0]
        rfl
      · refine (load_Neg.calls a0 a1 m0 m1 _ HM.out).mono ?_
        rintro e W1_ ⟨rfl, hb⟩
        exact ⟨_, rfl, hb, rfl⟩
    · refine owes_pvc (fun E vs a W_ hI hE hp => ?_)
      have e0 : a.eval (.tmp 83) = .agg #[.int .i64 m0, .int .i64 m1] := hI.pv 15 rfl rfl (pred_of hp 15 rfl) rfl
      refine ⟨wanted_of hI 13 rfl rfl rfl rfl (show a.eval (.tmp 81) = .bool true from hI.pv 13 rfl rfl (pred_of hp 13 rfl) rfl), 11, #[.agg #[.int .i64 m0, .int .i64 m1]], ?_, ?_⟩
      · simp only [execOp, resolve, List.map_toArray, List.map_cons, List.map_nil, e0]
        rfl
      · refine (load_Neg.calls m0 m1 a0 a1 _ HK.out).mono ?_
        rintro e W1_ ⟨rfl, hb⟩
        exact ⟨_, rfl, hb, rfl⟩
    · refine owes_pv0 (fun E vs a W_ hI hE hp => ?_)
      have e0 : a.eval (.tmp 4) = .pointer (some ⟨w.heap.size, 0, none⟩) := hI.outer (d := 4) (by rfl) rfl
      have hb := blk_below C4.out hI.world.2
      have q0 := (blk_cell hb 0).trans rfl
      have q1 := (blk_cell hb 1).trans rfl
      clear hb
      refine ⟨wanted_of hI 13 rfl rfl rfl rfl (show a.eval (.tmp 81) = .bool true from hI.pv 13 rfl rfl (pred_of hp 13 rfl) rfl), _, ?_, rfl⟩
      simp only [execOp, e0]
      go_simp
    · refine owes_pv0 (fun E vs a W_ hI hE hp => ?_)
      have e0 : a.eval (.tmp 84) = .agg #[.int .i64 a0, .int .i64 a1] := hI.pv 16 rfl rfl (pred_of hp 16 rfl) rfl
      have e1 : a.eval (.tmp 85) = .agg #[.int .i64 a0, .int .i64 a1] := hI.pv 17 rfl rfl (pred_of hp 17 rfl) rfl
      refine ⟨wanted_of hI 13 rfl rfl rfl rfl (show a.eval (.tmp 81) = .bool true from hI.pv 13 rfl rfl (pred_of hp 13 rfl) rfl), _, ?_, rfl⟩
      simp only [execOp, e0, e1]
      first
      | rfl
      | (go_simp; done)
      | (go_simp; simp; done)
    · refine owes_pv0 (fun E vs a W_ hI hE hp => ?_)
      have e0 : a.eval (.tmp 81) = .bool true := hI.pv 13 rfl rfl (pred_of hp 13 rfl) rfl
      have e1 : a.eval (.tmp 86) = .bool true := hI.pv 18 rfl rfl (pred_of hp 18 rfl) rfl
      refine ⟨wanted_of hI 9 rfl rfl rfl rfl (show a.eval (.tmp 77) = .bool false from hI.pv 9 rfl rfl (pred_of hp 9 rfl) rfl), _, ?_, rfl⟩
      simp only [execOp, e0, e1]
      first
      | rfl
      | (go_simp; done)
      | (go_simp; simp; done)
    · refine owes_pv0 (fun E vs a W_ hI hE hp => ?_)
      have e0 : a.eval (.tmp 77) = .bool false := hI.pv 9 rfl rfl (pred_of hp 9 rfl) rfl
      have e1 : a.eval (.tmp 87) = .bool true := hI.pv 19 rfl rfl (pred_of hp 19 rfl) rfl
      refine ⟨rfl, _, ?_, rfl⟩
      simp only [execOp, e0, e1]
      first
      | rfl
      | (go_simp; done)
      | (go_simp; simp; done)
    · refine owes_pv0 (fun E vs a W_ hI hE hp => ?_)
      have e0 : a.eval (.tmp 88) = .bool true := hI.pv 20 rfl rfl (pred_of hp 20 rfl) rfl
      refine ⟨rfl, _, ?_, rfl⟩
      simp only [execOp, e0]
      first
      | rfl
      | (go_simp; done)
      | (go_simp; simp; done)
  case hend =>
  intro E vs a W hI hall
  have e1 : a.tmps.getD 8 undef = .bool true := hI.pv 21 rfl rfl (hall 21 (by decide)) rfl
  have e2 : a.defers = [] := hI.defers
  have hb := hI.world.2
  clear hI hall
  go_wp2
  refine bodyPost_ret (v := .bool true) ((results_tmp (t := 8) rfl _ _ _).trans (by rw [e1])) e2 ⟨rfl, below_step BW.out hb⟩

set_option maxHeartbeats 8000000 in
set_option maxRecDepth 100000 in
theorem loadAdds_way000 (a0 a1 b0 b1 r0 r1 more x0 x1 n0 n1 m0 m1 : Int) (w : World)
    (hA : load_Add.f 5 a0 a1 b0 b1 = some (x0, x1, false)) (hB : load_Add.f 5 b0 b1 a0 a1 = some (x0, x1, false)) (hN : load_Neg.f b0 b1 = some (n0, n1))
    (hR : load_Right.f r0 r1 = some false) :
    Calls Try.prog 6 #[.agg #[.int .i64 a0, .int .i64 a1], .agg #[.int .i64 b0, .int .i64 b1], .agg #[.int .i64 r0, .int .i64 r1], .int .i64 more] w fun e w' => e = .returned (.bool true) ∧ Below w.heap.size w w' := by
  have hu23 := Try.underlying23
  have hu3 := Try.underlying3
  have HA := Aside0.mk hA
  have HB := Aside0.mk hB
  have HN := Aside0.mk hN
  have HR := Aside0.mk hR
  clear hA hB hN hR
  go_enter Try.func6, Try.ntmps6
  go_wp2_with (first | (go_at_call 8; (with_reducible refine (jitneylaw04_alive.calls true _ rfl).mono ?_); rintro e w0 ⟨rfl, hb⟩; have b1_ := blk_below (g := w.heap.size) (o := .cells #[.int .i64 a0, .int .i64 a1] 23 (0, 0)) (blk_alloc (blk_alloc (blk_new w _) _) _) hb; have b2_ := blk_below (g := w.heap.size + 1) (o := .cells #[.int .i64 b0, .int .i64 b1] 23 (0, 0)) (blk_alloc (heap_alloc2_new w _ _) _) hb; have b3_ := blk_below (g := w.heap.size + 1 + 1) (o := .cells #[.int .i64 r0, .int .i64 r1] 23 (0, 0)) (heap_alloc3_new w _ _ _) hb; have HB_w0 := Aside0.mk hb; have F1_ := Aside0.mk b1_; have cb1_0 := (blk_cell b1_ 0).trans rfl; have zb1_0 := blk_frozen b1_ 0; have cb1_1 := (blk_cell b1_ 1).trans rfl; have zb1_1 := blk_frozen b1_ 1; have lb1_ := blk_lt b1_; clear b1_; have F2_ := Aside0.mk b2_; have cb2_0 := (blk_cell b2_ 0).trans rfl; have zb2_0 := blk_frozen b2_ 0; have cb2_1 := (blk_cell b2_ 1).trans rfl; have zb2_1 := blk_frozen b2_ 1; have lb2_ := blk_lt b2_; clear b2_; have F3_ := Aside0.mk b3_; have cb3_0 := (blk_cell b3_ 0).trans rfl; have zb3_0 := blk_frozen b3_ 0; have cb3_1 := (blk_cell b3_ 1).trans rfl; have zb3_1 := blk_frozen b3_ 1; have lb3_ := blk_lt b3_; clear b3_; clear hb) | (go_at_call 9; (with_reducible refine (load_Add.calls 5 a0 a1 b0 b1 x0 x1 false _ HA.out).mono ?_); rintro e w1 ⟨rfl, hb⟩; clear cb1_0 zb1_0 cb1_1 zb1_1 lb1_ cb2_0 zb2_0 cb2_1 zb2_1 lb2_ cb3_0 zb3_0 cb3_1 zb3_1 lb3_; have b4_ := blk_below (g := w.heap.size) (o := .cells #[.int .i64 a0, .int .i64 a1] 23 (0, 0)) (by (with_reducible repeat (first | refine blk_drewN ?_ _ | refine blk_drew ?_ | refine blk_alloc ?_ _)); exact F1_.out) hb; have b5_ := blk_below (g := w.heap.size + 1) (o := .cells #[.int .i64 b0, .int .i64 b1] 23 (0, 0)) (by (with_reducible repeat (first | refine blk_drewN ?_ _ | refine blk_drew ?_ | refine blk_alloc ?_ _)); exact F2_.out) hb; have b6_ := blk_below (g := w.heap.size + 1 + 1) (o := .cells #[.int .i64 r0, .int .i64 r1] 23 (0, 0)) (by (with_reducible repeat (first | refine blk_drewN ?_ _ | refine blk_drew ?_ | refine blk_alloc ?_ _)); exact F3_.out) hb; have HB_w1 := Aside0.mk hb; have F4_ := Aside0.mk b4_; have cb4_0 := (blk_cell b4_ 0).trans rfl; have zb4_0 := blk_frozen b4_ 0; have cb4_1 := (blk_cell b4_ 1).trans rfl; have zb4_1 := blk_frozen b4_ 1; have lb4_ := blk_lt b4_; clear b4_; have F5_ := Aside0.mk b5_; have cb5_0 := (blk_cell b5_ 0).trans rfl; have zb5_0 := blk_frozen b5_ 0; have cb5_1 := (blk_cell b5_ 1).trans rfl; have zb5_1 := blk_frozen b5_ 1; have lb5_ := blk_lt b5_; clear b5_; have F6_ := Aside0.mk b6_; have cb6_0 := (blk_cell b6_ 0).trans rfl; have zb6_0 := blk_frozen b6_ 0; have cb6_1 := (blk_cell b6_ 1).trans rfl; have zb6_1 := blk_frozen b6_ 1; have lb6_ := blk_lt b6_; clear b6_; clear hb) | (go_at_call 9; (with_reducible refine (load_Add.calls 5 b0 b1 a0 a1 x0 x1 false _ HB.out).mono ?_); rintro e w2 ⟨rfl, hb⟩; clear cb4_0 zb4_0 cb4_1 zb4_1 lb4_ cb5_0 zb5_0 cb5_1 zb5_1 lb5_ cb6_0 zb6_0 cb6_1 zb6_1 lb6_; have b7_ := blk_below (g := w.heap.size) (o := .cells #[.int .i64 a0, .int .i64 a1] 23 (0, 0)) (by (with_reducible repeat (first | refine blk_drewN ?_ _ | refine blk_drew ?_ | refine blk_alloc ?_ _)); exact F4_.out) hb; have b8_ := blk_below (g := w.heap.size + 1) (o := .cells #[.int .i64 b0, .int .i64 b1] 23 (0, 0)) (by (with_reducible repeat (first | refine blk_drewN ?_ _ | refine blk_drew ?_ | refine blk_alloc ?_ _)); exact F5_.out) hb; have b9_ := blk_below (g := w.heap.size + 1 + 1) (o := .cells #[.int .i64 r0, .int .i64 r1] 23 (0, 0)) (by (with_reducible repeat (first | refine blk_drewN ?_ _ | refine blk_drew ?_ | refine blk_alloc ?_ _)); exact F6_.out) hb; have b10_ := blk_below (g := w1.heap.size) (o := .cells #[.int .i64 x0, .int .i64 x1] 23 (0, 0)) (blk_new w1 _) hb; have HB_w2 := Aside0.mk hb; have F7_ := Aside0.mk b7_; have cb7_0 := (blk_cell b7_ 0).trans rfl; have zb7_0 := blk_frozen b7_ 0; have cb7_1 := (blk_cell b7_ 1).trans rfl; have zb7_1 := blk_frozen b7_ 1; have lb7_ := blk_lt b7_; clear b7_; have F8_ := Aside0.mk b8_; have cb8_0 := (blk_cell b8_ 0).trans rfl; have zb8_0 := blk_frozen b8_ 0; have cb8_1 := (blk_cell b8_ 1).trans rfl; have zb8_1 := blk_frozen b8_ 1; have lb8_ := blk_lt b8_; clear b8_; have F9_ := Aside0.mk b9_; have cb9_0 := (blk_cell b9_ 0).trans rfl; have zb9_0 := blk_frozen b9_ 0; have cb9_1 := (blk_cell b9_ 1).trans rfl; have zb9_1 := blk_frozen b9_ 1; have lb9_ := blk_lt b9_; clear b9_; have F10_ := Aside0.mk b10_; have cb10_0 := (blk_cell b10_ 0).trans rfl; have zb10_0 := blk_frozen b10_ 0; have cb10_1 := (blk_cell b10_ 1).trans rfl; have zb10_1 := blk_frozen b10_ 1; have lb10_ := blk_lt b10_; clear b10_; clear hb) | (go_at_call 13; (with_reducible refine (load_Right.calls r0 r1 false _ HR.out).mono ?_); rintro e w4 ⟨rfl, hb⟩; clear cb7_0 zb7_0 cb7_1 zb7_1 lb7_ cb8_0 zb8_0 cb8_1 zb8_1 lb8_ cb9_0 zb9_0 cb9_1 zb9_1 lb9_ cb10_0 zb10_0 cb10_1 zb10_1 lb10_; have b11_ := blk_below (g := w.heap.size) (o := .cells #[.int .i64 a0, .int .i64 a1] 23 (0, 0)) (by (with_reducible repeat (first | refine blk_drewN ?_ _ | refine blk_drew ?_ | refine blk_alloc ?_ _)); exact F7_.out) hb; have b12_ := blk_below (g := w.heap.size + 1) (o := .cells #[.int .i64 b0, .int .i64 b1] 23 (0, 0)) (by (with_reducible repeat (first | refine blk_drewN ?_ _ | refine blk_drew ?_ | refine blk_alloc ?_ _)); exact F8_.out) hb; have b13_ := blk_below (g := w.heap.size + 1 + 1) (o := .cells #[.int .i64 r0, .int .i64 r1] 23 (0, 0)) (by (with_reducible repeat (first | refine blk_drewN ?_ _ | refine blk_drew ?_ | refine blk_alloc ?_ _)); exact F9_.out) hb; have b14_ := blk_below (g := w1.heap.size) (o := .cells #[.int .i64 x0, .int .i64 x1] 23 (0, 0)) (by (with_reducible repeat (first | refine blk_drewN ?_ _ | refine blk_drew ?_ | refine blk_alloc ?_ _)); exact F10_.out) hb; have b15_ := blk_below (g := w2.heap.size) (o := .cells #[.int .i64 x0, .int .i64 x1] 23 (0, 0)) (blk_alloc (blk_new w2 _) _) hb; have b16_ := blk_below (g := w2.heap.size + 1) (o := .cells #[.int .i64 r0, .int .i64 r1] 23 (0, 0)) (heap_alloc2_new w2 _ _) hb; have HB_w4 := Aside0.mk hb; have F11_ := Aside0.mk b11_; have cb11_0 := (blk_cell b11_ 0).trans rfl; have zb11_0 := blk_frozen b11_ 0; have cb11_1 := (blk_cell b11_ 1).trans rfl; have zb11_1 := blk_frozen b11_ 1; have lb11_ := blk_lt b11_; clear b11_; have F12_ := Aside0.mk b12_; have cb12_0 := (blk_cell b12_ 0).trans rfl; have zb12_0 := blk_frozen b12_ 0; have cb12_1 := (blk_cell b12_ 1).trans rfl; have zb12_1 := blk_frozen b12_ 1; have lb12_ := blk_lt b12_; clear b12_; have F13_ := Aside0.mk b13_; have cb13_0 := (blk_cell b13_ 0).trans rfl; have zb13_0 := blk_frozen b13_ 0; have cb13_1 := (blk_cell b13_ 1).trans rfl; have zb13_1 := blk_frozen b13_ 1; have lb13_ := blk_lt b13_; clear b13_; have F14_ := Aside0.mk b14_; have cb14_0 := (blk_cell b14_ 0).trans rfl; have zb14_0 := blk_frozen b14_ 0; have cb14_1 := (blk_cell b14_ 1).trans rfl; have zb14_1 := blk_frozen b14_ 1; have lb14_ := blk_lt b14_; clear b14_; have F15_ := Aside0.mk b15_; have cb15_0 := (blk_cell b15_ 0).trans rfl; have zb15_0 := blk_frozen b15_ 0; have cb15_1 := (blk_cell b15_ 1).trans rfl; have zb15_1 := blk_frozen b15_ 1; have lb15_ := blk_lt b15_; clear b15_; have F16_ := Aside0.mk b16_; have cb16_0 := (blk_cell b16_ 0).trans rfl; have zb16_0 := blk_frozen b16_ 0; have cb16_1 := (blk_cell b16_ 1).trans rfl; have zb16_1 := blk_frozen b16_ 1; have lb16_ := blk_lt b16_; clear b16_; clear hb))
  have BW := Aside0.mk (below_step (below_alloc (below_alloc (below_step (below_alloc (below_step (below_step (below_alloc (below_alloc (below_alloc (Below.refl _ _) _) _) _) HB_w0.out) HB_w1.out) _) HB_w2.out) _) _) HB_w4.out)
  have GE15 := Aside0.mk (show w.heap.size ≤ w2.heap.size + 1 from Nat.le_succ_of_le (below_size (below_step (below_alloc (below_step (below_step (below_alloc (below_alloc (below_alloc (Below.refl _ _) _) _) _) HB_w0.out) HB_w1.out) _) HB_w2.out)))
  clear cb11_0 zb11_0 cb11_1 zb11_1 lb11_ cb12_0 zb12_0 cb12_1 zb12_1 lb12_ cb13_0 zb13_0 cb13_1 zb13_1 lb13_ cb14_0 zb14_0 cb14_1 zb14_1 lb14_ cb15_0 zb15_0 cb15_1 zb15_1 lb15_ cb16_0 zb16_0 cb16_1 zb16_1 lb16_
  refine wp_region_pv [.val (.agg #[.int .i64 r0, .int .i64 r1]), .val (.bool false), .val (.bool true), .val (.bool true), .val (undef), .val (undef), .val (undef), .val (undef), .val (.bool true), .val (.bool true), .val (undef), .val (undef), .val (undef), .val (undef), .val (undef), .val (undef), .val (undef), .val (undef), .val (undef), .val (undef), .val (.bool true), .val (.bool true)] rfl (by kernel_rfl) ?howes ?hend
  case howes =>
    refine ⟨?_, ?_, ?_, ?_, ?_, ?_, ?_, ?_, ?_, ?_, ?_, ?_, ?_, ?_, ?_, ?_, ?_, ?_, ?_, ?_, ?_, ?_, trivial⟩
    · refine owes_pv0 (fun E vs a W_ hI hE hp => ?_)
      have e0 : a.eval (.tmp 6) = .pointer (some ⟨(w.heap.size + 1 + 1), 0, none⟩) := hI.outer (d := 6) (by rfl) rfl
      have hb := blk_below F13_.out hI.world.2
      have q0 := (blk_cell hb 0).trans rfl
      have q1 := (blk_cell hb 1).trans rfl
      clear hb
      refine ⟨rfl, _, ?_, rfl⟩
      simp only [execOp, e0]
      go_simp
    · refine owes_pvc (fun E vs a W_ hI hE hp => ?_)
      have e0 : a.eval (.tmp 68) = .agg #[.int .i64 r0, .int .i64 r1] := hI.pv 0 rfl rfl (pred_of hp 0 rfl) rfl
      refine ⟨rfl, 13, #[.agg #[.int .i64 r0, .int .i64 r1]], ?_, ?_⟩
      · simp only [execOp, resolve, List.map_toArray, List.map_cons, List.map_nil, e0]
        rfl
      · refine (load_Right.calls r0 r1 false _ HR.out).mono ?_
        rintro e W1_ ⟨rfl, hb⟩
        exact ⟨_, rfl, hb, rfl⟩
    · refine owes_pv0 (fun E vs a W_ hI hE hp => ?_)
      have e0 : a.eval (.tmp 69) = .bool false := hI.pv 1 rfl rfl (pred_of hp 1 rfl) rfl
      refine ⟨rfl, _, ?_, rfl⟩
      simp only [execOp, e0]
      first
      | rfl
      | (go_simp; done)
      | (go_simp; simp; done)
    · refine owes_pv0 (fun E vs a W_ hI hE hp => ?_)
      have e0 : a.eval (.tmp 70) = .bool true := hI.pv 2 rfl rfl (pred_of hp 2 rfl) rfl
      refine ⟨rfl, _, ?_, rfl⟩
      simp only [execOp, e0]
      first
      | rfl
      | (go_simp; done)
      | (go_simp; simp; done)
    · exact owes_pvs (fun E vs a W_ hI hE hp => ⟨unwanted_of hI 3 rfl rfl rfl rfl (show a.eval (.tmp 71) = .bool true from hI.pv 3 rfl rfl (pred_of hp 3 rfl) rfl) (fun c hc => by first | (cases hc; decide) | cases hc), rfl⟩)
    · exact owes_pvs (fun E vs a W_ hI hE hp => ⟨unwanted_of hI 3 rfl rfl rfl rfl (show a.eval (.tmp 71) = .bool true from hI.pv 3 rfl rfl (pred_of hp 3 rfl) rfl) (fun c hc => by first | (cases hc; decide) | cases hc), rfl⟩)
    · exact owes_pvs (fun E vs a W_ hI hE hp => ⟨unwanted_of hI 3 rfl rfl rfl rfl (show a.eval (.tmp 71) = .bool true from hI.pv 3 rfl rfl (pred_of hp 3 rfl) rfl) (fun c hc => by first | (cases hc; decide) | cases hc), rfl⟩)
    · exact owes_pvs (fun E vs a W_ hI hE hp => ⟨unwanted_of hI 3 rfl rfl rfl rfl (show a.eval (.tmp 71) = .bool true from hI.pv 3 rfl rfl (pred_of hp 3 rfl) rfl) (fun c hc => by first | (cases hc; decide) | cases hc), rfl⟩)
    · refine owes_pv0 (fun E vs a W_ hI hE hp => ?_)
      have e0 : a.eval (.tmp 71) = .bool true := hI.pv 3 rfl rfl (pred_of hp 3 rfl) rfl
      have e1 : a.eval (.tmp 75) = undef := hI.pv 7 rfl rfl (pred_of hp 7 rfl) rfl
      refine ⟨rfl, _, ?_, rfl⟩
      simp only [execOp, e0, e1]
      first
      | rfl
      | (go_simp; done)
      | (go_simp; simp; done)
    · refine owes_pv0 (fun E vs a W_ hI hE hp => ?_)
      have e0 : a.eval (.tmp 76) = .bool true := hI.pv 8 rfl rfl (pred_of hp 8 rfl) rfl
      refine ⟨rfl, _, ?_, rfl⟩
      simp only [execOp, e0]
      first
      | rfl
      | (go_simp; done)
      | (go_simp; simp; done)
    · exact owes_pvs (fun E vs a W_ hI hE hp => ⟨unwanted_of hI 9 rfl rfl rfl rfl (show a.eval (.tmp 77) = .bool true from hI.pv 9 rfl rfl (pred_of hp 9 rfl) rfl) (fun c hc => by first | (cases hc; decide) | cases hc), rfl⟩)
    · exact owes_pvs (fun E vs a W_ hI hE hp => ⟨unwanted_of hI 9 rfl rfl rfl rfl (show a.eval (.tmp 77) = .bool true from hI.pv 9 rfl rfl (pred_of hp 9 rfl) rfl) (fun c hc => by first | (cases hc; decide) | cases hc), rfl⟩)
    · exact owes_pvs (fun E vs a W_ hI hE hp => ⟨unwanted_of hI 9 rfl rfl rfl rfl (show a.eval (.tmp 77) = .bool true from hI.pv 9 rfl rfl (pred_of hp 9 rfl) rfl) (fun c hc => by first | (cases hc; decide) | cases hc), rfl⟩)
    · exact owes_pvs (fun E vs a W_ hI hE hp => ⟨unwanted_of hI 9 rfl rfl rfl rfl (show a.eval (.tmp 77) = .bool true from hI.pv 9 rfl rfl (pred_of hp 9 rfl) rfl) (fun c hc => by first | (cases hc; decide) | cases hc), rfl⟩)
    · exact owes_pvs (fun E vs a W_ hI hE hp => ⟨unwanted_of hI 13 rfl rfl rfl rfl (show a.eval (.tmp 81) = undef from hI.pv 13 rfl rfl (pred_of hp 13 rfl) rfl) (fun c hc => by first | (cases hc; decide) | cases hc), rfl⟩)
    · exact owes_pvs (fun E vs a W_ hI hE hp => ⟨unwanted_of hI 13 rfl rfl rfl rfl (show a.eval (.tmp 81) = undef from hI.pv 13 rfl rfl (pred_of hp 13 rfl) rfl) (fun c hc => by first | (cases hc; decide) | cases hc), rfl⟩)
    · exact owes_pvs (fun E vs a W_ hI hE hp => ⟨unwanted_of hI 13 rfl rfl rfl rfl (show a.eval (.tmp 81) = undef from hI.pv 13 rfl rfl (pred_of hp 13 rfl) rfl) (fun c hc => by first | (cases hc; decide) | cases hc), rfl⟩)
    · exact owes_pvs (fun E vs a W_ hI hE hp => ⟨unwanted_of hI 13 rfl rfl rfl rfl (show a.eval (.tmp 81) = undef from hI.pv 13 rfl rfl (pred_of hp 13 rfl) rfl) (fun c hc => by first | (cases hc; decide) | cases hc), rfl⟩)
    · exact owes_pvs (fun E vs a W_ hI hE hp => ⟨unwanted_of hI 13 rfl rfl rfl rfl (show a.eval (.tmp 81) = undef from hI.pv 13 rfl rfl (pred_of hp 13 rfl) rfl) (fun c hc => by first | (cases hc; decide) | cases hc), rfl⟩)
    · exact owes_pvs (fun E vs a W_ hI hE hp => ⟨unwanted_of hI 9 rfl rfl rfl rfl (show a.eval (.tmp 77) = .bool true from hI.pv 9 rfl rfl (pred_of hp 9 rfl) rfl) (fun c hc => by first | (cases hc; decide) | cases hc), rfl⟩)
    · refine owes_pv0 (fun E vs a W_ hI hE hp => ?_)
      have e0 : a.eval (.tmp 77) = .bool true := hI.pv 9 rfl rfl (pred_of hp 9 rfl) rfl
      have e1 : a.eval (.tmp 87) = undef := hI.pv 19 rfl rfl (pred_of hp 19 rfl) rfl
      refine ⟨rfl, _, ?_, rfl⟩
      simp only [execOp, e0, e1]
      first
      | rfl
      | (go_simp; done)
      | (go_simp; simp; done)
    · refine owes_pv0 (fun E vs a W_ hI hE hp => ?_)
      have e0 : a.eval (.tmp 88) = .bool true := hI.pv 20 rfl rfl (pred_of hp 20 rfl) rfl
      refine ⟨rfl, _, ?_, rfl⟩
      simp only [execOp, e0]
      first
      | rfl
      | (go_simp; done)
      | (go_simp; simp; done)
  case hend =>
  intro E vs a W hI hall
  have e1 : a.tmps.getD 8 undef = .bool true := hI.pv 21 rfl rfl (hall 21 (by decide)) rfl
  have e2 : a.defers = [] := hI.defers
  have hb := hI.world.2
  clear hI hall
  go_wp2
  refine bodyPost_ret (v := .bool true) ((results_tmp (t := 8) rfl _ _ _).trans (by rw [e1])) e2 ⟨rfl, below_step BW.out hb⟩

set_option maxHeartbeats 8000000 in
set_option maxRecDepth 100000 in
theorem loadAdds_way010 (a0 a1 b0 b1 r0 r1 more x0 x1 n0 n1 m0 m1 : Int) (w : World)
    (hA : load_Add.f 5 a0 a1 b0 b1 = some (x0, x1, false)) (hB : load_Add.f 5 b0 b1 a0 a1 = some (x0, x1, false)) (hN : load_Neg.f b0 b1 = some (n0, n1))
    (hR : load_Right.f r0 r1 = some true) (hF : load_Fits.f r0 r1 a0 a1 = some false) :
    Calls Try.prog 6 #[.agg #[.int .i64 a0, .int .i64 a1], .agg #[.int .i64 b0, .int .i64 b1], .agg #[.int .i64 r0, .int .i64 r1], .int .i64 more] w fun e w' => e = .returned (.bool true) ∧ Below w.heap.size w w' := by
  have hu23 := Try.underlying23
  have hu3 := Try.underlying3
  have HA := Aside0.mk hA
  have HB := Aside0.mk hB
  have HN := Aside0.mk hN
  have HR := Aside0.mk hR
  have HF := Aside0.mk hF
  clear hA hB hN hR hF
  go_enter Try.func6, Try.ntmps6
  go_wp2_with (first | (go_at_call 8; (with_reducible refine (jitneylaw04_alive.calls true _ rfl).mono ?_); rintro e w0 ⟨rfl, hb⟩; have b1_ := blk_below (g := w.heap.size) (o := .cells #[.int .i64 a0, .int .i64 a1] 23 (0, 0)) (blk_alloc (blk_alloc (blk_new w _) _) _) hb; have b2_ := blk_below (g := w.heap.size + 1) (o := .cells #[.int .i64 b0, .int .i64 b1] 23 (0, 0)) (blk_alloc (heap_alloc2_new w _ _) _) hb; have b3_ := blk_below (g := w.heap.size + 1 + 1) (o := .cells #[.int .i64 r0, .int .i64 r1] 23 (0, 0)) (heap_alloc3_new w _ _ _) hb; have HB_w0 := Aside0.mk hb; have F1_ := Aside0.mk b1_; have cb1_0 := (blk_cell b1_ 0).trans rfl; have zb1_0 := blk_frozen b1_ 0; have cb1_1 := (blk_cell b1_ 1).trans rfl; have zb1_1 := blk_frozen b1_ 1; have lb1_ := blk_lt b1_; clear b1_; have F2_ := Aside0.mk b2_; have cb2_0 := (blk_cell b2_ 0).trans rfl; have zb2_0 := blk_frozen b2_ 0; have cb2_1 := (blk_cell b2_ 1).trans rfl; have zb2_1 := blk_frozen b2_ 1; have lb2_ := blk_lt b2_; clear b2_; have F3_ := Aside0.mk b3_; have cb3_0 := (blk_cell b3_ 0).trans rfl; have zb3_0 := blk_frozen b3_ 0; have cb3_1 := (blk_cell b3_ 1).trans rfl; have zb3_1 := blk_frozen b3_ 1; have lb3_ := blk_lt b3_; clear b3_; clear hb) | (go_at_call 9; (with_reducible refine (load_Add.calls 5 a0 a1 b0 b1 x0 x1 false _ HA.out).mono ?_); rintro e w1 ⟨rfl, hb⟩; clear cb1_0 zb1_0 cb1_1 zb1_1 lb1_ cb2_0 zb2_0 cb2_1 zb2_1 lb2_ cb3_0 zb3_0 cb3_1 zb3_1 lb3_; have b4_ := blk_below (g := w.heap.size) (o := .cells #[.int .i64 a0, .int .i64 a1] 23 (0, 0)) (by (with_reducible repeat (first | refine blk_drewN ?_ _ | refine blk_drew ?_ | refine blk_alloc ?_ _)); exact F1_.out) hb; have b5_ := blk_below (g := w.heap.size + 1) (o := .cells #[.int .i64 b0, .int .i64 b1] 23 (0, 0)) (by (with_reducible repeat (first | refine blk_drewN ?_ _ | refine blk_drew ?_ | refine blk_alloc ?_ _)); exact F2_.out) hb; have b6_ := blk_below (g := w.heap.size + 1 + 1) (o := .cells #[.int .i64 r0, .int .i64 r1] 23 (0, 0)) (by (with_reducible repeat (first | refine blk_drewN ?_ _ | refine blk_drew ?_ | refine blk_alloc ?_ _)); exact F3_.out) hb; have HB_w1 := Aside0.mk hb; have F4_ := Aside0.mk b4_; have cb4_0 := (blk_cell b4_ 0).trans rfl; have zb4_0 := blk_frozen b4_ 0; have cb4_1 := (blk_cell b4_ 1).trans rfl; have zb4_1 := blk_frozen b4_ 1; have lb4_ := blk_lt b4_; clear b4_; have F5_ := Aside0.mk b5_; have cb5_0 := (blk_cell b5_ 0).trans rfl; have zb5_0 := blk_frozen b5_ 0; have cb5_1 := (blk_cell b5_ 1).trans rfl; have zb5_1 := blk_frozen b5_ 1; have lb5_ := blk_lt b5_; clear b5_; have F6_ := Aside0.mk b6_; have cb6_0 := (blk_cell b6_ 0).trans rfl; have zb6_0 := blk_frozen b6_ 0; have cb6_1 := (blk_cell b6_ 1).trans rfl; have zb6_1 := blk_frozen b6_ 1; have lb6_ := blk_lt b6_; clear b6_; clear hb) | (go_at_call 9; (with_reducible refine (load_Add.calls 5 b0 b1 a0 a1 x0 x1 false _ HB.out).mono ?_); rintro e w2 ⟨rfl, hb⟩; clear cb4_0 zb4_0 cb4_1 zb4_1 lb4_ cb5_0 zb5_0 cb5_1 zb5_1 lb5_ cb6_0 zb6_0 cb6_1 zb6_1 lb6_; have b7_ := blk_below (g := w.heap.size) (o := .cells #[.int .i64 a0, .int .i64 a1] 23 (0, 0)) (by (with_reducible repeat (first | refine blk_drewN ?_ _ | refine blk_drew ?_ | refine blk_alloc ?_ _)); exact F4_.out) hb; have b8_ := blk_below (g := w.heap.size + 1) (o := .cells #[.int .i64 b0, .int .i64 b1] 23 (0, 0)) (by (with_reducible repeat (first | refine blk_drewN ?_ _ | refine blk_drew ?_ | refine blk_alloc ?_ _)); exact F5_.out) hb; have b9_ := blk_below (g := w.heap.size + 1 + 1) (o := .cells #[.int .i64 r0, .int .i64 r1] 23 (0, 0)) (by (with_reducible repeat (first | refine blk_drewN ?_ _ | refine blk_drew ?_ | refine blk_alloc ?_ _)); exact F6_.out) hb; have b10_ := blk_below (g := w1.heap.size) (o := .cells #[.int .i64 x0, .int .i64 x1] 23 (0, 0)) (blk_new w1 _) hb; have HB_w2 := Aside0.mk hb; have F7_ := Aside0.mk b7_; have cb7_0 := (blk_cell b7_ 0).trans rfl; have zb7_0 := blk_frozen b7_ 0; have cb7_1 := (blk_cell b7_ 1).trans rfl; have zb7_1 := blk_frozen b7_ 1; have lb7_ := blk_lt b7_; clear b7_; have F8_ := Aside0.mk b8_; have cb8_0 := (blk_cell b8_ 0).trans rfl; have zb8_0 := blk_frozen b8_ 0; have cb8_1 := (blk_cell b8_ 1).trans rfl; have zb8_1 := blk_frozen b8_ 1; have lb8_ := blk_lt b8_; clear b8_; have F9_ := Aside0.mk b9_; have cb9_0 := (blk_cell b9_ 0).trans rfl; have zb9_0 := blk_frozen b9_ 0; have cb9_1 := (blk_cell b9_ 1).trans rfl; have zb9_1 := blk_frozen b9_ 1; have lb9_ := blk_lt b9_; clear b9_; have F10_ := Aside0.mk b10_; have cb10_0 := (blk_cell b10_ 0).trans rfl; have zb10_0 := blk_frozen b10_ 0; have cb10_1 := (blk_cell b10_ 1).trans rfl; have zb10_1 := blk_frozen b10_ 1; have lb10_ := blk_lt b10_; clear b10_; clear hb) | (go_at_call 13; (with_reducible refine (load_Right.calls r0 r1 true _ HR.out).mono ?_); rintro e w4 ⟨rfl, hb⟩; clear cb7_0 zb7_0 cb7_1 zb7_1 lb7_ cb8_0 zb8_0 cb8_1 zb8_1 lb8_ cb9_0 zb9_0 cb9_1 zb9_1 lb9_ cb10_0 zb10_0 cb10_1 zb10_1 lb10_; have b11_ := blk_below (g := w.heap.size) (o := .cells #[.int .i64 a0, .int .i64 a1] 23 (0, 0)) (by (with_reducible repeat (first | refine blk_drewN ?_ _ | refine blk_drew ?_ | refine blk_alloc ?_ _)); exact F7_.out) hb; have b12_ := blk_below (g := w.heap.size + 1) (o := .cells #[.int .i64 b0, .int .i64 b1] 23 (0, 0)) (by (with_reducible repeat (first | refine blk_drewN ?_ _ | refine blk_drew ?_ | refine blk_alloc ?_ _)); exact F8_.out) hb; have b13_ := blk_below (g := w.heap.size + 1 + 1) (o := .cells #[.int .i64 r0, .int .i64 r1] 23 (0, 0)) (by (with_reducible repeat (first | refine blk_drewN ?_ _ | refine blk_drew ?_ | refine blk_alloc ?_ _)); exact F9_.out) hb; have b14_ := blk_below (g := w1.heap.size) (o := .cells #[.int .i64 x0, .int .i64 x1] 23 (0, 0)) (by (with_reducible repeat (first | refine blk_drewN ?_ _ | refine blk_drew ?_ | refine blk_alloc ?_ _)); exact F10_.out) hb; have b15_ := blk_below (g := w2.heap.size) (o := .cells #[.int .i64 x0, .int .i64 x1] 23 (0, 0)) (blk_alloc (blk_new w2 _) _) hb; have b16_ := blk_below (g := w2.heap.size + 1) (o := .cells #[.int .i64 r0, .int .i64 r1] 23 (0, 0)) (heap_alloc2_new w2 _ _) hb; have HB_w4 := Aside0.mk hb; have F11_ := Aside0.mk b11_; have cb11_0 := (blk_cell b11_ 0).trans rfl; have zb11_0 := blk_frozen b11_ 0; have cb11_1 := (blk_cell b11_ 1).trans rfl; have zb11_1 := blk_frozen b11_ 1; have lb11_ := blk_lt b11_; clear b11_; have F12_ := Aside0.mk b12_; have cb12_0 := (blk_cell b12_ 0).trans rfl; have zb12_0 := blk_frozen b12_ 0; have cb12_1 := (blk_cell b12_ 1).trans rfl; have zb12_1 := blk_frozen b12_ 1; have lb12_ := blk_lt b12_; clear b12_; have F13_ := Aside0.mk b13_; have cb13_0 := (blk_cell b13_ 0).trans rfl; have zb13_0 := blk_frozen b13_ 0; have cb13_1 := (blk_cell b13_ 1).trans rfl; have zb13_1 := blk_frozen b13_ 1; have lb13_ := blk_lt b13_; clear b13_; have F14_ := Aside0.mk b14_; have cb14_0 := (blk_cell b14_ 0).trans rfl; have zb14_0 := blk_frozen b14_ 0; have cb14_1 := (blk_cell b14_ 1).trans rfl; have zb14_1 := blk_frozen b14_ 1; have lb14_ := blk_lt b14_; clear b14_; have F15_ := Aside0.mk b15_; have cb15_0 := (blk_cell b15_ 0).trans rfl; have zb15_0 := blk_frozen b15_ 0; have cb15_1 := (blk_cell b15_ 1).trans rfl; have zb15_1 := blk_frozen b15_ 1; have lb15_ := blk_lt b15_; clear b15_; have F16_ := Aside0.mk b16_; have cb16_0 := (blk_cell b16_ 0).trans rfl; have zb16_0 := blk_frozen b16_ 0; have cb16_1 := (blk_cell b16_ 1).trans rfl; have zb16_1 := blk_frozen b16_ 1; have lb16_ := blk_lt b16_; clear b16_; clear hb))
  have BW := Aside0.mk (below_step (below_alloc (below_alloc (below_step (below_alloc (below_step (below_step (below_alloc (below_alloc (below_alloc (Below.refl _ _) _) _) _) HB_w0.out) HB_w1.out) _) HB_w2.out) _) _) HB_w4.out)
  have GE15 := Aside0.mk (show w.heap.size ≤ w2.heap.size + 1 from Nat.le_succ_of_le (below_size (below_step (below_alloc (below_step (below_step (below_alloc (below_alloc (below_alloc (Below.refl _ _) _) _) _) HB_w0.out) HB_w1.out) _) HB_w2.out)))
  have NE4 := Aside0.mk (show w.heap.size ≠ w2.heap.size + 1 by have s_HB_w0 := HB_w0.out.size; (try simp at s_HB_w0); have s_HB_w1 := HB_w1.out.size; (try simp at s_HB_w1); have s_HB_w2 := HB_w2.out.size; (try simp at s_HB_w2); omega)
  have NE6 := Aside0.mk (show w.heap.size + 1 + 1 ≠ w2.heap.size + 1 by have s_HB_w0 := HB_w0.out.size; (try simp at s_HB_w0); have s_HB_w1 := HB_w1.out.size; (try simp at s_HB_w1); have s_HB_w2 := HB_w2.out.size; (try simp at s_HB_w2); omega)
  clear cb11_0 zb11_0 cb11_1 zb11_1 lb11_ cb12_0 zb12_0 cb12_1 zb12_1 lb12_ cb13_0 zb13_0 cb13_1 zb13_1 lb13_ cb14_0 zb14_0 cb14_1 zb14_1 lb14_ cb15_0 zb15_0 cb15_1 zb15_1 lb15_ cb16_0 zb16_0 cb16_1 zb16_1 lb16_
  obtain ⟨w6, hw6⟩ : ∃ w6, w6 = (w4.setCell ⟨w2.heap.size + 1, 0, none⟩ (.int .i64 (wrap64 (r0 + Go.bits .and .i64 more 1023)))).setCell ⟨w2.heap.size + 1, 1, none⟩ (.int .i64 (wrap64 (r1 + Go.bits .and .i64 more 255))) := ⟨_, rfl⟩
  rw [← hw6]
  have b4x : w6.heap[w.heap.size]? = some (.cells #[.int .i64 a0, .int .i64 a1] 23 (0, 0)) := by rw [hw6]; exact blk_far (blk_far F11_.out NE4.out _) NE4.out _
  have b6x : w6.heap[(w.heap.size + 1 + 1)]? = some (.cells #[.int .i64 r0, .int .i64 r1] 23 (0, 0)) := by rw [hw6]; exact blk_far (blk_far F13_.out NE6.out _) NE6.out _
  have b15x : w6.heap[w2.heap.size + 1]? = some (.cells #[.int .i64 (wrap64 (r0 + Go.bits .and .i64 more 1023)), .int .i64 (wrap64 (r1 + Go.bits .and .i64 more 255))] 23 (0, 0)) := by rw [hw6]; exact blk_put (blk_put (cs' := #[.int .i64 (wrap64 (r0 + Go.bits .and .i64 more 1023)), .int .i64 r1]) F16_.out 0 _ rfl) 1 _ rfl
  have BW6 := Aside0.mk (show Below w.heap.size w w6 by rw [hw6]; exact below_set (below_set BW.out GE15.out) GE15.out)
  clear BW hw6
  have BW := BW6
  have C4 := Aside0.mk b4x
  have C6 := Aside0.mk b6x
  have C15 := Aside0.mk b15x
  clear b4x b6x b15x
  refine wp_region_pv [.val (.agg #[.int .i64 r0, .int .i64 r1]), .val (.bool true), .val (.bool false), .val (.bool false), .val (.agg #[.int .i64 r0, .int .i64 r1]), .val (.agg #[.int .i64 a0, .int .i64 a1]), .val (.bool false), .val (.bool true), .val (.bool true), .val (.bool true), .val (undef), .val (undef), .val (undef), .val (undef), .val (undef), .val (undef), .val (undef), .val (undef), .val (undef), .val (undef), .val (.bool true), .val (.bool true)] rfl (by kernel_rfl) ?howes ?hend
  case howes =>
    refine ⟨?_, ?_, ?_, ?_, ?_, ?_, ?_, ?_, ?_, ?_, ?_, ?_, ?_, ?_, ?_, ?_, ?_, ?_, ?_, ?_, ?_, ?_, trivial⟩
    · refine owes_pv0 (fun E vs a W_ hI hE hp => ?_)
      have e0 : a.eval (.tmp 6) = .pointer (some ⟨(w.heap.size + 1 + 1), 0, none⟩) := hI.outer (d := 6) (by rfl) rfl
      have hb := blk_below C6.out hI.world.2
      have q0 := (blk_cell hb 0).trans rfl
      have q1 := (blk_cell hb 1).trans rfl
      clear hb
      refine ⟨rfl, _, ?_, rfl⟩
      simp only [execOp, e0]
      go_simp
    · refine owes_pvc (fun E vs a W_ hI hE hp => ?_)
      have e0 : a.eval (.tmp 68) = .agg #[.int .i64 r0, .int .i64 r1] := hI.pv 0 rfl rfl (pred_of hp 0 rfl) rfl
      refine ⟨rfl, 13, #[.agg #[.int .i64 r0, .int .i64 r1]], ?_, ?_⟩
      · simp only [execOp, resolve, List.map_toArray, List.map_cons, List.map_nil, e0]
        rfl
      · refine (load_Right.calls r0 r1 true _ HR.out).mono ?_
        rintro e W1_ ⟨rfl, hb⟩
        exact ⟨_, rfl, hb, rfl⟩
    · refine owes_pv0 (fun E vs a W_ hI hE hp => ?_)
      have e0 : a.eval (.tmp 69) = .bool true := hI.pv 1 rfl rfl (pred_of hp 1 rfl) rfl
      refine ⟨rfl, _, ?_, rfl⟩
      simp only [execOp, e0]
      first
      | rfl
      | (go_simp; done)
      | (go_simp; simp; done)
    · refine owes_pv0 (fun E vs a W_ hI hE hp => ?_)
      have e0 : a.eval (.tmp 70) = .bool false := hI.pv 2 rfl rfl (pred_of hp 2 rfl) rfl
      refine ⟨rfl, _, ?_, rfl⟩
      simp only [execOp, e0]
      first
      | rfl
      | (go_simp; done)
      | (go_simp; simp; done)
    · refine owes_pv0 (fun E vs a W_ hI hE hp => ?_)
      have e0 : a.eval (.tmp 6) = .pointer (some ⟨(w.heap.size + 1 + 1), 0, none⟩) := hI.outer (d := 6) (by rfl) rfl
      have hb := blk_below C6.out hI.world.2
      have q0 := (blk_cell hb 0).trans rfl
      have q1 := (blk_cell hb 1).trans rfl
      clear hb
      refine ⟨wanted_of hI 3 rfl rfl rfl rfl (show a.eval (.tmp 71) = .bool false from hI.pv 3 rfl rfl (pred_of hp 3 rfl) rfl), _, ?_, rfl⟩
      simp only [execOp, e0]
      go_simp
    · refine owes_pv0 (fun E vs a W_ hI hE hp => ?_)
      have e0 : a.eval (.tmp 4) = .pointer (some ⟨w.heap.size, 0, none⟩) := hI.outer (d := 4) (by rfl) rfl
      have hb := blk_below C4.out hI.world.2
      have q0 := (blk_cell hb 0).trans rfl
      have q1 := (blk_cell hb 1).trans rfl
      clear hb
      refine ⟨wanted_of hI 3 rfl rfl rfl rfl (show a.eval (.tmp 71) = .bool false from hI.pv 3 rfl rfl (pred_of hp 3 rfl) rfl), _, ?_, rfl⟩
      simp only [execOp, e0]
      go_simp
    · refine owes_pvc (fun E vs a W_ hI hE hp => ?_)
      have e0 : a.eval (.tmp 72) = .agg #[.int .i64 r0, .int .i64 r1] := hI.pv 4 rfl rfl (pred_of hp 4 rfl) rfl
      have e1 : a.eval (.tmp 73) = .agg #[.int .i64 a0, .int .i64 a1] := hI.pv 5 rfl rfl (pred_of hp 5 rfl) rfl
      refine ⟨wanted_of hI 3 rfl rfl rfl rfl (show a.eval (.tmp 71) = .bool false from hI.pv 3 rfl rfl (pred_of hp 3 rfl) rfl), 15, #[.agg #[.int .i64 r0, .int .i64 r1], .agg #[.int .i64 a0, .int .i64 a1]], ?_, ?_⟩
      · simp only [execOp, resolve, List.map_toArray, List.map_cons, List.map_nil, e0, e1]
        rfl
      · refine (load_Fits.calls r0 r1 a0 a1 false _ HF.out).mono ?_
        rintro e W1_ ⟨rfl, hb⟩
        exact ⟨_, rfl, hb, rfl⟩
    · refine owes_pv0 (fun E vs a W_ hI hE hp => ?_)
      have e0 : a.eval (.tmp 74) = .bool false := hI.pv 6 rfl rfl (pred_of hp 6 rfl) rfl
      refine ⟨wanted_of hI 3 rfl rfl rfl rfl (show a.eval (.tmp 71) = .bool false from hI.pv 3 rfl rfl (pred_of hp 3 rfl) rfl), _, ?_, rfl⟩
      simp only [execOp, e0]
      first
      | rfl
      | (go_simp; done)
      | (go_simp; simp; done)
    · refine owes_pv0 (fun E vs a W_ hI hE hp => ?_)
      have e0 : a.eval (.tmp 71) = .bool false := hI.pv 3 rfl rfl (pred_of hp 3 rfl) rfl
      have e1 : a.eval (.tmp 75) = .bool true := hI.pv 7 rfl rfl (pred_of hp 7 rfl) rfl
      refine ⟨rfl, _, ?_, rfl⟩
      simp only [execOp, e0, e1]
      first
      | rfl
      | (go_simp; done)
      | (go_simp; simp; done)
    · refine owes_pv0 (fun E vs a W_ hI hE hp => ?_)
      have e0 : a.eval (.tmp 76) = .bool true := hI.pv 8 rfl rfl (pred_of hp 8 rfl) rfl
      refine ⟨rfl, _, ?_, rfl⟩
      simp only [execOp, e0]
      first
      | rfl
      | (go_simp; done)
      | (go_simp; simp; done)
    · exact owes_pvs (fun E vs a W_ hI hE hp => ⟨unwanted_of hI 9 rfl rfl rfl rfl (show a.eval (.tmp 77) = .bool true from hI.pv 9 rfl rfl (pred_of hp 9 rfl) rfl) (fun c hc => by first | (cases hc; decide) | cases hc), rfl⟩)
    · exact owes_pvs (fun E vs a W_ hI hE hp => ⟨unwanted_of hI 9 rfl rfl rfl rfl (show a.eval (.tmp 77) = .bool true from hI.pv 9 rfl rfl (pred_of hp 9 rfl) rfl) (fun c hc => by first | (cases hc; decide) | cases hc), rfl⟩)
    · exact owes_pvs (fun E vs a W_ hI hE hp => ⟨unwanted_of hI 9 rfl rfl rfl rfl (show a.eval (.tmp 77) = .bool true from hI.pv 9 rfl rfl (pred_of hp 9 rfl) rfl) (fun c hc => by first | (cases hc; decide) | cases hc), rfl⟩)
    · exact owes_pvs (fun E vs a W_ hI hE hp => ⟨unwanted_of hI 9 rfl rfl rfl rfl (show a.eval (.tmp 77) = .bool true from hI.pv 9 rfl rfl (pred_of hp 9 rfl) rfl) (fun c hc => by first | (cases hc; decide) | cases hc), rfl⟩)
    · exact owes_pvs (fun E vs a W_ hI hE hp => ⟨unwanted_of hI 13 rfl rfl rfl rfl (show a.eval (.tmp 81) = undef from hI.pv 13 rfl rfl (pred_of hp 13 rfl) rfl) (fun c hc => by first | (cases hc; decide) | cases hc), rfl⟩)
    · exact owes_pvs (fun E vs a W_ hI hE hp => ⟨unwanted_of hI 13 rfl rfl rfl rfl (show a.eval (.tmp 81) = undef from hI.pv 13 rfl rfl (pred_of hp 13 rfl) rfl) (fun c hc => by first | (cases hc; decide) | cases hc), rfl⟩)
    · exact owes_pvs (fun E vs a W_ hI hE hp => ⟨unwanted_of hI 13 rfl rfl rfl rfl (show a.eval (.tmp 81) = undef from hI.pv 13 rfl rfl (pred_of hp 13 rfl) rfl) (fun c hc => by first | (cases hc; decide) | cases hc), rfl⟩)
    · exact owes_pvs (fun E vs a W_ hI hE hp => ⟨unwanted_of hI 13 rfl rfl rfl rfl (show a.eval (.tmp 81) = undef from hI.pv 13 rfl rfl (pred_of hp 13 rfl) rfl) (fun c hc => by first | (cases hc; decide) | cases hc), rfl⟩)
    · exact owes_pvs (fun E vs a W_ hI hE hp => ⟨unwanted_of hI 13 rfl rfl rfl rfl (show a.eval (.tmp 81) = undef from hI.pv 13 rfl rfl (pred_of hp 13 rfl) rfl) (fun c hc => by first | (cases hc; decide) | cases hc), rfl⟩)
    · exact owes_pvs (fun E vs a W_ hI hE hp => ⟨unwanted_of hI 9 rfl rfl rfl rfl (show a.eval (.tmp 77) = .bool true from hI.pv 9 rfl rfl (pred_of hp 9 rfl) rfl) (fun c hc => by first | (cases hc; decide) | cases hc), rfl⟩)
    · refine owes_pv0 (fun E vs a W_ hI hE hp => ?_)
      have e0 : a.eval (.tmp 77) = .bool true := hI.pv 9 rfl rfl (pred_of hp 9 rfl) rfl
      have e1 : a.eval (.tmp 87) = undef := hI.pv 19 rfl rfl (pred_of hp 19 rfl) rfl
      refine ⟨rfl, _, ?_, rfl⟩
      simp only [execOp, e0, e1]
      first
      | rfl
      | (go_simp; done)
      | (go_simp; simp; done)
    · refine owes_pv0 (fun E vs a W_ hI hE hp => ?_)
      have e0 : a.eval (.tmp 88) = .bool true := hI.pv 20 rfl rfl (pred_of hp 20 rfl) rfl
      refine ⟨rfl, _, ?_, rfl⟩
      simp only [execOp, e0]
      first
      | rfl
      | (go_simp; done)
      | (go_simp; simp; done)
  case hend =>
  intro E vs a W hI hall
  have e1 : a.tmps.getD 8 undef = .bool true := hI.pv 21 rfl rfl (hall 21 (by decide)) rfl
  have e2 : a.defers = [] := hI.defers
  have hb := hI.world.2
  clear hI hall
  go_wp2
  refine bodyPost_ret (v := .bool true) ((results_tmp (t := 8) rfl _ _ _).trans (by rw [e1])) e2 ⟨rfl, below_step BW.out hb⟩

set_option maxHeartbeats 8000000 in
set_option maxRecDepth 100000 in
theorem loadAdds_way011 (a0 a1 b0 b1 r0 r1 more x0 x1 n0 n1 m0 m1 : Int) (w : World)
    (hA : load_Add.f 5 a0 a1 b0 b1 = some (x0, x1, false)) (hB : load_Add.f 5 b0 b1 a0 a1 = some (x0, x1, false)) (hN : load_Neg.f b0 b1 = some (n0, n1))
    (hR : load_Right.f r0 r1 = some true) (hF : load_Fits.f r0 r1 a0 a1 = some true) (hG : load_Fits.f (wrap64 (r0 + Go.bits .and .i64 more 1023)) (wrap64 (r1 + Go.bits .and .i64 more 255)) a0 a1 = some true) (hM : load_Neg.f a0 a1 = some (m0, m1)) (hK : load_Neg.f m0 m1 = some (a0, a1)) :
    Calls Try.prog 6 #[.agg #[.int .i64 a0, .int .i64 a1], .agg #[.int .i64 b0, .int .i64 b1], .agg #[.int .i64 r0, .int .i64 r1], .int .i64 more] w fun e w' => e = .returned (.bool true) ∧ Below w.heap.size w w' := by
  have hu23 := Try.underlying23
  have hu3 := Try.underlying3
  have HA := Aside0.mk hA
  have HB := Aside0.mk hB
  have HN := Aside0.mk hN
  have HR := Aside0.mk hR
  have HF := Aside0.mk hF
  have HG := Aside0.mk hG
  have HM := Aside0.mk hM
  have HK := Aside0.mk hK
  clear hA hB hN hR hF hG hM hK
  go_enter Try.func6, Try.ntmps6
  go_wp2_with (first | (go_at_call 8; (with_reducible refine (jitneylaw04_alive.calls true _ rfl).mono ?_); rintro e w0 ⟨rfl, hb⟩; have b1_ := blk_below (g := w.heap.size) (o := .cells #[.int .i64 a0, .int .i64 a1] 23 (0, 0)) (blk_alloc (blk_alloc (blk_new w _) _) _) hb; have b2_ := blk_below (g := w.heap.size + 1) (o := .cells #[.int .i64 b0, .int .i64 b1] 23 (0, 0)) (blk_alloc (heap_alloc2_new w _ _) _) hb; have b3_ := blk_below (g := w.heap.size + 1 + 1) (o := .cells #[.int .i64 r0, .int .i64 r1] 23 (0, 0)) (heap_alloc3_new w _ _ _) hb; have HB_w0 := Aside0.mk hb; have F1_ := Aside0.mk b1_; have cb1_0 := (blk_cell b1_ 0).trans rfl; have zb1_0 := blk_frozen b1_ 0; have cb1_1 := (blk_cell b1_ 1).trans rfl; have zb1_1 := blk_frozen b1_ 1; have lb1_ := blk_lt b1_; clear b1_; have F2_ := Aside0.mk b2_; have cb2_0 := (blk_cell b2_ 0).trans rfl; have zb2_0 := blk_frozen b2_ 0; have cb2_1 := (blk_cell b2_ 1).trans rfl; have zb2_1 := blk_frozen b2_ 1; have lb2_ := blk_lt b2_; clear b2_; have F3_ := Aside0.mk b3_; have cb3_0 := (blk_cell b3_ 0).trans rfl; have zb3_0 := blk_frozen b3_ 0; have cb3_1 := (blk_cell b3_ 1).trans rfl; have zb3_1 := blk_frozen b3_ 1; have lb3_ := blk_lt b3_; clear b3_; clear hb) | (go_at_call 9; (with_reducible refine (load_Add.calls 5 a0 a1 b0 b1 x0 x1 false _ HA.out).mono ?_); rintro e w1 ⟨rfl, hb⟩; clear cb1_0 zb1_0 cb1_1 zb1_1 lb1_ cb2_0 zb2_0 cb2_1 zb2_1 lb2_ cb3_0 zb3_0 cb3_1 zb3_1 lb3_; have b4_ := blk_below (g := w.heap.size) (o := .cells #[.int .i64 a0, .int .i64 a1] 23 (0, 0)) (by (with_reducible repeat (first | refine blk_drewN ?_ _ | refine blk_drew ?_ | refine blk_alloc ?_ _)); exact F1_.out) hb; have b5_ := blk_below (g := w.heap.size + 1) (o := .cells #[.int .i64 b0, .int .i64 b1] 23 (0, 0)) (by (with_reducible repeat (first | refine blk_drewN ?_ _ | refine blk_drew ?_ | refine blk_alloc ?_ _)); exact F2_.out) hb; have b6_ := blk_below (g := w.heap.size + 1 + 1) (o := .cells #[.int .i64 r0, .int .i64 r1] 23 (0, 0)) (by (with_reducible repeat (first | refine blk_drewN ?_ _ | refine blk_drew ?_ | refine blk_alloc ?_ _)); exact F3_.out) hb; have HB_w1 := Aside0.mk hb; have F4_ := Aside0.mk b4_; have cb4_0 := (blk_cell b4_ 0).trans rfl; have zb4_0 := blk_frozen b4_ 0; have cb4_1 := (blk_cell b4_ 1).trans rfl; have zb4_1 := blk_frozen b4_ 1; have lb4_ := blk_lt b4_; clear b4_; have F5_ := Aside0.mk b5_; have cb5_0 := (blk_cell b5_ 0).trans rfl; have zb5_0 := blk_frozen b5_ 0; have cb5_1 := (blk_cell b5_ 1).trans rfl; have zb5_1 := blk_frozen b5_ 1; have lb5_ := blk_lt b5_; clear b5_; have F6_ := Aside0.mk b6_; have cb6_0 := (blk_cell b6_ 0).trans rfl; have zb6_0 := blk_frozen b6_ 0; have cb6_1 := (blk_cell b6_ 1).trans rfl; have zb6_1 := blk_frozen b6_ 1; have lb6_ := blk_lt b6_; clear b6_; clear hb) | (go_at_call 9; (with_reducible refine (load_Add.calls 5 b0 b1 a0 a1 x0 x1 false _ HB.out).mono ?_); rintro e w2 ⟨rfl, hb⟩; clear cb4_0 zb4_0 cb4_1 zb4_1 lb4_ cb5_0 zb5_0 cb5_1 zb5_1 lb5_ cb6_0 zb6_0 cb6_1 zb6_1 lb6_; have b7_ := blk_below (g := w.heap.size) (o := .cells #[.int .i64 a0, .int .i64 a1] 23 (0, 0)) (by (with_reducible repeat (first | refine blk_drewN ?_ _ | refine blk_drew ?_ | refine blk_alloc ?_ _)); exact F4_.out) hb; have b8_ := blk_below (g := w.heap.size + 1) (o := .cells #[.int .i64 b0, .int .i64 b1] 23 (0, 0)) (by (with_reducible repeat (first | refine blk_drewN ?_ _ | refine blk_drew ?_ | refine blk_alloc ?_ _)); exact F5_.out) hb; have b9_ := blk_below (g := w.heap.size + 1 + 1) (o := .cells #[.int .i64 r0, .int .i64 r1] 23 (0, 0)) (by (with_reducible repeat (first | refine blk_drewN ?_ _ | refine blk_drew ?_ | refine blk_alloc ?_ _)); exact F6_.out) hb; have b10_ := blk_below (g := w1.heap.size) (o := .cells #[.int .i64 x0, .int .i64 x1] 23 (0, 0)) (blk_new w1 _) hb; have HB_w2 := Aside0.mk hb; have F7_ := Aside0.mk b7_; have cb7_0 := (blk_cell b7_ 0).trans rfl; have zb7_0 := blk_frozen b7_ 0; have cb7_1 := (blk_cell b7_ 1).trans rfl; have zb7_1 := blk_frozen b7_ 1; have lb7_ := blk_lt b7_; clear b7_; have F8_ := Aside0.mk b8_; have cb8_0 := (blk_cell b8_ 0).trans rfl; have zb8_0 := blk_frozen b8_ 0; have cb8_1 := (blk_cell b8_ 1).trans rfl; have zb8_1 := blk_frozen b8_ 1; have lb8_ := blk_lt b8_; clear b8_; have F9_ := Aside0.mk b9_; have cb9_0 := (blk_cell b9_ 0).trans rfl; have zb9_0 := blk_frozen b9_ 0; have cb9_1 := (blk_cell b9_ 1).trans rfl; have zb9_1 := blk_frozen b9_ 1; have lb9_ := blk_lt b9_; clear b9_; have F10_ := Aside0.mk b10_; have cb10_0 := (blk_cell b10_ 0).trans rfl; have zb10_0 := blk_frozen b10_ 0; have cb10_1 := (blk_cell b10_ 1).trans rfl; have zb10_1 := blk_frozen b10_ 1; have lb10_ := blk_lt b10_; clear b10_; clear hb) | (go_at_call 13; (with_reducible refine (load_Right.calls r0 r1 true _ HR.out).mono ?_); rintro e w4 ⟨rfl, hb⟩; clear cb7_0 zb7_0 cb7_1 zb7_1 lb7_ cb8_0 zb8_0 cb8_1 zb8_1 lb8_ cb9_0 zb9_0 cb9_1 zb9_1 lb9_ cb10_0 zb10_0 cb10_1 zb10_1 lb10_; have b11_ := blk_below (g := w.heap.size) (o := .cells #[.int .i64 a0, .int .i64 a1] 23 (0, 0)) (by (with_reducible repeat (first | refine blk_drewN ?_ _ | refine blk_drew ?_ | refine blk_alloc ?_ _)); exact F7_.out) hb; have b12_ := blk_below (g := w.heap.size + 1) (o := .cells #[.int .i64 b0, .int .i64 b1] 23 (0, 0)) (by (with_reducible repeat (first | refine blk_drewN ?_ _ | refine blk_drew ?_ | refine blk_alloc ?_ _)); exact F8_.out) hb; have b13_ := blk_below (g := w.heap.size + 1 + 1) (o := .cells #[.int .i64 r0, .int .i64 r1] 23 (0, 0)) (by (with_reducible repeat (first | refine blk_drewN ?_ _ | refine blk_drew ?_ | refine blk_alloc ?_ _)); exact F9_.out) hb; have b14_ := blk_below (g := w1.heap.size) (o := .cells #[.int .i64 x0, .int .i64 x1] 23 (0, 0)) (by (with_reducible repeat (first | refine blk_drewN ?_ _ | refine blk_drew ?_ | refine blk_alloc ?_ _)); exact F10_.out) hb; have b15_ := blk_below (g := w2.heap.size) (o := .cells #[.int .i64 x0, .int .i64 x1] 23 (0, 0)) (blk_alloc (blk_new w2 _) _) hb; have b16_ := blk_below (g := w2.heap.size + 1) (o := .cells #[.int .i64 r0, .int .i64 r1] 23 (0, 0)) (heap_alloc2_new w2 _ _) hb; have HB_w4 := Aside0.mk hb; have F11_ := Aside0.mk b11_; have cb11_0 := (blk_cell b11_ 0).trans rfl; have zb11_0 := blk_frozen b11_ 0; have cb11_1 := (blk_cell b11_ 1).trans rfl; have zb11_1 := blk_frozen b11_ 1; have lb11_ := blk_lt b11_; clear b11_; have F12_ := Aside0.mk b12_; have cb12_0 := (blk_cell b12_ 0).trans rfl; have zb12_0 := blk_frozen b12_ 0; have cb12_1 := (blk_cell b12_ 1).trans rfl; have zb12_1 := blk_frozen b12_ 1; have lb12_ := blk_lt b12_; clear b12_; have F13_ := Aside0.mk b13_; have cb13_0 := (blk_cell b13_ 0).trans rfl; have zb13_0 := blk_frozen b13_ 0; have cb13_1 := (blk_cell b13_ 1).trans rfl; have zb13_1 := blk_frozen b13_ 1; have lb13_ := blk_lt b13_; clear b13_; have F14_ := Aside0.mk b14_; have cb14_0 := (blk_cell b14_ 0).trans rfl; have zb14_0 := blk_frozen b14_ 0; have cb14_1 := (blk_cell b14_ 1).trans rfl; have zb14_1 := blk_frozen b14_ 1; have lb14_ := blk_lt b14_; clear b14_; have F15_ := Aside0.mk b15_; have cb15_0 := (blk_cell b15_ 0).trans rfl; have zb15_0 := blk_frozen b15_ 0; have cb15_1 := (blk_cell b15_ 1).trans rfl; have zb15_1 := blk_frozen b15_ 1; have lb15_ := blk_lt b15_; clear b15_; have F16_ := Aside0.mk b16_; have cb16_0 := (blk_cell b16_ 0).trans rfl; have zb16_0 := blk_frozen b16_ 0; have cb16_1 := (blk_cell b16_ 1).trans rfl; have zb16_1 := blk_frozen b16_ 1; have lb16_ := blk_lt b16_; clear b16_; clear hb))
  have BW := Aside0.mk (below_step (below_alloc (below_alloc (below_step (below_alloc (below_step (below_step (below_alloc (below_alloc (below_alloc (Below.refl _ _) _) _) _) HB_w0.out) HB_w1.out) _) HB_w2.out) _) _) HB_w4.out)
  have GE15 := Aside0.mk (show w.heap.size ≤ w2.heap.size + 1 from Nat.le_succ_of_le (below_size (below_step (below_alloc (below_step (below_step (below_alloc (below_alloc (below_alloc (Below.refl _ _) _) _) _) HB_w0.out) HB_w1.out) _) HB_w2.out)))
  have NE4 := Aside0.mk (show w.heap.size ≠ w2.heap.size + 1 by have s_HB_w0 := HB_w0.out.size; (try simp at s_HB_w0); have s_HB_w1 := HB_w1.out.size; (try simp at s_HB_w1); have s_HB_w2 := HB_w2.out.size; (try simp at s_HB_w2); omega)
  have NE6 := Aside0.mk (show w.heap.size + 1 + 1 ≠ w2.heap.size + 1 by have s_HB_w0 := HB_w0.out.size; (try simp at s_HB_w0); have s_HB_w1 := HB_w1.out.size; (try simp at s_HB_w1); have s_HB_w2 := HB_w2.out.size; (try simp at s_HB_w2); omega)
  clear cb11_0 zb11_0 cb11_1 zb11_1 lb11_ cb12_0 zb12_0 cb12_1 zb12_1 lb12_ cb13_0 zb13_0 cb13_1 zb13_1 lb13_ cb14_0 zb14_0 cb14_1 zb14_1 lb14_ cb15_0 zb15_0 cb15_1 zb15_1 lb15_ cb16_0 zb16_0 cb16_1 zb16_1 lb16_
  obtain ⟨w6, hw6⟩ : ∃ w6, w6 = (w4.setCell ⟨w2.heap.size + 1, 0, none⟩ (.int .i64 (wrap64 (r0 + Go.bits .and .i64 more 1023)))).setCell ⟨w2.heap.size + 1, 1, none⟩ (.int .i64 (wrap64 (r1 + Go.bits .and .i64 more 255))) := ⟨_, rfl⟩
  rw [← hw6]
  have b4x : w6.heap[w.heap.size]? = some (.cells #[.int .i64 a0, .int .i64 a1] 23 (0, 0)) := by rw [hw6]; exact blk_far (blk_far F11_.out NE4.out _) NE4.out _
  have b6x : w6.heap[(w.heap.size + 1 + 1)]? = some (.cells #[.int .i64 r0, .int .i64 r1] 23 (0, 0)) := by rw [hw6]; exact blk_far (blk_far F13_.out NE6.out _) NE6.out _
  have b15x : w6.heap[w2.heap.size + 1]? = some (.cells #[.int .i64 (wrap64 (r0 + Go.bits .and .i64 more 1023)), .int .i64 (wrap64 (r1 + Go.bits .and .i64 more 255))] 23 (0, 0)) := by rw [hw6]; exact blk_put (blk_put (cs' := #[.int .i64 (wrap64 (r0 + Go.bits .and .i64 more 1023)), .int .i64 r1]) F16_.out 0 _ rfl) 1 _ rfl
  have BW6 := Aside0.mk (show Below w.heap.size w w6 by rw [hw6]; exact below_set (below_set BW.out GE15.out) GE15.out)
  clear BW hw6
  have BW := BW6
  have C4 := Aside0.mk b4x
  have C6 := Aside0.mk b6x
  have C15 := Aside0.mk b15x
  clear b4x b6x b15x
  refine wp_region_pv [.val (.agg #[.int .i64 r0, .int .i64 r1]), .val (.bool true), .val (.bool false), .val (.bool false), .val (.agg #[.int .i64 r0, .int .i64 r1]), .val (.agg #[.int .i64 a0, .int .i64 a1]), .val (.bool true), .val (.bool false), .val (.bool false), .val (.bool false), .val (.agg #[.int .i64 (wrap64 (r0 + Go.bits .and .i64 more 1023)), .int .i64 (wrap64 (r1 + Go.bits .and .i64 more 255))]), .val (.agg #[.int .i64 a0, .int .i64 a1]), .val (.bool true), .val (.bool true), .val (.agg #[.int .i64 a0, .int .i64 a1]), .val (.agg #[.int .i64 m0, .int .i64 m1]), .val (.agg #[.int .i64 a0, .int .i64 a1]), .val (.agg #[.int .i64 a0, .int .i64 a1]), .val (.bool true), .val (.bool true), .val (.bool true), .val (.bool true)] rfl (by kernel_rfl) ?howes ?hend
  case howes =>
    refine ⟨?_, ?_, ?_, ?_, ?_, ?_, ?_, ?_, ?_, ?_, ?_, ?_, ?_, ?_, ?_, ?_, ?_, ?_, ?_, ?_, ?_, ?_, trivial⟩
    · refine owes_pv0 (fun E vs a W_ hI hE hp => ?_)
      have e0 : a.eval (.tmp 6) = .pointer (some ⟨(w.heap.size + 1 + 1), 0, none⟩) := hI.outer (d := 6) (by rfl) rfl
      have hb := blk_below C6.out hI.world.2
      have q0 := (blk_cell hb 0).trans rfl
      have q1 := (blk_cell hb 1).trans rfl
      clear hb
      refine ⟨rfl, _, ?_, rfl⟩
      simp only [execOp, e0]
      go_simp
    · refine owes_pvc (fun E vs a W_ hI hE hp => ?_)
      have e0 : a.eval (.tmp 68) = .agg #[.int .i64 r0, .int .i64 r1] := hI.pv 0 rfl rfl (pred_of hp 0 rfl) rfl
      refine ⟨rfl, 13, #[.agg #[.int .i64 r0, .int .i64 r1]], ?_, ?_⟩
      · simp only [execOp, resolve, List.map_toArray, List.map_cons, List.map_nil, e0]
        rfl
      · refine (load_Right.calls r0 r1 true _ HR.out).mono ?_
        rintro e W1_ ⟨rfl, hb⟩
        exact ⟨_, rfl, hb, rfl⟩
    · refine owes_pv0 (fun E vs a W_ hI hE hp => ?_)
      have e0 : a.eval (.tmp 69) = .bool true := hI.pv 1 rfl rfl (pred_of hp 1 rfl) rfl
      refine ⟨rfl, _, ?_, rfl⟩
      simp only [execOp, e0]
      first
      | rfl
      | (go_simp; done)
      | (go_simp; simp; done)
    · refine owes_pv0 (fun E vs a W_ hI hE hp => ?_)
      have e0 : a.eval (.tmp 70) = .bool false := hI.pv 2 rfl rfl (pred_of hp 2 rfl) rfl
      refine ⟨rfl, _, ?_, rfl⟩
      simp only [execOp, e0]
      first
      | rfl
      | (go_simp; done)
      | (go_simp; simp; done)
    · refine owes_pv0 (fun E vs a W_ hI hE hp => ?_)
      have e0 : a.eval (.tmp 6) = .pointer (some ⟨(w.heap.size + 1 + 1), 0, none⟩) := hI.outer (d := 6) (by rfl) rfl
      have hb := blk_below C6.out hI.world.2
      have q0 := (blk_cell hb 0).trans rfl
      have q1 := (blk_cell hb 1).trans rfl
      clear hb
      refine ⟨wanted_of hI 3 rfl rfl rfl rfl (show a.eval (.tmp 71) = .bool false from hI.pv 3 rfl rfl (pred_of hp 3 rfl) rfl), _, ?_, rfl⟩
      simp only [execOp, e0]
      go_simp
    · refine owes_pv0 (fun E vs a W_ hI hE hp => ?_)
      have e0 : a.eval (.tmp 4) = .pointer (some ⟨w.heap.size, 0, none⟩) := hI.outer (d := 4) (by rfl) rfl
      have hb := blk_below C4.out hI.world.2
      have q0 := (blk_cell hb 0).trans rfl
      have q1 := (blk_cell hb 1).trans rfl
      clear hb
      refine ⟨wanted_of hI 3 rfl rfl rfl rfl (show a.eval (.tmp 71) = .bool false from hI.pv 3 rfl rfl (pred_of hp 3 rfl) rfl), _, ?_, rfl⟩
      simp only [execOp, e0]
      go_simp
    · refine owes_pvc (fun E vs a W_ hI hE hp => ?_)
      have e0 : a.eval (.tmp 72) = .agg #[.int .i64 r0, .int .i64 r1] := hI.pv 4 rfl rfl (pred_of hp 4 rfl) rfl
      have e1 : a.eval (.tmp 73) = .agg #[.int .i64 a0, .int .i64 a1] := hI.pv 5 rfl rfl (pred_of hp 5 rfl) rfl
      refine ⟨wanted_of hI 3 rfl rfl rfl rfl (show a.eval (.tmp 71) = .bool false from hI.pv 3 rfl rfl (pred_of hp 3 rfl) rfl), 15, #[.agg #[.int .i64 r0, .int .i64 r1], .agg #[.int .i64 a0, .int .i64 a1]], ?_, ?_⟩
      · simp only [execOp, resolve, List.map_toArray, List.map_cons, List.map_nil, e0, e1]
        rfl
      · refine (load_Fits.calls r0 r1 a0 a1 true _ HF.out).mono ?_
        rintro e W1_ ⟨rfl, hb⟩
        exact ⟨_, rfl, hb, rfl⟩
    · refine owes_pv0 (fun E vs a W_ hI hE hp => ?_)
      have e0 : a.eval (.tmp 74) = .bool true := hI.pv 6 rfl rfl (pred_of hp 6 rfl) rfl
      refine ⟨wanted_of hI 3 rfl rfl rfl rfl (show a.eval (.tmp 71) = .bool false from hI.pv 3 rfl rfl (pred_of hp 3 rfl) rfl), _, ?_, rfl⟩
      simp only [execOp, e0]
      first
      | rfl
      | (go_simp; done)
      | (go_simp; simp; done)
    · refine owes_pv0 (fun E vs a W_ hI hE hp => ?_)
      have e0 : a.eval (.tmp 71) = .bool false := hI.pv 3 rfl rfl (pred_of hp 3 rfl) rfl
      have e1 : a.eval (.tmp 75) = .bool false := hI.pv 7 rfl rfl (pred_of hp 7 rfl) rfl
      refine ⟨rfl, _, ?_, rfl⟩
      simp only [execOp, e0, e1]
      first
      | rfl
      | (go_simp; done)
      | (go_simp; simp; done)
    · refine owes_pv0 (fun E vs a W_ hI hE hp => ?_)
      have e0 : a.eval (.tmp 76) = .bool false := hI.pv 8 rfl rfl (pred_of hp 8 rfl) rfl
      refine ⟨rfl, _, ?_, rfl⟩
      simp only [execOp, e0]
      first
      | rfl
      | (go_simp; done)
      | (go_simp; simp; done)
    · refine owes_pv0 (fun E vs a W_ hI hE hp => ?_)
      have e0 : a.eval (.tmp 15) = .pointer (some ⟨(w2.heap.size + 1), 0, none⟩) := hI.outer (d := 15) (by rfl) rfl
      have hb := blk_below C15.out hI.world.2
      have q0 := (blk_cell hb 0).trans rfl
      have q1 := (blk_cell hb 1).trans rfl
      clear hb
      refine ⟨wanted_of hI 9 rfl rfl rfl rfl (show a.eval (.tmp 77) = .bool false from hI.pv 9 rfl rfl (pred_of hp 9 rfl) rfl), _, ?_, rfl⟩
      simp only [execOp, e0]
      go_simp
    · refine owes_pv0 (fun E vs a W_ hI hE hp => ?_)
      have e0 : a.eval (.tmp 4) = .pointer (some ⟨w.heap.size, 0, none⟩) := hI.outer (d := 4) (by rfl) rfl
      have hb := blk_below C4.out hI.world.2
      have q0 := (blk_cell hb 0).trans rfl
      have q1 := (blk_cell hb 1).trans rfl
      clear hb
      refine ⟨wanted_of hI 9 rfl rfl rfl rfl (show a.eval (.tmp 77) = .bool false from hI.pv 9 rfl rfl (pred_of hp 9 rfl) rfl), _, ?_, rfl⟩
      simp only [execOp, e0]
      go_simp
    · refine owes_pvc (fun E vs a W_ hI hE hp => ?_)
      have e0 : a.eval (.tmp 78) = .agg #[.int .i64 (wrap64 (r0 + Go.bits .and .i64 more 1023)), .int .i64 (wrap64 (r1 + Go.bits .and .i64 more 255))] := hI.pv 10 rfl rfl (pred_of hp 10 rfl) rfl
      have e1 : a.eval (.tmp 79) = .agg #[.int .i64 a0, .int .i64 a1] := hI.pv 11 rfl rfl (pred_of hp 11 rfl) rfl
      refine ⟨wanted_of hI 9 rfl rfl rfl rfl (show a.eval (.tmp 77) = .bool false from hI.pv 9 rfl rfl (pred_of hp 9 rfl) rfl), 15, #[.agg #[.int .i64 (wrap64 (r0 + Go.bits .and .i64 more 1023)), .int .i64 (wrap64 (r1 + Go.bits .and .i64 more 255))], .agg #[.int .i64 a0, .int .i64 a1]], ?_, ?_⟩
      · simp only [execOp, resolve, List.map_toArray, List.map_cons, List.map_nil, e0, e1]
        rfl
      · refine (load_Fits.calls (wrap64 (r0 + Go.bits .and .i64 more 1023)) (wrap64 (r1 + Go.bits .and .i64 more 255)) a0 a1 true _ HG.out).mono ?_
        rintro e W1_ ⟨rfl, hb⟩
        exact ⟨_, rfl, hb, rfl⟩
    · refine owes_pv0 (fun E vs a W_ hI hE hp => ?_)
      have e0 : a.eval (.tmp 80) = .bool true := hI.pv 12 rfl rfl (pred_of hp 12 rfl) rfl
      refine ⟨wanted_of hI 9 rfl rfl rfl rfl (show a.eval (.tmp 77) = .bool false from hI.pv 9 rfl rfl (pred_of hp 9 rfl) rfl), _, ?_, rfl⟩
      simp only [execOp, e0]
      first
      | rfl
      | (go_simp; done)
      | (go_simp; simp; done)
    · refine owes_pv0 (fun E vs a W_ hI hE hp => ?_)
      have e0 : a.eval (.tmp 4) = .pointer (some ⟨w.heap.size, 0, none⟩) := hI.outer (d := 4) (by rfl) rfl
      have hb := blk_below C4.out hI.world.2
      have q0 := (blk_cell hb 0).trans rfl
      have q1 := (blk_cell hb 1).trans rfl
      clear hb
      refine ⟨wanted_of hI 13 rfl rfl rfl rfl (show a.eval (.tmp 81) = .bool true from hI.pv 13 rfl rfl (pred_of hp 13 rfl) rfl), _, ?_, rfl⟩
      simp only [execOp, e0]
      go_simp
    · refine owes_pvc (fun E vs a W_ hI hE hp => ?_)
      have e0 : a.eval (.tmp 82) = .agg #[.int .i64 a0, .int .i64 a1] := hI.pv 14 rfl rfl (pred_of hp 14 rfl) rfl
      refine ⟨wanted_of hI 13 rfl rfl rfl rfl (show a.eval (.tmp 81) = .bool true from hI.pv 13 rfl rfl (pred_of hp 13 rfl) rfl), 11, #[.agg #[.int .i64 a0, .int .i64 a1]], ?_, ?_⟩
      · simp only [execOp, resolve, List.map_toArray, List.map_cons, List.map_nil, e0]
        rfl
      · refine (load_Neg.calls a0 a1 m0 m1 _ HM.out).mono ?_
        rintro e W1_ ⟨rfl, hb⟩
        exact ⟨_, rfl, hb, rfl⟩
    · refine owes_pvc (fun E vs a W_ hI hE hp => ?_)
      have e0 : a.eval (.tmp 83) = .agg #[.int .i64 m0, .int .i64 m1] := hI.pv 15 rfl rfl (pred_of hp 15 rfl) rfl
      refine ⟨wanted_of hI 13 rfl rfl rfl rfl (show a.eval (.tmp 81) = .bool true from hI.pv 13 rfl rfl (pred_of hp 13 rfl) rfl), 11, #[.agg #[.int .i64 m0, .int .i64 m1]], ?_, ?_⟩
      · simp only [execOp, resolve, List.map_toArray, List.map_cons, List.map_nil, e0]
        rfl
      · refine (load_Neg.calls m0 m1 a0 a1 _ HK.out).mono ?_
        rintro e W1_ ⟨rfl, hb⟩
        exact ⟨_, rfl, hb, rfl⟩
    · refine owes_pv0 (fun E vs a W_ hI hE hp => ?_)
      have e0 : a.eval (.tmp 4) = .pointer (some ⟨w.heap.size, 0, none⟩) := hI.outer (d := 4) (by rfl) rfl
      have hb := blk_below C4.out hI.world.2
      have q0 := (blk_cell hb 0).trans rfl
      have q1 := (blk_cell hb 1).trans rfl
      clear hb
      refine ⟨wanted_of hI 13 rfl rfl rfl rfl (show a.eval (.tmp 81) = .bool true from hI.pv 13 rfl rfl (pred_of hp 13 rfl) rfl), _, ?_, rfl⟩
      simp only [execOp, e0]
      go_simp
    · refine owes_pv0 (fun E vs a W_ hI hE hp => ?_)
      have e0 : a.eval (.tmp 84) = .agg #[.int .i64 a0, .int .i64 a1] := hI.pv 16 rfl rfl (pred_of hp 16 rfl) rfl
      have e1 : a.eval (.tmp 85) = .agg #[.int .i64 a0, .int .i64 a1] := hI.pv 17 rfl rfl (pred_of hp 17 rfl) rfl
      refine ⟨wanted_of hI 13 rfl rfl rfl rfl (show a.eval (.tmp 81) = .bool true from hI.pv 13 rfl rfl (pred_of hp 13 rfl) rfl), _, ?_, rfl⟩
      simp only [execOp, e0, e1]
      first
      | rfl
      | (go_simp; done)
      | (go_simp; simp; done)
    · refine owes_pv0 (fun E vs a W_ hI hE hp => ?_)
      have e0 : a.eval (.tmp 81) = .bool true := hI.pv 13 rfl rfl (pred_of hp 13 rfl) rfl
      have e1 : a.eval (.tmp 86) = .bool true := hI.pv 18 rfl rfl (pred_of hp 18 rfl) rfl
      refine ⟨wanted_of hI 9 rfl rfl rfl rfl (show a.eval (.tmp 77) = .bool false from hI.pv 9 rfl rfl (pred_of hp 9 rfl) rfl), _, ?_, rfl⟩
      simp only [execOp, e0, e1]
      first
      | rfl
      | (go_simp; done)
      | (go_simp; simp; done)
    · refine owes_pv0 (fun E vs a W_ hI hE hp => ?_)
      have e0 : a.eval (.tmp 77) = .bool false := hI.pv 9 rfl rfl (pred_of hp 9 rfl) rfl
      have e1 : a.eval (.tmp 87) = .bool true := hI.pv 19 rfl rfl (pred_of hp 19 rfl) rfl
      refine ⟨rfl, _, ?_, rfl⟩
      simp only [execOp, e0, e1]
      first
      | rfl
      | (go_simp; done)
      | (go_simp; simp; done)
    · refine owes_pv0 (fun E vs a W_ hI hE hp => ?_)
      have e0 : a.eval (.tmp 88) = .bool true := hI.pv 20 rfl rfl (pred_of hp 20 rfl) rfl
      refine ⟨rfl, _, ?_, rfl⟩
      simp only [execOp, e0]
      first
      | rfl
      | (go_simp; done)
      | (go_simp; simp; done)
  case hend =>
  intro E vs a W hI hall
  have e1 : a.tmps.getD 8 undef = .bool true := hI.pv 21 rfl rfl (hall 21 (by decide)) rfl
  have e2 : a.defers = [] := hI.defers
  have hb := hI.world.2
  clear hI hall
  go_wp2
  refine bodyPost_ret (v := .bool true) ((results_tmp (t := 8) rfl _ _ _).trans (by rw [e1])) e2 ⟨rfl, below_step BW.out hb⟩
end Go.Proofs.Ytocoapfnkkmkiaa.P
