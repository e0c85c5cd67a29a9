-- printed by the session's own program wip/xprint.py (over the kit's printer); nothing here is trusted: Lean checks it
import Derived.Test.YtocoapfnkkmkiaaP0
import Derived.Test.YtocoapfnkkmkiaaP2
import Derived.Test.YtocoapfnkkmkiaaP3
import Derived.Test.YtocoapfnkkmkiaaP4
namespace Go.Proofs.Ytocoapfnkkmkiaa.P
open Go.Proofs.YtocoapfnkkmkiaaR
open Go.RowKit Go.Proofs.YtocoapfnkkmkiaaW.PrintWords Go.Proofs.YtocoapfnkkmkiaaW.PrintLast Go.Proofs.YtocoapfnkkmkiaaW.PrintMore
attribute [local go_sem] max2_int min2_int max_two min_two max_three min_three max_four min_four   -- for this text's walks alone
set_option linter.unusedVariables false
set_option linter.unusedSimpArgs false

-- EXTERN 8 jitneylaw04_alive: by hand
def jitneylaw04_alive.f : Option (Bool) := some true
def enc23 (x : S23) : List Value := [.int .i64 x.f0, .int .i64 x.f1]
set_option maxHeartbeats 8000000 in
set_option maxRecDepth 100000 in
theorem jitneylaw04_alive.calls (r : Bool) (w : World) (h : jitneylaw04_alive.f = some r) : Calls Try.prog 8 #[] w fun e w' => e = .returned (.bool r) ∧ Below w.heap.size w w' := by
  obtain rfl := Option.some.inj h
  clear h
  have hu23 := Try.underlying23
  go_enter Try.func8, Try.ntmps8
  go_wp2_with (first | (go_at_call 9; (with_reducible refine (load_Add.calls 5 1 0 1 0 2 0 true _ (by kernel_rfl)).mono ?_); rintro e w1 ⟨rfl, hb⟩; have hz := hb.size; have b1 := blk_below (blk_alloc (blk_alloc (blk_new w _) _) _) hb; have b2 := blk_below (blk_alloc (heap_alloc2_new w _ _) _) hb; have b3 := blk_below (heap_alloc3_new w _ _ _) hb; have B1 := Aside0.mk b1; have B2 := Aside0.mk b2; have B3 := Aside0.mk b3; have HB1 := Aside0.mk hb; obtain ⟨p10, p11, p12, p13⟩ := two b1; obtain ⟨p20, p21, p22, p23⟩ := two b2; obtain ⟨p30, p31, p32, p33⟩ := two b3; have l1 := blk_lt b1; have l2 := blk_lt b2; have l3 := blk_lt b3; clear hb b1 b2 b3 hz) | (go_at_call 9; (with_reducible refine (load_Add.calls 5 1073741824 0 1 0 0 0 false _ (by kernel_rfl)).mono ?_); rintro e w2 ⟨rfl, hb⟩; clear p10 p11 p12 p13 p20 p21 p22 p23 p30 p31 p32 p33 l1 l2 l3; have b1 := blk_below (blk_alloc B1.out _) hb; have b2 := blk_below (blk_alloc B2.out _) hb; have b3 := blk_below (blk_alloc B3.out _) hb; have b4 := blk_below (blk_new w1 _) hb; have HB2 := Aside0.mk hb; clear B1 B2 B3; have B1 := Aside0.mk b1; have B2 := Aside0.mk b2; have B3 := Aside0.mk b3; have B4 := Aside0.mk b4; obtain ⟨p10, p11, p12, p13⟩ := two b1; obtain ⟨p20, p21, p22, p23⟩ := two b2; obtain ⟨p30, p31, p32, p33⟩ := two b3; have l1 := blk_lt b1; have l2 := blk_lt b2; have l3 := blk_lt b3; clear hb b1 b2 b3 b4) | (go_at_call 17; go_loud (refine (load_Profile.calls 10 (some ⟨w2.heap.size + 1, 0, none⟩) 3 [⟨1, 0⟩, ⟨1, 0⟩, ⟨-1, 0⟩] [⟨1, 0⟩, ⟨2, 0⟩, ⟨1, 0⟩] true _ (C_of_rowAt k23 enc23 (fun _ => rfl) (fun w x => k23_mk w x) (xs := [⟨1, 0⟩, ⟨1, 0⟩, ⟨-1, 0⟩]) (by decide) (rowAt_of_blk (heap_alloc2_new w2 _ _))) (by decide) (by kernel_rfl)).mono ?_; rintro e w3 ⟨v0, rfl, hR, hb⟩; clear p10 p11 p12 p13 p20 p21 p22 p23 p30 p31 p32 p33 l1 l2 l3; obtain ⟨gp, cp, rfl, hcp, hrow⟩ := rowAt_of_R k23 enc23 (fun _ => rfl) (fun h => k23_open h) hR (by decide); have HRow := Aside0.mk hrow; have HCap := Aside0.mk hcp; have b1 := blk_below (blk_alloc (blk_alloc B1.out _) _) hb; have b2 := blk_below (blk_alloc (blk_alloc B2.out _) _) hb; have b3 := blk_below (blk_alloc (blk_alloc B3.out _) _) hb; have b4 := blk_below (blk_alloc (blk_alloc B4.out _) _) hb; have HB3 := Aside0.mk hb; clear B1 B2 B3 B4; have B1 := Aside0.mk b1; have B2 := Aside0.mk b2; have B3 := Aside0.mk b3; have B4 := Aside0.mk b4; clear hb b1 b2 b3 b4 hR hrow hcp)))
  refine wp_region_pv [.val (.pointer (some ⟨w1.heap.size, 0, none⟩)), .val (.int .i64 2), .val (.bool true), .val (.bool true), .val (.bool true), .val (.bool true), .val (.bool true), .val (.bool false), .val (.bool true), .val (.bool true), .val (.bool true), .row 3 [.int .i64 1, .int .i64 0, .int .i64 2, .int .i64 0, .int .i64 1, .int .i64 0], .val (.int .i64 3), .val (.bool true), .val (.bool true), .val (.bool true), .row 3 [.int .i64 1, .int .i64 0, .int .i64 2, .int .i64 0, .int .i64 1, .int .i64 0], .cellOf 0 [.int .i64 1, .int .i64 0, .int .i64 2, .int .i64 0, .int .i64 1, .int .i64 0] 4, .val (.agg #[.int .i64 1, .int .i64 0]), .val (.agg #[.int .i64 1, .int .i64 0]), .val (.bool true), .val (.bool true), .val (.bool true), .val (.bool true), .val (.bool true), .val (.bool true), .val (.agg #[.int .i64 1, .int .i64 0]), .val (.agg #[.int .i64 1, .int .i64 0]), .val (.agg #[.int .i64 (-1), .int .i64 0]), .row 3 [.int .i64 1, .int .i64 0, .int .i64 1, .int .i64 0, .int .i64 (-1), .int .i64 0], .val (.agg #[.int .i64 2, .int .i64 0]), .val (.agg #[.int .i64 2, .int .i64 0]), .val (.bool true), .val (.bool true), .val (.bool true), .val (.agg #[.int .i64 2, .int .i64 0]), .val (.agg #[.int .i64 1, .int .i64 0]), .val (.agg #[.int .i64 1, .int .i64 0]), .val (.agg #[.int .i64 (-1), .int .i64 0]), .row 3 [.int .i64 1, .int .i64 0, .int .i64 1, .int .i64 0, .int .i64 (-1), .int .i64 0], .val (.int .i64 (-1)), .val (.bool true), .val (.bool true), .val (.bool true), .val (.agg #[.int .i64 2, .int .i64 0]), .val (.agg #[.int .i64 1, .int .i64 0]), .val (.agg #[.int .i64 1, .int .i64 0]), .val (.agg #[.int .i64 1, .int .i64 0]), .row 3 [.int .i64 1, .int .i64 0, .int .i64 1, .int .i64 0, .int .i64 1, .int .i64 0], .val (.int .i64 2), .val (.bool true), .val (.bool true), .val (.bool true), .val (.agg #[.int .i64 2, .int .i64 0]), .val (.agg #[.int .i64 1, .int .i64 0]), .val (.bool true), .val (.bool true), .val (.bool true), .val (.agg #[.int .i64 2, .int .i64 0]), .val (.agg #[.int .i64 (-1), .int .i64 0]), .val (.bool false), .val (.bool true), .val (.bool true), .val (.bool true), .val (.agg #[.int .i64 2, .int .i64 0]), .val (.bool true), .val (.bool true), .val (.bool true), .val (.agg #[.int .i64 (-1), .int .i64 0]), .val (.bool false), .val (.bool true), .val (.bool true), .val (.bool true), .val (.agg #[.int .i64 1, .int .i64 0]), .val (.agg #[.int .i64 (-1), .int .i64 0]), .val (.agg #[.int .i64 (-1), .int .i64 0]), .val (.bool true), .val (.bool true), .val (.bool true)] rfl (by kernel_rfl) ?howes ?hend
  case howes =>
    refine ⟨?_, ?_, ?_, ?_, ?_, ?_, ?_, ?_, ?_, ?_, ?_, ?_, ?_, ?_, ?_, ?_, ?_, ?_, ?_, ?_, ?_, ?_, ?_, ?_, ?_, ?_, ?_, ?_, ?_, ?_, ?_, ?_, ?_, ?_, ?_, ?_, ?_, ?_, ?_, ?_, ?_, ?_, ?_, ?_, ?_, ?_, ?_, ?_, ?_, ?_, ?_, ?_, ?_, ?_, ?_, ?_, ?_, ?_, ?_, ?_, ?_, ?_, ?_, ?_, ?_, ?_, ?_, ?_, ?_, ?_, ?_, ?_, ?_, ?_, ?_, ?_, ?_, ?_, ?_, trivial⟩
    · refine owes_pv0 (fun E vs a w hI hE hp => ?_)
      have e0 := hI.outer (d := 4) (by rfl) rfl
      refine ⟨rfl, _, ?_, rfl⟩
      simp only [execOp, e0]
      rfl
    · refine owes_pv0 (fun E vs a w hI hE hp => ?_)
      have e0 : a.eval (.tmp 33) = .pointer (some ⟨w1.heap.size, 0, none⟩) := hI.pv 0 rfl rfl (pred_of hp 0 rfl) rfl
      have hb := blk_below B4.out hI.world.2
      have k0 := (blk_cell hb 0).trans rfl
      have k1 := (blk_cell hb 1).trans rfl
      clear hb
      refine ⟨rfl, _, ?_, rfl⟩
      simp only [execOp, e0]
      go_simp
    · refine owes_pv0 (fun E vs a w hI hE hp => ?_)
      have e0 : a.eval (.tmp 34) = .int .i64 2 := hI.pv 1 rfl rfl (pred_of hp 1 rfl) rfl
      refine ⟨rfl, _, ?_, rfl⟩
      simp only [execOp, e0]
      first
      | rfl
      | go_simp
    · refine owes_pv0 (fun E vs a w hI hE hp => ?_)
      have e0 : a.eval (.tmp 35) = .bool true := hI.pv 2 rfl rfl (pred_of hp 2 rfl) rfl
      refine ⟨rfl, _, ?_, rfl⟩
      simp only [execOp, e0]
      rfl
    · refine owes_pv0 (fun E vs a w hI hE hp => ?_)
      have e0 := hI.outer (d := 5) (by rfl) rfl
      refine ⟨wanted_of hI 3 rfl rfl rfl rfl (show a.eval (.tmp 36) = .bool true from hI.pv 3 rfl rfl (pred_of hp 3 rfl) rfl), _, ?_, rfl⟩
      simp only [execOp, e0]
      rfl
    · refine owes_pv0 (fun E vs a w hI hE hp => ?_)
      have e0 : a.eval (.tmp 36) = .bool true := hI.pv 3 rfl rfl (pred_of hp 3 rfl) rfl
      have e1 : a.eval (.tmp 37) = .bool true := hI.pv 4 rfl rfl (pred_of hp 4 rfl) rfl
      refine ⟨rfl, _, ?_, rfl⟩
      simp only [execOp, e0, e1]
      first
      | rfl
      | go_simp
    · refine owes_pv0 (fun E vs a w hI hE hp => ?_)
      have e0 : a.eval (.tmp 38) = .bool true := hI.pv 5 rfl rfl (pred_of hp 5 rfl) rfl
      refine ⟨rfl, _, ?_, rfl⟩
      simp only [execOp, e0]
      rfl
    · refine owes_pv0 (fun E vs a w hI hE hp => ?_)
      have e0 := hI.outer (d := 7) (by rfl) rfl
      refine ⟨wanted_of hI 6 rfl rfl rfl rfl (show a.eval (.tmp 39) = .bool true from hI.pv 6 rfl rfl (pred_of hp 6 rfl) rfl), _, ?_, rfl⟩
      simp only [execOp, e0]
      rfl
    · refine owes_pv0 (fun E vs a w hI hE hp => ?_)
      have e0 : a.eval (.tmp 40) = .bool false := hI.pv 7 rfl rfl (pred_of hp 7 rfl) rfl
      refine ⟨wanted_of hI 6 rfl rfl rfl rfl (show a.eval (.tmp 39) = .bool true from hI.pv 6 rfl rfl (pred_of hp 6 rfl) rfl), _, ?_, rfl⟩
      simp only [execOp, e0]
      first
      | rfl
      | go_simp
    · refine owes_pv0 (fun E vs a w hI hE hp => ?_)
      have e0 : a.eval (.tmp 39) = .bool true := hI.pv 6 rfl rfl (pred_of hp 6 rfl) rfl
      have e1 : a.eval (.tmp 41) = .bool true := hI.pv 8 rfl rfl (pred_of hp 8 rfl) rfl
      refine ⟨rfl, _, ?_, rfl⟩
      simp only [execOp, e0, e1]
      first
      | rfl
      | go_simp
    · refine owes_pv0 (fun E vs a w hI hE hp => ?_)
      have e0 : a.eval (.tmp 42) = .bool true := hI.pv 9 rfl rfl (pred_of hp 9 rfl) rfl
      refine ⟨rfl, _, ?_, rfl⟩
      simp only [execOp, e0]
      rfl
    · refine owes_pv0 (fun E vs a w hI hE hp => ?_)
      have e0 := hI.outer (d := 8) (by rfl) rfl
      refine ⟨wanted_of hI 10 rfl rfl rfl rfl (show a.eval (.tmp 43) = .bool true from hI.pv 10 rfl rfl (pred_of hp 10 rfl) rfl), _, ?_, ⟨_, _, rfl, HCap.out, (HRow.out.below hI.world.2)⟩⟩
      simp only [execOp, e0]
      rfl
    · refine owes_pv0 (fun E vs a w hI hE hp => ?_)
      obtain ⟨ge0, ce0, e0, hce0, hre0⟩ := hI.pv 11 rfl rfl (pred_of hp 11 rfl) rfl
      refine ⟨wanted_of hI 10 rfl rfl rfl rfl (show a.eval (.tmp 43) = .bool true from hI.pv 10 rfl rfl (pred_of hp 10 rfl) rfl), _, ?_, rfl⟩
      simp only [execOp, resolve, List.map_toArray, List.map_cons, List.map_nil, e0]
      first
      | rfl
      | go_simp
    · refine owes_pv0 (fun E vs a w hI hE hp => ?_)
      have e0 : a.eval (.tmp 45) = .int .i64 3 := hI.pv 12 rfl rfl (pred_of hp 12 rfl) rfl
      refine ⟨wanted_of hI 10 rfl rfl rfl rfl (show a.eval (.tmp 43) = .bool true from hI.pv 10 rfl rfl (pred_of hp 10 rfl) rfl), _, ?_, rfl⟩
      simp only [execOp, e0]
      first
      | rfl
      | go_simp
    · refine owes_pv0 (fun E vs a w hI hE hp => ?_)
      have e0 : a.eval (.tmp 43) = .bool true := hI.pv 10 rfl rfl (pred_of hp 10 rfl) rfl
      have e1 : a.eval (.tmp 46) = .bool true := hI.pv 13 rfl rfl (pred_of hp 13 rfl) rfl
      refine ⟨rfl, _, ?_, rfl⟩
      simp only [execOp, e0, e1]
      first
      | rfl
      | go_simp
    · refine owes_pv0 (fun E vs a w hI hE hp => ?_)
      have e0 : a.eval (.tmp 47) = .bool true := hI.pv 14 rfl rfl (pred_of hp 14 rfl) rfl
      refine ⟨rfl, _, ?_, rfl⟩
      simp only [execOp, e0]
      rfl
    · refine owes_pv0 (fun E vs a w hI hE hp => ?_)
      have e0 := hI.outer (d := 8) (by rfl) rfl
      refine ⟨wanted_of hI 15 rfl rfl rfl rfl (show a.eval (.tmp 48) = .bool true from hI.pv 15 rfl rfl (pred_of hp 15 rfl) rfl), _, ?_, ⟨_, _, rfl, HCap.out, (HRow.out.below hI.world.2)⟩⟩
      simp only [execOp, e0]
      rfl
    · refine owes_pv0 (fun E vs a w hI hE hp => ?_)
      obtain ⟨ge0, ce0, e0, hce0, hre0⟩ := hI.pv 16 rfl rfl (pred_of hp 16 rfl) rfl
      refine ⟨wanted_of hI 15 rfl rfl rfl rfl (show a.eval (.tmp 48) = .bool true from hI.pv 15 rfl rfl (pred_of hp 15 rfl) rfl), _, ?_, ⟨_, rfl, hre0⟩⟩
      simp only [execOp, e0]
      go_simp
    · refine owes_pv0 (fun E vs a w hI hE hp => ?_)
      obtain ⟨ge0, e0, hre0⟩ := hI.pv 17 rfl rfl (pred_of hp 17 rfl) rfl
      have k0 := hre0 4 _ rfl
      have k1 := hre0 5 _ rfl
      refine ⟨wanted_of hI 15 rfl rfl rfl rfl (show a.eval (.tmp 48) = .bool true from hI.pv 15 rfl rfl (pred_of hp 15 rfl) rfl), _, ?_, rfl⟩
      simp only [execOp, e0]
      go_simp
    · refine owes_pv0 (fun E vs a w hI hE hp => ?_)
      have e0 := hI.outer (d := 2) (by rfl) rfl
      have hb := blk_below B2.out hI.world.2
      have k0 := (blk_cell hb 0).trans rfl
      have k1 := (blk_cell hb 1).trans rfl
      clear hb
      refine ⟨wanted_of hI 15 rfl rfl rfl rfl (show a.eval (.tmp 48) = .bool true from hI.pv 15 rfl rfl (pred_of hp 15 rfl) rfl), _, ?_, rfl⟩
      simp only [execOp, e0]
      go_simp
    · refine owes_pv0 (fun E vs a w hI hE hp => ?_)
      have e0 : a.eval (.tmp 51) = .agg #[.int .i64 1, .int .i64 0] := hI.pv 18 rfl rfl (pred_of hp 18 rfl) rfl
      have e1 : a.eval (.tmp 52) = .agg #[.int .i64 1, .int .i64 0] := hI.pv 19 rfl rfl (pred_of hp 19 rfl) rfl
      refine ⟨wanted_of hI 15 rfl rfl rfl rfl (show a.eval (.tmp 48) = .bool true from hI.pv 15 rfl rfl (pred_of hp 15 rfl) rfl), _, ?_, rfl⟩
      simp only [execOp, e0, e1]
      first
      | rfl
      | go_simp
    · refine owes_pv0 (fun E vs a w hI hE hp => ?_)
      have e0 : a.eval (.tmp 48) = .bool true := hI.pv 15 rfl rfl (pred_of hp 15 rfl) rfl
      have e1 : a.eval (.tmp 53) = .bool true := hI.pv 20 rfl rfl (pred_of hp 20 rfl) rfl
      refine ⟨rfl, _, ?_, rfl⟩
      simp only [execOp, e0, e1]
      first
      | rfl
      | go_simp
    · refine owes_pv0 (fun E vs a w hI hE hp => ?_)
      have e0 : a.eval (.tmp 54) = .bool true := hI.pv 21 rfl rfl (pred_of hp 21 rfl) rfl
      refine ⟨rfl, _, ?_, rfl⟩
      simp only [execOp, e0]
      rfl
    · refine owes_pv0 (fun E vs a w hI hE hp => ?_)
      have e0 := hI.outer (d := 9) (by rfl) rfl
      refine ⟨wanted_of hI 22 rfl rfl rfl rfl (show a.eval (.tmp 55) = .bool true from hI.pv 22 rfl rfl (pred_of hp 22 rfl) rfl), _, ?_, rfl⟩
      simp only [execOp, e0]
      rfl
    · refine owes_pv0 (fun E vs a w hI hE hp => ?_)
      have e0 : a.eval (.tmp 55) = .bool true := hI.pv 22 rfl rfl (pred_of hp 22 rfl) rfl
      have e1 : a.eval (.tmp 56) = .bool true := hI.pv 23 rfl rfl (pred_of hp 23 rfl) rfl
      refine ⟨rfl, _, ?_, rfl⟩
      simp only [execOp, e0, e1]
      first
      | rfl
      | go_simp
    · refine owes_pv0 (fun E vs a w hI hE hp => ?_)
      have e0 : a.eval (.tmp 57) = .bool true := hI.pv 24 rfl rfl (pred_of hp 24 rfl) rfl
      refine ⟨rfl, _, ?_, rfl⟩
      simp only [execOp, e0]
      rfl
    · refine owes_pv0 (fun E vs a w hI hE hp => ?_)
      have e0 := hI.outer (d := 2) (by rfl) rfl
      have hb := blk_below B2.out hI.world.2
      have k0 := (blk_cell hb 0).trans rfl
      have k1 := (blk_cell hb 1).trans rfl
      clear hb
      refine ⟨wanted_of hI 25 rfl rfl rfl rfl (show a.eval (.tmp 58) = .bool true from hI.pv 25 rfl rfl (pred_of hp 25 rfl) rfl), _, ?_, rfl⟩
      simp only [execOp, e0]
      go_simp
    · refine owes_pv0 (fun E vs a w hI hE hp => ?_)
      have e0 := hI.outer (d := 2) (by rfl) rfl
      have hb := blk_below B2.out hI.world.2
      have k0 := (blk_cell hb 0).trans rfl
      have k1 := (blk_cell hb 1).trans rfl
      clear hb
      refine ⟨wanted_of hI 25 rfl rfl rfl rfl (show a.eval (.tmp 58) = .bool true from hI.pv 25 rfl rfl (pred_of hp 25 rfl) rfl), _, ?_, rfl⟩
      simp only [execOp, e0]
      go_simp
    · refine owes_pv0 (fun E vs a w hI hE hp => ?_)
      have e0 := hI.outer (d := 3) (by rfl) rfl
      have hb := blk_below B3.out hI.world.2
      have k0 := (blk_cell hb 0).trans rfl
      have k1 := (blk_cell hb 1).trans rfl
      clear hb
      refine ⟨wanted_of hI 25 rfl rfl rfl rfl (show a.eval (.tmp 58) = .bool true from hI.pv 25 rfl rfl (pred_of hp 25 rfl) rfl), _, ?_, rfl⟩
      simp only [execOp, e0]
      go_simp
    · refine owes_pv (fun E vs a w hI hE hp => ?_)
      have e0 : a.eval (.tmp 59) = .agg #[.int .i64 1, .int .i64 0] := hI.pv 26 rfl rfl (pred_of hp 26 rfl) rfl
      have e1 : a.eval (.tmp 60) = .agg #[.int .i64 1, .int .i64 0] := hI.pv 27 rfl rfl (pred_of hp 27 rfl) rfl
      have e2 : a.eval (.tmp 61) = .agg #[.int .i64 (-1), .int .i64 0] := hI.pv 28 rfl rfl (pred_of hp 28 rfl) rfl
      refine ⟨wanted_of hI 25 rfl rfl rfl rfl (show a.eval (.tmp 58) = .bool true from hI.pv 25 rfl rfl (pred_of hp 25 rfl) rfl), _, w.alloc (.cells #[.int .i64 1, .int .i64 0, .int .i64 1, .int .i64 0, .int .i64 (-1), .int .i64 0] 23 (0, 0)), ?_, below_alloc (Below.refl _ _) _, ⟨w.heap.size, 3, rfl, Nat.le_refl _, rowAt_new w _ _⟩⟩
      simp only [execOp, List.map_toArray, List.map_cons, List.map_nil, e0, e1, e2]
      go_simp
    · refine owes_pvc (fun E vs a w hI hE hp => ?_)
      obtain ⟨ge0, ce0, e0, hce0, hre0⟩ := hI.pv 29 rfl rfl (pred_of hp 29 rfl) rfl
      refine ⟨wanted_of hI 25 rfl rfl rfl rfl (show a.eval (.tmp 58) = .bool true from hI.pv 25 rfl rfl (pred_of hp 25 rfl) rfl), 21, #[.slice (some ⟨ge0, 0, none⟩) 3 ce0], ?_, ?_⟩
      · simp only [execOp, resolve, List.map_toArray, List.map_cons, List.map_nil, e0]
        rfl
      · refine (load_Peak.calls 10 (some ⟨ge0, 0, none⟩) ce0 [⟨1, 0⟩, ⟨1, 0⟩, ⟨-1, 0⟩] 2 0 _ (C_of_rowAt k23 enc23 (fun _ => rfl) (fun w x => k23_mk w x) (xs := [⟨1, 0⟩, ⟨1, 0⟩, ⟨-1, 0⟩]) (by decide) hre0) hce0 (by kernel_rfl)).mono ?_
        rintro e w' ⟨rfl, hb⟩
        exact ⟨_, rfl, hb, rfl⟩
    · refine owes_pv0 (fun E vs a w hI hE hp => ?_)
      have e0 := hI.outer (d := 1) (by rfl) rfl
      have hb := blk_below B1.out hI.world.2
      have k0 := (blk_cell hb 0).trans rfl
      have k1 := (blk_cell hb 1).trans rfl
      clear hb
      refine ⟨wanted_of hI 25 rfl rfl rfl rfl (show a.eval (.tmp 58) = .bool true from hI.pv 25 rfl rfl (pred_of hp 25 rfl) rfl), _, ?_, rfl⟩
      simp only [execOp, e0]
      go_simp
    · refine owes_pv0 (fun E vs a w hI hE hp => ?_)
      have e0 : a.eval (.tmp 63) = .agg #[.int .i64 2, .int .i64 0] := hI.pv 30 rfl rfl (pred_of hp 30 rfl) rfl
      have e1 : a.eval (.tmp 64) = .agg #[.int .i64 2, .int .i64 0] := hI.pv 31 rfl rfl (pred_of hp 31 rfl) rfl
      refine ⟨wanted_of hI 25 rfl rfl rfl rfl (show a.eval (.tmp 58) = .bool true from hI.pv 25 rfl rfl (pred_of hp 25 rfl) rfl), _, ?_, rfl⟩
      simp only [execOp, e0, e1]
      first
      | rfl
      | go_simp
    · refine owes_pv0 (fun E vs a w hI hE hp => ?_)
      have e0 : a.eval (.tmp 58) = .bool true := hI.pv 25 rfl rfl (pred_of hp 25 rfl) rfl
      have e1 : a.eval (.tmp 65) = .bool true := hI.pv 32 rfl rfl (pred_of hp 32 rfl) rfl
      refine ⟨rfl, _, ?_, rfl⟩
      simp only [execOp, e0, e1]
      first
      | rfl
      | go_simp
    · refine owes_pv0 (fun E vs a w hI hE hp => ?_)
      have e0 : a.eval (.tmp 66) = .bool true := hI.pv 33 rfl rfl (pred_of hp 33 rfl) rfl
      refine ⟨rfl, _, ?_, rfl⟩
      simp only [execOp, e0]
      rfl
    · refine owes_pv0 (fun E vs a w hI hE hp => ?_)
      have e0 := hI.outer (d := 1) (by rfl) rfl
      have hb := blk_below B1.out hI.world.2
      have k0 := (blk_cell hb 0).trans rfl
      have k1 := (blk_cell hb 1).trans rfl
      clear hb
      refine ⟨wanted_of hI 34 rfl rfl rfl rfl (show a.eval (.tmp 67) = .bool true from hI.pv 34 rfl rfl (pred_of hp 34 rfl) rfl), _, ?_, rfl⟩
      simp only [execOp, e0]
      go_simp
    · refine owes_pv0 (fun E vs a w hI hE hp => ?_)
      have e0 := hI.outer (d := 2) (by rfl) rfl
      have hb := blk_below B2.out hI.world.2
      have k0 := (blk_cell hb 0).trans rfl
      have k1 := (blk_cell hb 1).trans rfl
      clear hb
      refine ⟨wanted_of hI 34 rfl rfl rfl rfl (show a.eval (.tmp 67) = .bool true from hI.pv 34 rfl rfl (pred_of hp 34 rfl) rfl), _, ?_, rfl⟩
      simp only [execOp, e0]
      go_simp
    · refine owes_pv0 (fun E vs a w hI hE hp => ?_)
      have e0 := hI.outer (d := 2) (by rfl) rfl
      have hb := blk_below B2.out hI.world.2
      have k0 := (blk_cell hb 0).trans rfl
      have k1 := (blk_cell hb 1).trans rfl
      clear hb
      refine ⟨wanted_of hI 34 rfl rfl rfl rfl (show a.eval (.tmp 67) = .bool true from hI.pv 34 rfl rfl (pred_of hp 34 rfl) rfl), _, ?_, rfl⟩
      simp only [execOp, e0]
      go_simp
    · refine owes_pv0 (fun E vs a w hI hE hp => ?_)
      have e0 := hI.outer (d := 3) (by rfl) rfl
      have hb := blk_below B3.out hI.world.2
      have k0 := (blk_cell hb 0).trans rfl
      have k1 := (blk_cell hb 1).trans rfl
      clear hb
      refine ⟨wanted_of hI 34 rfl rfl rfl rfl (show a.eval (.tmp 67) = .bool true from hI.pv 34 rfl rfl (pred_of hp 34 rfl) rfl), _, ?_, rfl⟩
      simp only [execOp, e0]
      go_simp
    · refine owes_pv (fun E vs a w hI hE hp => ?_)
      have e0 : a.eval (.tmp 69) = .agg #[.int .i64 1, .int .i64 0] := hI.pv 36 rfl rfl (pred_of hp 36 rfl) rfl
      have e1 : a.eval (.tmp 70) = .agg #[.int .i64 1, .int .i64 0] := hI.pv 37 rfl rfl (pred_of hp 37 rfl) rfl
      have e2 : a.eval (.tmp 71) = .agg #[.int .i64 (-1), .int .i64 0] := hI.pv 38 rfl rfl (pred_of hp 38 rfl) rfl
      refine ⟨wanted_of hI 34 rfl rfl rfl rfl (show a.eval (.tmp 67) = .bool true from hI.pv 34 rfl rfl (pred_of hp 34 rfl) rfl), _, w.alloc (.cells #[.int .i64 1, .int .i64 0, .int .i64 1, .int .i64 0, .int .i64 (-1), .int .i64 0] 23 (0, 0)), ?_, below_alloc (Below.refl _ _) _, ⟨w.heap.size, 3, rfl, Nat.le_refl _, rowAt_new w _ _⟩⟩
      simp only [execOp, List.map_toArray, List.map_cons, List.map_nil, e0, e1, e2]
      go_simp
    · refine owes_pvc (fun E vs a w hI hE hp => ?_)
      have e0 : a.eval (.tmp 68) = .agg #[.int .i64 2, .int .i64 0] := hI.pv 35 rfl rfl (pred_of hp 35 rfl) rfl
      obtain ⟨ge1, ce1, e1, hce1, hre1⟩ := hI.pv 39 rfl rfl (pred_of hp 39 rfl) rfl
      refine ⟨wanted_of hI 34 rfl rfl rfl rfl (show a.eval (.tmp 67) = .bool true from hI.pv 34 rfl rfl (pred_of hp 34 rfl) rfl), 19, #[.agg #[.int .i64 2, .int .i64 0], .slice (some ⟨ge1, 0, none⟩) 3 ce1], ?_, ?_⟩
      · simp only [execOp, resolve, List.map_toArray, List.map_cons, List.map_nil, e0, e1]
        rfl
      · refine (load_First.calls 2 0 (some ⟨ge1, 0, none⟩) ce1 [⟨1, 0⟩, ⟨1, 0⟩, ⟨-1, 0⟩] (-1) _ (C_of_rowAt k23 enc23 (fun _ => rfl) (fun w x => k23_mk w x) (xs := [⟨1, 0⟩, ⟨1, 0⟩, ⟨-1, 0⟩]) (by decide) hre1) hce1 (by kernel_rfl)).mono ?_
        rintro e w' ⟨rfl, hb⟩
        exact ⟨_, rfl, hb, rfl⟩
    · refine owes_pv0 (fun E vs a w hI hE hp => ?_)
      have e0 : a.eval (.tmp 73) = .int .i64 (-1) := hI.pv 40 rfl rfl (pred_of hp 40 rfl) rfl
      refine ⟨wanted_of hI 34 rfl rfl rfl rfl (show a.eval (.tmp 67) = .bool true from hI.pv 34 rfl rfl (pred_of hp 34 rfl) rfl), _, ?_, rfl⟩
      simp only [execOp, e0]
      first
      | rfl
      | go_simp
    · refine owes_pv0 (fun E vs a w hI hE hp => ?_)
      have e0 : a.eval (.tmp 67) = .bool true := hI.pv 34 rfl rfl (pred_of hp 34 rfl) rfl
      have e1 : a.eval (.tmp 74) = .bool true := hI.pv 41 rfl rfl (pred_of hp 41 rfl) rfl
      refine ⟨rfl, _, ?_, rfl⟩
      simp only [execOp, e0, e1]
      first
      | rfl
      | go_simp
    · refine owes_pv0 (fun E vs a w hI hE hp => ?_)
      have e0 : a.eval (.tmp 75) = .bool true := hI.pv 42 rfl rfl (pred_of hp 42 rfl) rfl
      refine ⟨rfl, _, ?_, rfl⟩
      simp only [execOp, e0]
      rfl
    · refine owes_pv0 (fun E vs a w hI hE hp => ?_)
      have e0 := hI.outer (d := 1) (by rfl) rfl
      have hb := blk_below B1.out hI.world.2
      have k0 := (blk_cell hb 0).trans rfl
      have k1 := (blk_cell hb 1).trans rfl
      clear hb
      refine ⟨wanted_of hI 43 rfl rfl rfl rfl (show a.eval (.tmp 76) = .bool true from hI.pv 43 rfl rfl (pred_of hp 43 rfl) rfl), _, ?_, rfl⟩
      simp only [execOp, e0]
      go_simp
    · refine owes_pv0 (fun E vs a w hI hE hp => ?_)
      have e0 := hI.outer (d := 2) (by rfl) rfl
      have hb := blk_below B2.out hI.world.2
      have k0 := (blk_cell hb 0).trans rfl
      have k1 := (blk_cell hb 1).trans rfl
      clear hb
      refine ⟨wanted_of hI 43 rfl rfl rfl rfl (show a.eval (.tmp 76) = .bool true from hI.pv 43 rfl rfl (pred_of hp 43 rfl) rfl), _, ?_, rfl⟩
      simp only [execOp, e0]
      go_simp
    · refine owes_pv0 (fun E vs a w hI hE hp => ?_)
      have e0 := hI.outer (d := 2) (by rfl) rfl
      have hb := blk_below B2.out hI.world.2
      have k0 := (blk_cell hb 0).trans rfl
      have k1 := (blk_cell hb 1).trans rfl
      clear hb
      refine ⟨wanted_of hI 43 rfl rfl rfl rfl (show a.eval (.tmp 76) = .bool true from hI.pv 43 rfl rfl (pred_of hp 43 rfl) rfl), _, ?_, rfl⟩
      simp only [execOp, e0]
      go_simp
    · refine owes_pv0 (fun E vs a w hI hE hp => ?_)
      have e0 := hI.outer (d := 2) (by rfl) rfl
      have hb := blk_below B2.out hI.world.2
      have k0 := (blk_cell hb 0).trans rfl
      have k1 := (blk_cell hb 1).trans rfl
      clear hb
      refine ⟨wanted_of hI 43 rfl rfl rfl rfl (show a.eval (.tmp 76) = .bool true from hI.pv 43 rfl rfl (pred_of hp 43 rfl) rfl), _, ?_, rfl⟩
      simp only [execOp, e0]
      go_simp
    · refine owes_pv (fun E vs a w hI hE hp => ?_)
      have e0 : a.eval (.tmp 78) = .agg #[.int .i64 1, .int .i64 0] := hI.pv 45 rfl rfl (pred_of hp 45 rfl) rfl
      have e1 : a.eval (.tmp 79) = .agg #[.int .i64 1, .int .i64 0] := hI.pv 46 rfl rfl (pred_of hp 46 rfl) rfl
      have e2 : a.eval (.tmp 80) = .agg #[.int .i64 1, .int .i64 0] := hI.pv 47 rfl rfl (pred_of hp 47 rfl) rfl
      refine ⟨wanted_of hI 43 rfl rfl rfl rfl (show a.eval (.tmp 76) = .bool true from hI.pv 43 rfl rfl (pred_of hp 43 rfl) rfl), _, w.alloc (.cells #[.int .i64 1, .int .i64 0, .int .i64 1, .int .i64 0, .int .i64 1, .int .i64 0] 23 (0, 0)), ?_, below_alloc (Below.refl _ _) _, ⟨w.heap.size, 3, rfl, Nat.le_refl _, rowAt_new w _ _⟩⟩
      simp only [execOp, List.map_toArray, List.map_cons, List.map_nil, e0, e1, e2]
      go_simp
    · refine owes_pvc (fun E vs a w hI hE hp => ?_)
      have e0 : a.eval (.tmp 77) = .agg #[.int .i64 2, .int .i64 0] := hI.pv 44 rfl rfl (pred_of hp 44 rfl) rfl
      obtain ⟨ge1, ce1, e1, hce1, hre1⟩ := hI.pv 48 rfl rfl (pred_of hp 48 rfl) rfl
      refine ⟨wanted_of hI 43 rfl rfl rfl rfl (show a.eval (.tmp 76) = .bool true from hI.pv 43 rfl rfl (pred_of hp 43 rfl) rfl), 19, #[.agg #[.int .i64 2, .int .i64 0], .slice (some ⟨ge1, 0, none⟩) 3 ce1], ?_, ?_⟩
      · simp only [execOp, resolve, List.map_toArray, List.map_cons, List.map_nil, e0, e1]
        rfl
      · refine (load_First.calls 2 0 (some ⟨ge1, 0, none⟩) ce1 [⟨1, 0⟩, ⟨1, 0⟩, ⟨1, 0⟩] 2 _ (C_of_rowAt k23 enc23 (fun _ => rfl) (fun w x => k23_mk w x) (xs := [⟨1, 0⟩, ⟨1, 0⟩, ⟨1, 0⟩]) (by decide) hre1) hce1 (by kernel_rfl)).mono ?_
        rintro e w' ⟨rfl, hb⟩
        exact ⟨_, rfl, hb, rfl⟩
    · refine owes_pv0 (fun E vs a w hI hE hp => ?_)
      have e0 : a.eval (.tmp 82) = .int .i64 2 := hI.pv 49 rfl rfl (pred_of hp 49 rfl) rfl
      refine ⟨wanted_of hI 43 rfl rfl rfl rfl (show a.eval (.tmp 76) = .bool true from hI.pv 43 rfl rfl (pred_of hp 43 rfl) rfl), _, ?_, rfl⟩
      simp only [execOp, e0]
      first
      | rfl
      | go_simp
    · refine owes_pv0 (fun E vs a w hI hE hp => ?_)
      have e0 : a.eval (.tmp 76) = .bool true := hI.pv 43 rfl rfl (pred_of hp 43 rfl) rfl
      have e1 : a.eval (.tmp 83) = .bool true := hI.pv 50 rfl rfl (pred_of hp 50 rfl) rfl
      refine ⟨rfl, _, ?_, rfl⟩
      simp only [execOp, e0, e1]
      first
      | rfl
      | go_simp
    · refine owes_pv0 (fun E vs a w hI hE hp => ?_)
      have e0 : a.eval (.tmp 84) = .bool true := hI.pv 51 rfl rfl (pred_of hp 51 rfl) rfl
      refine ⟨rfl, _, ?_, rfl⟩
      simp only [execOp, e0]
      rfl
    · refine owes_pv0 (fun E vs a w hI hE hp => ?_)
      have e0 := hI.outer (d := 1) (by rfl) rfl
      have hb := blk_below B1.out hI.world.2
      have k0 := (blk_cell hb 0).trans rfl
      have k1 := (blk_cell hb 1).trans rfl
      clear hb
      refine ⟨wanted_of hI 52 rfl rfl rfl rfl (show a.eval (.tmp 85) = .bool true from hI.pv 52 rfl rfl (pred_of hp 52 rfl) rfl), _, ?_, rfl⟩
      simp only [execOp, e0]
      go_simp
    · refine owes_pv0 (fun E vs a w hI hE hp => ?_)
      have e0 := hI.outer (d := 2) (by rfl) rfl
      have hb := blk_below B2.out hI.world.2
      have k0 := (blk_cell hb 0).trans rfl
      have k1 := (blk_cell hb 1).trans rfl
      clear hb
      refine ⟨wanted_of hI 52 rfl rfl rfl rfl (show a.eval (.tmp 85) = .bool true from hI.pv 52 rfl rfl (pred_of hp 52 rfl) rfl), _, ?_, rfl⟩
      simp only [execOp, e0]
      go_simp
    · refine owes_pvc (fun E vs a w hI hE hp => ?_)
      have e0 : a.eval (.tmp 86) = .agg #[.int .i64 2, .int .i64 0] := hI.pv 53 rfl rfl (pred_of hp 53 rfl) rfl
      have e1 : a.eval (.tmp 87) = .agg #[.int .i64 1, .int .i64 0] := hI.pv 54 rfl rfl (pred_of hp 54 rfl) rfl
      refine ⟨wanted_of hI 52 rfl rfl rfl rfl (show a.eval (.tmp 85) = .bool true from hI.pv 52 rfl rfl (pred_of hp 52 rfl) rfl), 15, #[.agg #[.int .i64 2, .int .i64 0], .agg #[.int .i64 1, .int .i64 0]], ?_, ?_⟩
      · simp only [execOp, resolve, List.map_toArray, List.map_cons, List.map_nil, e0, e1]
        rfl
      · refine (load_Fits.calls 2 0 1 0 true _ (by kernel_rfl)).mono ?_
        rintro e w' ⟨rfl, hb⟩
        exact ⟨_, rfl, hb, rfl⟩
    · refine owes_pv0 (fun E vs a w hI hE hp => ?_)
      have e0 : a.eval (.tmp 85) = .bool true := hI.pv 52 rfl rfl (pred_of hp 52 rfl) rfl
      have e1 : a.eval (.tmp 88) = .bool true := hI.pv 55 rfl rfl (pred_of hp 55 rfl) rfl
      refine ⟨rfl, _, ?_, rfl⟩
      simp only [execOp, e0, e1]
      first
      | rfl
      | go_simp
    · refine owes_pv0 (fun E vs a w hI hE hp => ?_)
      have e0 : a.eval (.tmp 89) = .bool true := hI.pv 56 rfl rfl (pred_of hp 56 rfl) rfl
      refine ⟨rfl, _, ?_, rfl⟩
      simp only [execOp, e0]
      rfl
    · refine owes_pv0 (fun E vs a w hI hE hp => ?_)
      have e0 := hI.outer (d := 1) (by rfl) rfl
      have hb := blk_below B1.out hI.world.2
      have k0 := (blk_cell hb 0).trans rfl
      have k1 := (blk_cell hb 1).trans rfl
      clear hb
      refine ⟨wanted_of hI 57 rfl rfl rfl rfl (show a.eval (.tmp 90) = .bool true from hI.pv 57 rfl rfl (pred_of hp 57 rfl) rfl), _, ?_, rfl⟩
      simp only [execOp, e0]
      go_simp
    · refine owes_pv0 (fun E vs a w hI hE hp => ?_)
      have e0 := hI.outer (d := 3) (by rfl) rfl
      have hb := blk_below B3.out hI.world.2
      have k0 := (blk_cell hb 0).trans rfl
      have k1 := (blk_cell hb 1).trans rfl
      clear hb
      refine ⟨wanted_of hI 57 rfl rfl rfl rfl (show a.eval (.tmp 90) = .bool true from hI.pv 57 rfl rfl (pred_of hp 57 rfl) rfl), _, ?_, rfl⟩
      simp only [execOp, e0]
      go_simp
    · refine owes_pvc (fun E vs a w hI hE hp => ?_)
      have e0 : a.eval (.tmp 91) = .agg #[.int .i64 2, .int .i64 0] := hI.pv 58 rfl rfl (pred_of hp 58 rfl) rfl
      have e1 : a.eval (.tmp 92) = .agg #[.int .i64 (-1), .int .i64 0] := hI.pv 59 rfl rfl (pred_of hp 59 rfl) rfl
      refine ⟨wanted_of hI 57 rfl rfl rfl rfl (show a.eval (.tmp 90) = .bool true from hI.pv 57 rfl rfl (pred_of hp 57 rfl) rfl), 15, #[.agg #[.int .i64 2, .int .i64 0], .agg #[.int .i64 (-1), .int .i64 0]], ?_, ?_⟩
      · simp only [execOp, resolve, List.map_toArray, List.map_cons, List.map_nil, e0, e1]
        rfl
      · refine (load_Fits.calls 2 0 (-1) 0 false _ (by kernel_rfl)).mono ?_
        rintro e w' ⟨rfl, hb⟩
        exact ⟨_, rfl, hb, rfl⟩
    · refine owes_pv0 (fun E vs a w hI hE hp => ?_)
      have e0 : a.eval (.tmp 93) = .bool false := hI.pv 60 rfl rfl (pred_of hp 60 rfl) rfl
      refine ⟨wanted_of hI 57 rfl rfl rfl rfl (show a.eval (.tmp 90) = .bool true from hI.pv 57 rfl rfl (pred_of hp 57 rfl) rfl), _, ?_, rfl⟩
      simp only [execOp, e0]
      first
      | rfl
      | go_simp
    · refine owes_pv0 (fun E vs a w hI hE hp => ?_)
      have e0 : a.eval (.tmp 90) = .bool true := hI.pv 57 rfl rfl (pred_of hp 57 rfl) rfl
      have e1 : a.eval (.tmp 94) = .bool true := hI.pv 61 rfl rfl (pred_of hp 61 rfl) rfl
      refine ⟨rfl, _, ?_, rfl⟩
      simp only [execOp, e0, e1]
      first
      | rfl
      | go_simp
    · refine owes_pv0 (fun E vs a w hI hE hp => ?_)
      have e0 : a.eval (.tmp 95) = .bool true := hI.pv 62 rfl rfl (pred_of hp 62 rfl) rfl
      refine ⟨rfl, _, ?_, rfl⟩
      simp only [execOp, e0]
      rfl
    · refine owes_pv0 (fun E vs a w hI hE hp => ?_)
      have e0 := hI.outer (d := 1) (by rfl) rfl
      have hb := blk_below B1.out hI.world.2
      have k0 := (blk_cell hb 0).trans rfl
      have k1 := (blk_cell hb 1).trans rfl
      clear hb
      refine ⟨wanted_of hI 63 rfl rfl rfl rfl (show a.eval (.tmp 96) = .bool true from hI.pv 63 rfl rfl (pred_of hp 63 rfl) rfl), _, ?_, rfl⟩
      simp only [execOp, e0]
      go_simp
    · refine owes_pvc (fun E vs a w hI hE hp => ?_)
      have e0 : a.eval (.tmp 97) = .agg #[.int .i64 2, .int .i64 0] := hI.pv 64 rfl rfl (pred_of hp 64 rfl) rfl
      refine ⟨wanted_of hI 63 rfl rfl rfl rfl (show a.eval (.tmp 96) = .bool true from hI.pv 63 rfl rfl (pred_of hp 63 rfl) rfl), 13, #[.agg #[.int .i64 2, .int .i64 0]], ?_, ?_⟩
      · simp only [execOp, resolve, List.map_toArray, List.map_cons, List.map_nil, e0]
        rfl
      · refine (load_Right.calls 2 0 true _ (by kernel_rfl)).mono ?_
        rintro e w' ⟨rfl, hb⟩
        exact ⟨_, rfl, hb, rfl⟩
    · refine owes_pv0 (fun E vs a w hI hE hp => ?_)
      have e0 : a.eval (.tmp 96) = .bool true := hI.pv 63 rfl rfl (pred_of hp 63 rfl) rfl
      have e1 : a.eval (.tmp 98) = .bool true := hI.pv 65 rfl rfl (pred_of hp 65 rfl) rfl
      refine ⟨rfl, _, ?_, rfl⟩
      simp only [execOp, e0, e1]
      first
      | rfl
      | go_simp
    · refine owes_pv0 (fun E vs a w hI hE hp => ?_)
      have e0 : a.eval (.tmp 99) = .bool true := hI.pv 66 rfl rfl (pred_of hp 66 rfl) rfl
      refine ⟨rfl, _, ?_, rfl⟩
      simp only [execOp, e0]
      rfl
    · refine owes_pv0 (fun E vs a w hI hE hp => ?_)
      have e0 := hI.outer (d := 3) (by rfl) rfl
      have hb := blk_below B3.out hI.world.2
      have k0 := (blk_cell hb 0).trans rfl
      have k1 := (blk_cell hb 1).trans rfl
      clear hb
      refine ⟨wanted_of hI 67 rfl rfl rfl rfl (show a.eval (.tmp 100) = .bool true from hI.pv 67 rfl rfl (pred_of hp 67 rfl) rfl), _, ?_, rfl⟩
      simp only [execOp, e0]
      go_simp
    · refine owes_pvc (fun E vs a w hI hE hp => ?_)
      have e0 : a.eval (.tmp 101) = .agg #[.int .i64 (-1), .int .i64 0] := hI.pv 68 rfl rfl (pred_of hp 68 rfl) rfl
      refine ⟨wanted_of hI 67 rfl rfl rfl rfl (show a.eval (.tmp 100) = .bool true from hI.pv 67 rfl rfl (pred_of hp 67 rfl) rfl), 13, #[.agg #[.int .i64 (-1), .int .i64 0]], ?_, ?_⟩
      · simp only [execOp, resolve, List.map_toArray, List.map_cons, List.map_nil, e0]
        rfl
      · refine (load_Right.calls (-1) 0 false _ (by kernel_rfl)).mono ?_
        rintro e w' ⟨rfl, hb⟩
        exact ⟨_, rfl, hb, rfl⟩
    · refine owes_pv0 (fun E vs a w hI hE hp => ?_)
      have e0 : a.eval (.tmp 102) = .bool false := hI.pv 69 rfl rfl (pred_of hp 69 rfl) rfl
      refine ⟨wanted_of hI 67 rfl rfl rfl rfl (show a.eval (.tmp 100) = .bool true from hI.pv 67 rfl rfl (pred_of hp 67 rfl) rfl), _, ?_, rfl⟩
      simp only [execOp, e0]
      first
      | rfl
      | go_simp
    · refine owes_pv0 (fun E vs a w hI hE hp => ?_)
      have e0 : a.eval (.tmp 100) = .bool true := hI.pv 67 rfl rfl (pred_of hp 67 rfl) rfl
      have e1 : a.eval (.tmp 103) = .bool true := hI.pv 70 rfl rfl (pred_of hp 70 rfl) rfl
      refine ⟨rfl, _, ?_, rfl⟩
      simp only [execOp, e0, e1]
      first
      | rfl
      | go_simp
    · refine owes_pv0 (fun E vs a w hI hE hp => ?_)
      have e0 : a.eval (.tmp 104) = .bool true := hI.pv 71 rfl rfl (pred_of hp 71 rfl) rfl
      refine ⟨rfl, _, ?_, rfl⟩
      simp only [execOp, e0]
      rfl
    · refine owes_pv0 (fun E vs a w hI hE hp => ?_)
      have e0 := hI.outer (d := 2) (by rfl) rfl
      have hb := blk_below B2.out hI.world.2
      have k0 := (blk_cell hb 0).trans rfl
      have k1 := (blk_cell hb 1).trans rfl
      clear hb
      refine ⟨wanted_of hI 72 rfl rfl rfl rfl (show a.eval (.tmp 105) = .bool true from hI.pv 72 rfl rfl (pred_of hp 72 rfl) rfl), _, ?_, rfl⟩
      simp only [execOp, e0]
      go_simp
    · refine owes_pvc (fun E vs a w hI hE hp => ?_)
      have e0 : a.eval (.tmp 106) = .agg #[.int .i64 1, .int .i64 0] := hI.pv 73 rfl rfl (pred_of hp 73 rfl) rfl
      refine ⟨wanted_of hI 72 rfl rfl rfl rfl (show a.eval (.tmp 105) = .bool true from hI.pv 72 rfl rfl (pred_of hp 72 rfl) rfl), 11, #[.agg #[.int .i64 1, .int .i64 0]], ?_, ?_⟩
      · simp only [execOp, resolve, List.map_toArray, List.map_cons, List.map_nil, e0]
        rfl
      · refine (load_Neg.calls 1 0 (-1) 0 _ (by kernel_rfl)).mono ?_
        rintro e w' ⟨rfl, hb⟩
        exact ⟨_, rfl, hb, rfl⟩
    · refine owes_pv0 (fun E vs a w hI hE hp => ?_)
      have e0 := hI.outer (d := 3) (by rfl) rfl
      have hb := blk_below B3.out hI.world.2
      have k0 := (blk_cell hb 0).trans rfl
      have k1 := (blk_cell hb 1).trans rfl
      clear hb
      refine ⟨wanted_of hI 72 rfl rfl rfl rfl (show a.eval (.tmp 105) = .bool true from hI.pv 72 rfl rfl (pred_of hp 72 rfl) rfl), _, ?_, rfl⟩
      simp only [execOp, e0]
      go_simp
    · refine owes_pv0 (fun E vs a w hI hE hp => ?_)
      have e0 : a.eval (.tmp 107) = .agg #[.int .i64 (-1), .int .i64 0] := hI.pv 74 rfl rfl (pred_of hp 74 rfl) rfl
      have e1 : a.eval (.tmp 108) = .agg #[.int .i64 (-1), .int .i64 0] := hI.pv 75 rfl rfl (pred_of hp 75 rfl) rfl
      refine ⟨wanted_of hI 72 rfl rfl rfl rfl (show a.eval (.tmp 105) = .bool true from hI.pv 72 rfl rfl (pred_of hp 72 rfl) rfl), _, ?_, rfl⟩
      simp only [execOp, e0, e1]
      first
      | rfl
      | go_simp
    · refine owes_pv0 (fun E vs a w hI hE hp => ?_)
      have e0 : a.eval (.tmp 105) = .bool true := hI.pv 72 rfl rfl (pred_of hp 72 rfl) rfl
      have e1 : a.eval (.tmp 109) = .bool true := hI.pv 76 rfl rfl (pred_of hp 76 rfl) rfl
      refine ⟨rfl, _, ?_, rfl⟩
      simp only [execOp, e0, e1]
      first
      | rfl
      | go_simp
    · refine owes_pv0 (fun E vs a w hI hE hp => ?_)
      have e0 : a.eval (.tmp 110) = .bool true := hI.pv 77 rfl rfl (pred_of hp 77 rfl) rfl
      refine ⟨rfl, _, ?_, rfl⟩
      simp only [execOp, e0]
      rfl
  case hend =>
    intro E vs a W hI hall
    have e0 : a.eval (.tmp 0) = .bool true := hI.pv 78 rfl rfl (hall 78 (by decide)) rfl
    have HB4 := Aside0.mk hI.world.2
    have e1 : a.tmps.getD 0 undef = .bool true := e0
    have e2 : a.defers = [] := hI.defers
    clear hI hall
    go_wp2
    refine bodyPost_ret (v := .bool true) ((results_tmp (t := 0) rfl _ _ _).trans (by rw [e1])) e2 ⟨rfl, ?_⟩
    have k1 := HB1.out
    have k2 := HB2.out
    have k3 := HB3.out
    have h1 : Below w.heap.size w w1 := ((((Below.refl _ _).alloc (Nat.le_refl _) _).alloc (by simp) _).alloc (by simp; omega) _).trans (k1.mono (by simp; omega))
    have h2 : Below w.heap.size w w2 := (h1.alloc h1.size _).trans (k2.mono (by have := h1.size; simp; omega))
    have h3 : Below w.heap.size w w3 := ((h2.alloc h2.size _).alloc (by have := h2.size; simp; omega) _).trans (k3.mono (by have := h2.size; simp; omega))
    exact h3.trans (HB4.out.mono h3.size)

end Go.Proofs.Ytocoapfnkkmkiaa.P
