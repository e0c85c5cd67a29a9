/- The reader's stop with its spot (printed by genstop.py out of StopZ's walk). The reader's stop, joined. The reader's row of times. An instance, line by line: the plain answer; what is known of a row beside others. P12 -/
import Derived.Test.YtcdmndhaeiccoaaGreatDoorMkit
import Derived.Test.YtcdmndhaeiccoaaGreatDoorM09
import Derived.Test.YtcdmndhaeiccoaaGreatDoorM00
import Derived.Test.YtcdmndhaeiccoaaGreatDoorM03
namespace Go.Proofs.YtcdmndhaeiccoaaGreatDoor.P
open Go Go.Proofs.YtcdmndhaeiccoaaGreatDoorR
open Go.RowKit Go.Proofs.YtcdmndhaeiccoaaGreatDoorW.PrintWords Go.Proofs.YtcdmndhaeiccoaaGreatDoorW.PrintLast
set_option linter.unusedVariables false
set_option linter.unusedSimpArgs false
set_option maxHeartbeats 8000000
set_option maxRecDepth 100000
theorem small_inB {l : List UInt8} {n : Int} (h : smallL l 16777216 = (n, 0)) : InB n := by
  unfold smallL at h
  split at h
  · split at h
    · exact absurd (Prod.mk.inj h).2 (by decide)
    · rename_i hc
      obtain ⟨rfl, -⟩ := Prod.mk.inj h
      exact ⟨by omega, by omega⟩
  · rename_i hc
    exact absurd (Prod.mk.inj h).2 hc
theorem run_store_complex {P : Program} {w : World} {a : Addr} (k : FloatKind) (x y : Nat) (m : Mode) : (store a (.complex k x y) m).run P w = stored P w a (.complex k x y) m := run_store P w a _ m rfl
attribute [local go_sem] run_store_complex
theorem stop_spots (b l : Nat) (L : Value) (ws0 : List ByteArray) (sc : Int) (ls : List ByteArray) (x0 x1 x2 x3 x4 x5 x6 : ByteArray) (w : World) (h : Rdr w b L l ws0 sc) (hL : Left w b L ls) (hb : l ≤ 20000) (hsz : ∀ t ∈ ls, t.size ≤ 3000)
    (hM : nextM ls l bStop 8 = .ok [x0, x1, x2, x3, x4, x5, x6]) (a0 e0 a1 e1 a2 e2 a3 e3 a4 e4 a5 e5 a6 e6 : Int) (h0 : smallL x0.data.toList 16777216 = (a0, e0)) (h1 : smallL x1.data.toList 16777216 = (a1, e1)) (h2 : smallL x2.data.toList 1000 = (a2, e2)) (h3 : smallL x3.data.toList 1000 = (a3, e3)) (h4 : readL x4.data.toList sc = (a4, e4)) (h5 : readL x5.data.toList sc = (a5, e5)) (h6 : readL x6.data.toList sc = (a6, e6)) :
    Calls Tryz.prog 30 #[.pointer (some ⟨b, 0, none⟩), .bool true] w (AnsZ w b (l + 1) (er2 e0 (er2 e1 (er2 (er2 e2 e3) (er2 e4 (er2 e5 e6))))) (.agg #[.int .i64 a2, .int .i64 a3, .int .i64 a4, .int .i64 a5, .int .i64 a6, .complex .f64 (floatOfInt .f64 a0) (floatOfInt .f64 a1)]) (fun w' => Rdr w' b L (l + 1) [] sc)) := by
  have hz := (nextM_ok hM hsz).2
  have B0 := Aside0.mk (below_alloc (below_alloc (Below.refl w.heap.size w) zStop) zStop)
  have R0 := Aside0.mk (h.below B0.out)
  have L0 := Aside0.mk (hL.keep (.of_below B0.out b))
  have HLT := Aside0.mk h.lt
  have G0 := Aside0.mk (show ((w.alloc zStop).alloc zStop).heap[w.heap.size]? = some zStop from heap_alloc2_old w zStop zStop)
  have G1 := Aside0.mk (show ((w.alloc zStop).alloc zStop).heap[w.heap.size + 1]? = some zStop from heap_alloc2_new w zStop zStop)
  obtain ⟨re, hre⟩ : ∃ re, re = floatOfInt .f64 a0 := ⟨_, rfl⟩
  obtain ⟨im, him⟩ : ∃ im, im = floatOfInt .f64 a1 := ⟨_, rfl⟩
  rw [← hre, ← him]
  have CA := Aside0.mk (fun W h h' => show Calls Tryz.prog 61 #[.int .i64 a0, .int .i64 a1] W fun e w' => e = .returned (.tuple #[.complex .f64 re im, .bool true]) ∧ w' = W by rw [hre, him]; exact spot_At.calls a0 a1 h h' W)
  have H0 := Aside0.mk h0
  have H1 := Aside0.mk h1
  have C0 := Aside0.mk (fun W h => sheet_small.ans b L (l + 1) x0 [x1, x2, x3, x4, x5, x6] sc 16777216 (.inr rfl) W h (hz x0 (by simp)) a0 e0 h0)
  have C1 := Aside0.mk (fun W h => sheet_small.ans b L (l + 1) x1 [x2, x3, x4, x5, x6] sc 16777216 (.inr rfl) W h (hz x1 (by simp)) a1 e1 h1)
  have CN := Aside0.mk (fun W h hL => next_ok (w := W) (b := b) (l := l) (L := L) (ws0 := ws0) (sc := sc) h hL hb (by decide) hsz hM)
  have CL := Aside0.mk (fun W h => sheet_load.ans b L (l + 1) x2 x3 [x4, x5, x6] sc W h (hz x2 (by simp)) (hz x3 (by simp)) a2 a3 e2 e3 h2 h3)
  have C4 := Aside0.mk (fun W h => sheet_decimal.ans b L (l + 1) x4 [x5, x6] sc sc W h (hz x4 (by simp)) a4 e4 h4)
  have C5 := Aside0.mk (fun W h => sheet_decimal.ans b L (l + 1) x5 [x6] sc sc W h (hz x5 (by simp)) a5 e5 h5)
  have C6 := Aside0.mk (fun W h => sheet_decimal.ans b L (l + 1) x6 [] sc sc W h (hz x6 (by simp)) a6 e6 h6)
  have N0 := Aside0.mk (show w.heap.size ≠ b by have := HLT.out; omega)
  have N1 := Aside0.mk (show w.heap.size + 1 ≠ b by have := HLT.out; omega)
  clear h hL hz hM h0 h1 h2 h3 h4 h5 h6 hsz hre him
  go_enter Tryz.func30, Tryz.ntmps30
  go_wp2_with (first
    | (go_at_call 28; refine (CL.out _ (rdr_far RB.out GB.out (noStr6 _ _ _ _ _ _ (by simp) (by simp) (by simp) (by simp) (by simp) (by simp)) N1.out 5 _)).mono ?_; rintro r w2 ⟨K2, ⟨he, rfl, R2⟩ | ⟨F2, rfl⟩⟩; rotate_left; exact ⟨rfl, ⟨(keep_far ((KeepW.of_below B0.out b).trans (K1.out.trans (KA.out.trans KB.out))) (by omega) 5 _).trans K2.out⟩, .inr ⟨⟨by rw [er2_z, er2_z, er2_n F2.out]; exact F2.out⟩, by rw [er2_z, er2_z, er2_n F2.out]⟩⟩; clear y0 y1 y2 y3 y4 y5 f0 f1 f2 f3 f4 f5; have HE := Aside0.mk he; have G2 := Aside0.mk (keep_at K2.out (blk_set GB.out 5 _) N1.out); have G3 := Aside0.mk (keep_at K2.out ((Below.heap_setCell _ ⟨w.heap.size + 1, 5, none⟩ _ w.heap.size (by show w.heap.size ≠ w.heap.size + 1; omega)).trans GC.out) N0.out); obtain ⟨⟨y0, y1, y2, y3, y4, y5⟩, f0, f1, f2, f3, f4, f5⟩ := six_of G2.out; clear he)
    | (go_at_call 61; refine (CA.out _ (small_inB H0.out) (small_inB H1.out)).mono ?_; rintro r wx ⟨rfl, rfl⟩)
    | (go_at_call 59; refine (C1.out _ RA.out).mono ?_; rintro r wb ⟨KB, ⟨rfl, rfl, RB⟩ | ⟨FB, rfl⟩⟩; rotate_left; exact ⟨rfl, ⟨(KeepW.of_below B0.out b).trans (K1.out.trans (KA.out.trans KB.out))⟩, .inr ⟨⟨by rw [er2_z, er2_n FB.out]; exact FB.out⟩, by rw [er2_z, er2_n FB.out]⟩⟩; have GB := Aside0.mk (keep_at KB.out (keep_at KA.out (keep_at K1.out G1.out N1.out) N1.out) N1.out); have GC := Aside0.mk (keep_at KB.out (keep_at KA.out (keep_at K1.out G0.out N0.out) N0.out) N0.out); obtain ⟨⟨y0, y1, y2, y3, y4, y5⟩, f0, f1, f2, f3, f4, f5⟩ := six_of GB.out)
    | (go_at_call 59; refine (C0.out _ R1.out).mono ?_; rintro r wa ⟨KA, ⟨rfl, rfl, RA⟩ | ⟨FA, rfl⟩⟩; rotate_left; exact ⟨rfl, ⟨(KeepW.of_below B0.out b).trans (K1.out.trans KA.out)⟩, .inr ⟨⟨by rw [er2_n FA.out]; exact FA.out⟩, by rw [er2_n FA.out]⟩⟩)
    | (go_at_call 27; refine (CN.out _ R0.out L0.out).mono ?_; rintro r w1 ⟨rfl, K1, R1⟩))
  obtain ⟨W4, hW4⟩ : ∃ W4, W4 = (w2.setCell ⟨w.heap.size + 1, 0, none⟩ (.int .i64 a2)).setCell ⟨w.heap.size + 1, 1, none⟩ (.int .i64 a3) := ⟨_, rfl⟩
  rw [← hW4]
  have G4 := Aside0.mk (show W4.heap[w.heap.size + 1]? = some (.cells #[.int .i64 a2, .int .i64 a3, .int .i64 0, .int .i64 0, .int .i64 0, .complex .f64 re im] 63 (0, 0)) by rw [hW4]; exact blk_set (blk_set G2.out 0 _) 1 _)
  have G5 := Aside0.mk (show W4.heap[w.heap.size]? = some zStop by rw [hW4]; exact ((Below.heap_setCell _ ⟨w.heap.size + 1, 1, none⟩ _ w.heap.size (by show w.heap.size ≠ w.heap.size + 1; omega)).trans (Below.heap_setCell _ ⟨w.heap.size + 1, 0, none⟩ _ w.heap.size (by show w.heap.size ≠ w.heap.size + 1; omega))).trans G3.out)
  have KW := Aside0.mk (show KeepW w W4 b by rw [hW4]; exact keep_far (keep_far ((keep_far ((KeepW.of_below B0.out b).trans (K1.out.trans (KA.out.trans KB.out))) (by omega) 5 _).trans K2.out) (by omega) 0 _) (by omega) 1 _)
  have RW := Aside0.mk (show Rdr W4 b L (l + 1) [x4, x5, x6] sc by
    rw [hW4]
    exact rdr_far (rdr_far R2.out G2.out (noStr6 _ _ _ _ _ _ (by simp) (by simp) (by simp) (by simp) (by simp) (by simp)) N1.out 0 _) (blk_set G2.out 0 _) (noStr6 _ _ _ _ _ _ (by simp) (by simp) (by simp) (by simp) (by simp) (by simp)) N1.out 1 _)
  clear hW4 y0 y1 y2 y3 y4 y5 f0 f1 f2 f3 f4 f5 K1 R1 K2 R2 G0 G1 G2 G3 CN CL
  have s3 := RW.out.at3
  have n1 : ¬ (w.heap.size + 1 = b) := N1.out
  have n2 : ¬ (b = w.heap.size + 1) := fun h => N1.out h.symm
  go_region_held2 (fun w' => w'.cell? ⟨b, 3, none⟩ = some (.int .i64 sc)) (first | exact R7.out.at3 | exact R6.out.at3 | exact R5.out.at3 | go_keep) (first
    | (go_at_call 29; refine (C6.out _ R6.out).mono ?_; rintro r w7 ⟨K7, ⟨rfl, rfl, R7⟩ | ⟨F7, rfl⟩⟩; rotate_left; exact ⟨rfl, ⟨KW.out.trans ((keep_drew' K5.out).trans (K6.out.trans K7.out))⟩, .inr ⟨⟨by rw [HE.out]; exact F7.out⟩, by rw [HE.out]; rfl⟩⟩; have G6 := Aside0.mk (keep_at K7.out (keep_at K6.out (keep_at K5.out G4.out N1.out) N1.out) N1.out); have G7 := Aside0.mk (keep_at K7.out (keep_at K6.out (keep_at K5.out G5.out N0.out) N0.out) N0.out); obtain ⟨⟨y0, y1, y2, y3, y4, y5⟩, f0, f1, f2, f3, f4, f5⟩ := six_of G6.out; obtain ⟨⟨u0, u1, u2, u3, u4, u5⟩, v0, v1, v2, v3, v4, v5⟩ := six_of G7.out)
    | (go_at_call 29; refine (C5.out _ R5.out).mono ?_; rintro r w6 ⟨K6, ⟨rfl, rfl, R6⟩ | ⟨F6, rfl⟩⟩; rotate_left; exact ⟨rfl, ⟨KW.out.trans ((keep_drew' K5.out).trans K6.out)⟩, .inr ⟨⟨by rw [HE.out, er2_z, er2_z, er2_z, er2_z, er2_n F6.out]; exact F6.out⟩, by rw [HE.out, er2_z, er2_z, er2_z, er2_z, er2_n F6.out]⟩⟩)
    | (go_at_call 29; refine (C4.out _ (rdr_drew RW.out)).mono ?_; rintro r w5 ⟨K5, ⟨rfl, rfl, R5⟩ | ⟨F5, rfl⟩⟩; rotate_left; exact ⟨rfl, ⟨KW.out.trans (keep_drew' K5.out)⟩, .inr ⟨⟨by rw [HE.out, er2_z, er2_z, er2_z, er2_n F5.out]; exact F5.out⟩, by rw [HE.out, er2_z, er2_z, er2_z, er2_n F5.out]⟩⟩))
  obtain ⟨W8, hW8⟩ : ∃ W8, W8 = ((w7.setCell ⟨w.heap.size + 1, 2, none⟩ (.int .i64 a4)).setCell ⟨w.heap.size + 1, 3, none⟩ (.int .i64 a5)).setCell ⟨w.heap.size + 1, 4, none⟩ (.int .i64 a6) := ⟨_, rfl⟩
  rw [← hW8]
  have G8 := Aside0.mk (show W8.heap[w.heap.size + 1]? = some (.cells #[.int .i64 a2, .int .i64 a3, .int .i64 a4, .int .i64 a5, .int .i64 a6, .complex .f64 re im] 63 (0, 0)) by rw [hW8]; exact blk_set (blk_set (blk_set G6.out 2 _) 3 _) 4 _)
  have hh : w.heap.size ≠ w.heap.size + 1 := by omega
  have G9 := Aside0.mk (show W8.heap[w.heap.size]? = some zStop by rw [hW8]; exact ((Below.heap_setCell _ ⟨w.heap.size + 1, 4, none⟩ _ _ hh).trans ((Below.heap_setCell _ ⟨w.heap.size + 1, 3, none⟩ _ _ hh).trans (Below.heap_setCell _ ⟨w.heap.size + 1, 2, none⟩ _ _ hh))).trans G7.out)
  have KW8 := Aside0.mk (show KeepW w W8 b by rw [hW8]; exact keep_far (keep_far (keep_far (KW.out.trans ((keep_drew' K5.out).trans (K6.out.trans K7.out))) (by omega) 2 _) (by omega) 3 _) (by omega) 4 _)
  have RW8 := Aside0.mk (show Rdr W8 b L (l + 1) [] sc by
    rw [hW8]
    have hs : ∀ c0 c1 c2 c3 c4 : Int, NoStr #[.int .i64 c0, .int .i64 c1, .int .i64 c2, .int .i64 c3, .int .i64 c4, .complex .f64 re im] := fun _ _ _ _ _ => noStr6 _ _ _ _ _ _ (by simp) (by simp) (by simp) (by simp) (by simp) (by simp)
    exact rdr_far (rdr_far (rdr_far R7.out G6.out (hs _ _ _ _ _) N1.out 2 _) (blk_set G6.out 2 _) (hs _ _ _ _ _) N1.out 3 _) (blk_set (blk_set G6.out 2 _) 3 _) (hs _ _ _ _ _) N1.out 4 _)
  clear hW8 y0 y1 y2 y3 y4 y5 f0 f1 f2 f3 f4 f5 u0 u1 u2 u3 u4 u5 v0 v1 v2 v3 v4 v5 G4 G5 G6 G7 KW RW K5 K6 K7 R5 R6 R7 hh s3
  go_upto_region 9 with fail
  refine wp_region_list ?_
  refine wpList_load_row rfl 63 (.tmp 5) rfl (w.heap.size + 1) rfl 63 #[.int .i64 a2, .int .i64 a3, .int .i64 a4, .int .i64 a5, .int .i64 a6, .complex .f64 re im] (0, 0) _ G8.out Tryz.underlying63 rfl (by kernel_rfl) ?_
  refine wpList_store_row rfl 63 (.tmp 4) (.tmp 46) rfl w.heap.size #[.int .i64 a2, .int .i64 a3, .int .i64 a4, .int .i64 a5, .int .i64 a6, .complex .f64 re im] rfl rfl 63 _ G9.out (by kernel_rfl) rfl (by simp [Value.oneCell']) ?_
  go_wp2
  refine bodyPost_ret (results_cell_row rfl _ _ w.heap.size 63 #[.int .i64 a2, .int .i64 a3, .int .i64 a4, .int .i64 a5, .int .i64 a6, .complex .f64 re im] (0, 0) _ rfl (setRow_heap _ _ _ _ _ _ G9.out) Tryz.underlying63 rfl (by kernel_rfl)) rfl ?_
  refine ⟨⟨keep_row KW8.out (Nat.le_refl _) _⟩, .inl ⟨?_, rfl, ⟨rdr_row RW8.out G9.out (noStr6 _ _ _ _ _ _ (by simp) (by simp) (by simp) (by simp) (by simp) (by simp)) N0.out _⟩⟩⟩
  rw [HE.out]
  rfl
end Go.Proofs.YtcdmndhaeiccoaaGreatDoor.P
namespace Go.Proofs.YtcdmndhaeiccoaaGreatDoor.P
open Go Go.Proofs.YtcdmndhaeiccoaaGreatDoorR
open Go.RowKit Go.Proofs.YtcdmndhaeiccoaaGreatDoorW.PrintWords Go.Proofs.YtcdmndhaeiccoaaGreatDoorW.PrintLast
set_option linter.unusedVariables false
set_option linter.unusedSimpArgs false
set_option maxHeartbeats 8000000
set_option maxRecDepth 100000
/-- A line's kind, read: a value, or an error. -/
def okE {α : Type} (p : α × Int) : Except Int α := if p.2 = 0 then .ok p.1 else .error p.2
def stopE (sp : Bool) (ws : List ByteArray) (sc : Int) : S63 × Int :=
  match sp, ws with
  | true, [x0, x1, x2, x3, x4, x5, x6] => (⟨⟨(smallL x2.data.toList 1000).1, (smallL x3.data.toList 1000).1⟩, (readL x4.data.toList sc).1, (readL x5.data.toList sc).1, (readL x6.data.toList sc).1, (floatOfInt .f64 (smallL x0.data.toList 16777216).1, floatOfInt .f64 (smallL x1.data.toList 16777216).1)⟩,
      er2 (smallL x0.data.toList 16777216).2 (er2 (smallL x1.data.toList 16777216).2 (er2 (er2 (smallL x2.data.toList 1000).2 (smallL x3.data.toList 1000).2) (er2 (readL x4.data.toList sc).2 (er2 (readL x5.data.toList sc).2 (readL x6.data.toList sc).2)))))
  | false, [x2, x3, x4, x5, x6] => (⟨⟨(smallL x2.data.toList 1000).1, (smallL x3.data.toList 1000).1⟩, (readL x4.data.toList sc).1, (readL x5.data.toList sc).1, (readL x6.data.toList sc).1, (0, 0)⟩,
      er2 (er2 (smallL x2.data.toList 1000).2 (smallL x3.data.toList 1000).2) (er2 (readL x4.data.toList sc).2 (er2 (readL x5.data.toList sc).2 (readL x6.data.toList sc).2)))
  | _, _ => (z63, 21)
def bindE {α β : Type} (m : Except Int α) (f : α → Except Int β) : Except Int β := match m with | .error e => .error e | .ok a => f a
def stopN (sp : Bool) : Int := if sp then 8 else 6
def stopM (ls : List ByteArray) (l : Nat) (sp : Bool) (sc : Int) : Except Int S63 := bindE (nextM ls l bStop (stopN sp)) fun ws => okE (stopE sp ws sc)
def encStop (s : S63) : Value := .agg #[.int .i64 s.f0.f0, .int .i64 s.f0.f1, .int .i64 s.f1, .int .i64 s.f2, .int .i64 s.f3, .complex .f64 s.f4.1 s.f4.2]
/-- What a method of the reader comes to: a value and the lines behind, or it gives up at its line. -/
def AnsM {α : Type} (w : World) (b : Nat) (l : Int) (M : Except Int α) (G : α → Ending → World → Prop) (r : Ending) (w' : World) : Prop :=
  Aside0 (KeepW w w' b) ∧ ((∃ x, M = .ok x ∧ G x r w') ∨ (∃ e, M = .error e ∧ r = .panicked (faultC l e)))
theorem AnsM.of_okE {α : Type} {w w' : World} {b : Nat} {l : Int} {p : α × Int} {v : Value} {R : World → Prop} {r : Ending} (h : AnsZ w b l p.2 v R r w') : AnsM w b l (okE p) (fun x r w' => x = p.1 ∧ r = .returned v ∧ Aside0 (R w')) r w' := by
  obtain ⟨k, ⟨h1, h2, h3⟩ | ⟨h1, h2⟩⟩ := h
  · exact ⟨k, .inl ⟨p.1, if_pos h1, rfl, h2, h3⟩⟩
  · exact ⟨k, .inr ⟨p.2, if_neg h1.out, h2⟩⟩
theorem AnsM.mono {α : Type} {w w' : World} {b : Nat} {l : Int} {M : Except Int α} {G G' : α → Ending → World → Prop} {r : Ending} (h : AnsM w b l M G r w') (hG : ∀ x r w', G x r w' → G' x r w') : AnsM w b l M G' r w' :=
  ⟨h.1, h.2.imp (fun ⟨x, h1, h2⟩ => ⟨x, h1, hG _ _ _ h2⟩) id⟩
theorem stop_bad_next (b : Nat) (l e : Int) (sp : Bool) (w : World) (hb : b < w.heap.size) (N : ∀ W, Below w.heap.size w W → Calls Tryz.prog 27 #[.pointer (some ⟨b, 0, none⟩), .string bStop, .int .i64 (stopN sp)] W fun r w' => r = .panicked (faultC l e) ∧ Aside0 (KeepW W w' b)) :
    Calls Tryz.prog 30 #[.pointer (some ⟨b, 0, none⟩), .bool sp] w fun r w' => r = .panicked (faultC l e) ∧ KeepW w w' b := by
  have B0 := Aside0.mk (below_alloc (below_alloc (Below.refl w.heap.size w) zStop) zStop)
  have N1 := Aside0.mk (N _ B0.out)
  clear N
  cases sp
  all_goals
    go_enter Tryz.func30, Tryz.ntmps30
    go_wp2_with (first | (go_at_call 27; refine N1.out.mono ?_; rintro r w1 ⟨rfl, K1⟩))
    exact ⟨rfl, rfl, (KeepW.of_below B0.out b).trans K1.out⟩
/-- stop: a stop's line. -/
theorem sheet_stop.calls (b l : Nat) (L : Value) (ws0 : List ByteArray) (sc : Int) (ls : List ByteArray) (sp : Bool) (w : World) (h : Rdr w b L l ws0 sc) (hL : Left w b L ls) (hb : l ≤ 20000) (hsz : ∀ t ∈ ls, t.size ≤ 3000) :
    Calls Tryz.prog 30 #[.pointer (some ⟨b, 0, none⟩), .bool sp] w (AnsM w b (l + 1) (stopM ls l sp sc) (fun s r w' => r = .returned (encStop s) ∧ Aside0 (Rdr w' b L (l + 1) [] sc))) := by
  unfold stopM
  cases hM : nextM ls l bStop (stopN sp) with
  | error e =>
    exact (stop_bad_next b (l + 1) e sp w h.lt (fun W hW => next_bad (h.below hW) (hL.keep (.of_below hW b)) hb (by cases sp <;> decide) hsz hM)).mono fun r w' k => ⟨⟨k.2⟩, .inr ⟨e, rfl, k.1⟩⟩
  | ok ws =>
    obtain ⟨hlen, -⟩ := nextM_ok hM hsz
    show Calls Tryz.prog 30 _ w (AnsM w b (l + 1) (okE (stopE sp ws sc)) _)
    cases sp with
    | true =>
      match ws, hlen, hM with
      | [x0, x1, x2, x3, x4, x5, x6], _, hM =>
        refine (stop_spots b l L ws0 sc ls x0 x1 x2 x3 x4 x5 x6 w h hL hb hsz hM _ _ _ _ _ _ _ _ _ _ _ _ _ _ rfl rfl rfl rfl rfl rfl rfl).mono fun r w' k => AnsM.mono (AnsM.of_okE (p := stopE true [x0, x1, x2, x3, x4, x5, x6] sc) k) ?_
        rintro x r w' ⟨rfl, h1, h2⟩
        exact ⟨h1, h2⟩
    | false =>
      match ws, hlen, hM with
      | [x2, x3, x4, x5, x6], _, hM =>
        refine (stop_times b l L ws0 sc ls x2 x3 x4 x5 x6 w h hL hb hsz hM _ _ _ _ _ _ _ _ _ _ rfl rfl rfl rfl rfl).mono fun r w' k => AnsM.mono (AnsM.of_okE (p := stopE false [x2, x3, x4, x5, x6] sc) k) ?_
        rintro x r w' ⟨rfl, h1, h2⟩
        exact ⟨h1, h2⟩
end Go.Proofs.YtcdmndhaeiccoaaGreatDoor.P
namespace Go.Proofs.YtcdmndhaeiccoaaGreatDoor.P
open Go Go.Proofs.YtcdmndhaeiccoaaGreatDoorR
open Go.RowKit Go.Proofs.YtcdmndhaeiccoaaGreatDoorW.PrintWords Go.Proofs.YtcdmndhaeiccoaaGreatDoorW.PrintLast
set_option linter.unusedVariables false
set_option linter.unusedSimpArgs false
set_option maxHeartbeats 8000000
set_option maxRecDepth 100000
abbrev bRow : ByteArray := ⟨#[114, 111, 119]⟩
def numsE (sc : Int) : List ByteArray → Except Int (List Int)
  | [] => .ok []
  | x :: t => bindE (okE (readL x.data.toList sc)) fun a => bindE (numsE sc t) fun r => .ok (a :: r)
def rowM (ls : List ByteArray) (l n : Nat) (sc : Int) : Except Int (List Int) := bindE (nextM ls l bRow ((n : Int) + 1)) fun ws => numsE sc ws
/-- A row that grows: what is known of all else. -/
theorem left_grown {w w1 : World} {b : Nat} {v : Value} {ws : List ByteArray} {row : Option Nat} (h : Left w b v ws) (hg : w.grownBy w1 row) (hr : ∀ k, row = some k → ∃ cs e fr, w.heap[k]? = some (.cells cs e fr) ∧ e ≠ 9) : Left w1 b v ws := by
  obtain ⟨A, c, rfl, hc, hC, hne⟩ := h
  cases row with
  | none => exact left_one (g := w.heap.size) hc hC hne ⟨hg.size, fun i hi _ _ => hg.block i hi (by simp)⟩ (fun ad ha h0 => by obtain ⟨_, cs, fr, h2⟩ := hne ad ha h0; have := (Array.getElem?_eq_some_iff.1 h2).1; omega)
  | some k =>
    obtain ⟨cs', e, fr', hk, he⟩ := hr k rfl
    refine left_one (g := k) hc hC hne ⟨hg.size, fun i hi hik _ => hg.block i hi (fun h => hik (Option.some.inj h))⟩ (fun ad ha h0 hx => ?_)
    obtain ⟨_, cs, fr, h2⟩ := hne ad ha h0
    rw [hx, hk] at h2
    exact he (by cases h2; rfl)
theorem rdr_grown {w w1 : World} {b : Nat} {L : Value} {l : Int} {ws : List ByteArray} {sc : Int} {row : Option Nat} (h : Rdr w b L l ws sc) (hg : w.grownBy w1 row) (hr : ∀ k, row = some k → ∃ cs e fr, w.heap[k]? = some (.cells cs e fr) ∧ e ≠ 9 ∧ e ≠ 46) : Rdr w1 b L l ws sc := by
  have hlt := h.lt
  obtain ⟨v, hv, hl⟩ := h.blk
  refine ⟨⟨v, (hg.block b hlt (fun hb => ?_)).trans hv, left_grown hl hg (fun k hk => by obtain ⟨cs, e, fr, h1, h2, _⟩ := hr k hk; exact ⟨cs, e, fr, h1, h2⟩)⟩⟩
  obtain ⟨cs, e, fr, h1, _, h3⟩ := hr b hb.symm
  rw [hv] at h1
  exact h3 (by cases h1; rfl)
theorem own_row_type {α : Type} {d : Kd α} {e base : Nat} {ok : Nat → Prop} {w : World} {v : Value} {xs : List α} (h : d.R e w base ok v xs) (h9 : e ≠ 9) (h46 : e ≠ 46) : ∀ k, v.ownBlock = some k → ∃ cs e' fr, w.heap[k]? = some (.cells cs e' fr) ∧ e' ≠ 9 ∧ e' ≠ 46 := by
  intro k hk
  obtain ⟨inner, ho⟩ := Kd.R_own h
  obtain ⟨cells, hc⟩ := own_typed ho k hk
  exact ⟨cells, e, _, hc, h9, h46⟩
theorem keep_base {w w1 w2 : World} {b : Nat} (h : KeepW w w1 b) (hb : Below w.heap.size w1 w2) : KeepW w w2 b :=
  ⟨hb.os.trans h.os, hb.tape.trans h.tape, hb.output.trans h.output, Nat.le_trans h.size hb.size, fun i hi hib => (hb.block i hi).trans (h.block i hi hib)⟩
theorem own_keep {α : Type} {d : Kd α} {e base b : Nat} {ok : Nat → Prop} {w w1 : World} {v : Value} {xs : List α} (h : d.R e w base ok v xs) (hk : KeepW w w1 b) (hb : b < base) : d.R e w1 base ok v xs :=
  Kd.R_mono (Kd.R_keep (g := b) (Kd.R_bound h) ⟨hk.size, fun i hi hib _ => hk.block i hi hib⟩ (fun k hk => by have := hk.2.1; omega)) (fun k hk => hk.1)
theorem nums_bad {sc : Int} {x : ByteArray} {rest : List ByteArray} {a e : Int} (h : readL x.data.toList sc = (a, e)) (he : e ≠ 0) : numsE sc (x :: rest) = .error e := by
  show bindE (okE (readL x.data.toList sc)) _ = _
  rw [h]
  unfold okE
  rw [if_neg he]
  rfl
theorem nums_good {sc : Int} {x : ByteArray} {rest : List ByteArray} {a : Int} (acc : List Int) (h : readL x.data.toList sc = (a, 0)) : bindE (numsE sc (x :: rest)) (fun r => .ok (acc ++ r)) = bindE (numsE sc rest) (fun r => .ok ((acc ++ [a]) ++ r)) := by
  show bindE (bindE (okE (readL x.data.toList sc)) _) _ = _
  rw [h]
  unfold okE
  rw [if_pos rfl]
  show bindE (bindE (numsE sc rest) fun r => .ok (a :: r)) _ = _
  cases numsE sc rest with
  | error e => rfl
  | ok r => show Except.ok (acc ++ a :: r) = Except.ok ((acc ++ [a]) ++ r); rw [List.append_assoc]; rfl
theorem row_walk (b l : Nat) (L : Value) (ws0 : List ByteArray) (sc : Int) (ls : List ByteArray) (n : Nat) (ws : List ByteArray) (w : World) (h : Rdr w b L l ws0 sc) (hL : Left w b L ls) (hb : l ≤ 20000) (hn : n ≤ 4096) (hsz : ∀ t ∈ ls, t.size ≤ 3000) (hM : nextM ls l bRow ((n : Int) + 1) = .ok ws) :
    Calls Tryz.prog 31 #[.pointer (some ⟨b, 0, none⟩), .int .i64 n] w (AnsM w b (l + 1) (numsE sc ws) (fun ns r w' => ∃ v, r = .returned v ∧ Kd.R (Kd.int .i64) 2 w' w.heap.size (fun _ => True) v ns ∧ Aside0 (Rdr w' b L (l + 1) [] sc))) := by
  obtain ⟨hlen, hz⟩ := nextM_ok hM hsz
  have CN := Aside0.mk (next_ok h hL hb (by omega) hsz hM)
  have HLT := Aside0.mk h.lt
  have HZ := Aside0.mk hz
  have HLEN := Aside0.mk (show ws.length = n by omega)
  have HNN := Aside0.mk hn
  clear h hL hM hsz hz hlen
  go_enter Tryz.func31, Tryz.ntmps31
  go_wp2_with (first | (go_at_call 27; refine CN.out.mono ?_; rintro r w1 ⟨rfl, K1, R1⟩))
  go_loopg [5, 11] n (fun gg v5 v11 wr => ∃ (acc : List Int) (rest : List ByteArray), v11 = .int .i64 (acc.length : Int) ∧ acc.length + rest.length = n ∧ n - acc.length ≤ gg ∧ Aside0 (numsE sc ws = bindE (numsE sc rest) (fun r => .ok (acc ++ r))) ∧ Aside0 (Kd.R (Kd.int .i64) 2 wr w.heap.size (fun _ => True) v5 acc) ∧ Aside0 (Rdr wr b L (l + 1) rest sc) ∧ Aside0 (KeepW w wr b) ∧ Aside0 (∀ x ∈ rest, x.size ≤ 3000))
  case atStart => exact ⟨[], ws, rfl, by rw [HLEN.out]; simp, by simp, ⟨by cases numsE sc ws <;> rfl⟩, ⟨Kd.R_nil _ _ _ _ _⟩, R1, K1, HZ⟩
  case round =>
    obtain ⟨acc, rest, rfl, hlen, hm, HE, HR, RR, KR, HZR⟩ := hrel
    by_cases hj : acc.length < n
    · cases rest with
      | nil => exact absurd hlen (by simp only [List.length_nil]; omega)
      | cons x rest' =>
        obtain ⟨a, e, hae⟩ : ∃ a e, readL x.data.toList sc = (a, e) := ⟨_, _, rfl⟩
        have HAE := Aside0.mk hae
        have C1 := Aside0.mk (fun W h => sheet_decimal.ans b L (l + 1) x rest' sc sc W h (HZR.out x (by simp)) a e hae)
        have HLR := Aside0.mk hlen
        have HM := Aside0.mk hm
        have s3 := RR.out.at3
        have HWS := Aside0.mk (KR.out.size)
        obtain ⟨j, hjj⟩ : ∃ j, j = acc.length := ⟨_, rfl⟩
        have HJ := Aside0.mk hjj
        rw [← hjj] at hj ⊢
        clear hae hlen hm hjj
        have c1 : decide ((j : Int) < (n : Int)) = true := decide_eq_true (by omega)
        have c2 : decide (j < n) = true := decide_eq_true hj
        have HW := Aside0.mk (show wrap64 ((j : Int) + 1) = ((j + 1 : Nat) : Int) by unfold wrap64; have := HNN.out; omega)
        go_wp2_with (first
          | ((with_reducible refine gate_builtin (b := .append) (xs := #[.tmp 13, .tmp 20]) rfl ?_); at_builtin; refine Kd.R_append (Kd.int .i64) (w0 := w2) w.heap.size rfl (.tmp 13) (.tmp 20) 25 2 (.int .i64 0) 8 rfl Tryz.underlying25 info2 rfl (by decide) (by decide) _ acc a [.int .i64 a] (fun _ => True) (fun _ => False) rfl rfl rfl (fun _ h => h.elim) (fun _ _ => trivial) HR2.out (Below.refl _ _) (KR.out.trans K2.out).size (by have := HNN.out; have := HJ.out; omega) ?_; intro v1 w3 ho hb hg _; have HR3 := Aside0.mk ho; have HB3 := Aside0.mk hb; have HG3 := Aside0.mk hg; clear ho hb hg)
          | (go_at_call 29; refine (C1.out _ RR.out).mono ?_; rintro r w2 ⟨K2, ⟨rfl, rfl, R2⟩ | ⟨F2, rfl⟩⟩; rotate_left; exact ⟨rfl, ⟨KR.out.trans K2.out⟩, .inr ⟨e, by rw [HE.out, nums_bad HAE.out F2.out]; rfl, rfl⟩⟩; have HR2 := Aside0.mk (own_keep HR.out K2.out HLT.out)))
        go_roundg (n - (j + 1))
        case measure => have := HM.out; have := HJ.out; omega
        case rel =>
          refine ⟨acc ++ [a], rest', ?_, ?_, ?_, ⟨by rw [HE.out, nums_good acc HAE.out]⟩, HR3, ⟨rdr_grown R2.out HG3.out (own_row_type HR2.out (by decide) (by decide))⟩, ⟨keep_base (KR.out.trans K2.out) HB3.out⟩, ⟨fun y hy => HZR.out y (List.mem_cons_of_mem _ hy)⟩⟩
          · rw [List.length_append, ← HJ.out]; first | rfl | go_num
          · have := HLR.out; rw [List.length_append]; simp only [List.length_cons, List.length_nil] at this ⊢; omega
          · rw [List.length_append, ← HJ.out]; exact Nat.le_refl _
    · obtain rfl : rest = [] := List.length_eq_zero_iff.1 (by omega)
      have c1 : decide ((acc.length : Int) < (n : Int)) = false := decide_eq_false (by omega)
      have c2 : decide (acc.length < n) = false := decide_eq_false hj
      obtain ⟨A, c, rfl, hc, hC⟩ := Kd.R_reads HR.out
      clear hlen hm hc hC
      go_wp2
      go_ret
      exact ⟨KR, .inl ⟨acc, by rw [HE.out]; show Except.ok (acc ++ []) = _; rw [List.append_nil], _, rfl, HR.out, RR⟩⟩
/-- row: a row of times. -/
theorem sheet_row.calls (b l : Nat) (L : Value) (ws0 : List ByteArray) (sc : Int) (ls : List ByteArray) (n : Nat) (w : World) (h : Rdr w b L l ws0 sc) (hL : Left w b L ls) (hb : l ≤ 20000) (hn : n ≤ 4096) (hsz : ∀ t ∈ ls, t.size ≤ 3000) :
    Calls Tryz.prog 31 #[.pointer (some ⟨b, 0, none⟩), .int .i64 n] w (AnsM w b (l + 1) (rowM ls l n sc) (fun ns r w' => ∃ v, r = .returned v ∧ Kd.R (Kd.int .i64) 2 w' w.heap.size (fun _ => True) v ns ∧ Aside0 (Rdr w' b L (l + 1) [] sc))) := by
  unfold rowM
  cases hM : nextM ls l bRow ((n : Int) + 1) with
  | ok ws => exact row_walk b l L ws0 sc ls n ws w h hL hb hn hsz hM
  | error e =>
    have N1 := Aside0.mk (next_bad h hL hb (by omega) hsz hM)
    clear h hL hM hsz
    refine Calls.mono (R := fun r w' => r = .panicked (faultC (l + 1) e) ∧ KeepW w w' b) ?_ (fun r w' k => ⟨⟨k.2⟩, .inr ⟨e, rfl, k.1⟩⟩)
    go_enter Tryz.func31, Tryz.ntmps31
    go_wp2_with (first | (go_at_call 27; refine N1.out.mono ?_; rintro r w1 ⟨rfl, K1⟩))
    exact ⟨rfl, rfl, K1.out⟩
end Go.Proofs.YtcdmndhaeiccoaaGreatDoor.P
namespace Go.Proofs.YtcdmndhaeiccoaaGreatDoor.P
open Go Go.Proofs.YtcdmndhaeiccoaaGreatDoorR
open Go.RowKit Go.Proofs.YtcdmndhaeiccoaaGreatDoorW.PrintWords Go.Proofs.YtcdmndhaeiccoaaGreatDoorW.PrintLast
set_option linter.unusedVariables false
set_option linter.unusedSimpArgs false
set_option maxHeartbeats 8000000
set_option maxRecDepth 100000
abbrev bCar : ByteArray := ⟨#[99, 97, 114]⟩
abbrev bRide : ByteArray := ⟨#[114, 105, 100, 101]⟩
/-- Cars, stops, rides, rows of times. -/
structure InstP where
  cars : List S60
  stops : List S63
  rides : List Int
  rows : List (List Int)
def carE (ws : List ByteArray) (sc : Int) : S60 × Int :=
  match ws with
  | [x0, x1, x2] => (⟨⟨(smallL x0.data.toList 1000).1, (smallL x1.data.toList 1000).1⟩, (readL x2.data.toList sc).1⟩, er2 (er2 (smallL x0.data.toList 1000).2 (smallL x1.data.toList 1000).2) (readL x2.data.toList sc).2)
  | _ => (z60, 21)
def carM (ls : List ByteArray) (l : Nat) (sc : Int) : Except Int S60 := bindE (nextM ls l bCar 4) fun ws => okE (carE ws sc)
def rideE (ws : List ByteArray) (sc : Int) : Int × Int :=
  match ws with
  | [x0] => readL x0.data.toList sc
  | _ => (0, 21)
def rideM (ls : List ByteArray) (l : Nat) (sc : Int) : Except Int Int := bindE (nextM ls l bRide 2) fun ws => okE (rideE ws sc)
def stepM (ls : List ByteArray) (c n : Nat) (sc : Int) (sp : Bool) (x : InstP) (i : Nat) : Except Int InstP :=
  if i < 1 + c then bindE (carM ls i sc) fun a => .ok { x with cars := x.cars ++ [a] }
  else if i < 1 + c + (2 * n + 2) then bindE (stopM ls i sp sc) fun a => .ok { x with stops := x.stops ++ [a] }
  else if i < 1 + c + (2 * n + 2) + n then bindE (rideM ls i sc) fun a => .ok { x with rides := x.rides ++ [a] }
  else bindE (rowM ls i (2 * n + 2) sc) fun a => .ok { x with rows := x.rows ++ [a] }
/-- So many lines, from one on. -/
def goM (f : InstP → Nat → Except Int InstP) : Nat → Nat → InstP → Except (Int × Int) InstP
  | 0, _, x => .ok x
  | d + 1, i, x => match f x i with
    | .error e => .error ((i : Int) + 1, e)
    | .ok y => goM f d (i + 1) y
theorem goM_bad {f : InstP → Nat → Except Int InstP} {d i : Nat} {x : InstP} {e : Int} (h : f x i = .error e) : goM f (d + 1) i x = .error ((i : Int) + 1, e) := by
  unfold goM
  rw [h]
theorem goM_good {f : InstP → Nat → Except Int InstP} {d i : Nat} {x y : InstP} (h : f x i = .ok y) : goM f (d + 1) i x = goM f d (i + 1) y := by
  rw [goM, h]
def allM (c n : Nat) (sp : Bool) : Nat := 1 + c + (2 * n + 2) + n + (if sp then 0 else 2 * n + 2)
def finM (ls : List ByteArray) (all : Nat) (s : Int) (T : Except (Int × Int) InstP) : Except (Int × Int) (InstP × Int) :=
  match T with
  | .error p => .error p
  | .ok x => if all < ls.length then .error ((all : Int) + 1, 22) else .ok (x, s)
def instM (ls : List ByteArray) : Except (Int × Int) (InstP × Int) :=
  match headM ls with
  | .error e => .error (1, e)
  | .ok (c, n, s, sp) => finM ls (allM c.toNat n.toNat sp) s (goM (stepM ls c.toNat n.toNat s sp) (allM c.toNat n.toNat sp - 1) 1 ⟨[], [], [], []⟩)
theorem step_car {ls : List ByteArray} {c n : Nat} {sc : Int} {sp : Bool} {x : InstP} {i : Nat} (h : i < 1 + c) : stepM ls c n sc sp x i = bindE (carM ls i sc) fun a => .ok { x with cars := x.cars ++ [a] } := if_pos h
theorem step_stop {ls : List ByteArray} {c n : Nat} {sc : Int} {sp : Bool} {x : InstP} {i : Nat} (h0 : ¬ i < 1 + c) (h : i < 1 + c + (2 * n + 2)) : stepM ls c n sc sp x i = bindE (stopM ls i sp sc) fun a => .ok { x with stops := x.stops ++ [a] } := (if_neg h0).trans (if_pos h)
theorem step_ride {ls : List ByteArray} {c n : Nat} {sc : Int} {sp : Bool} {x : InstP} {i : Nat} (h1 : ¬ i < 1 + c + (2 * n + 2)) (h : i < 1 + c + (2 * n + 2) + n) : stepM ls c n sc sp x i = bindE (rideM ls i sc) fun a => .ok { x with rides := x.rides ++ [a] } := (if_neg (by omega)).trans ((if_neg h1).trans (if_pos h))
theorem step_row {ls : List ByteArray} {c n : Nat} {sc : Int} {sp : Bool} {x : InstP} {i : Nat} (h1 : ¬ i < 1 + c + (2 * n + 2) + n) : stepM ls c n sc sp x i = bindE (rowM ls i (2 * n + 2) sc) fun a => .ok { x with rows := x.rows ++ [a] } := (if_neg (by omega)).trans ((if_neg (by omega)).trans (if_neg h1))
theorem info60 : (Tryz.prog.info? 60).map (fun i => (i.zero, i.size, i.bytes)) = some (some (.agg #[.int .i64 0, .int .i64 0, .int .i64 0]), 3, 24) := by kernel_rfl
theorem info63 : (Tryz.prog.info? 63).map (fun i => (i.zero, i.size, i.bytes)) = some (some (.agg #[.int .i64 0, .int .i64 0, .int .i64 0, .int .i64 0, .int .i64 0, .complex .f64 0 0]), 6, 56) := by kernel_rfl
theorem info25 : (Tryz.prog.info? 25).map (fun i => (i.zero, i.size, i.bytes)) = some (some (.slice none 0 0), 1, 24) := by kernel_rfl
/-- A row beside another one that grows, of another type. -/
theorem own_apart {α : Type} {d : Kd α} {e base : Nat} {ok : Nat → Prop} {w w1 : World} {v : Value} {xs : List α} {row : Option Nat} (h : d.R e w base ok v xs) (hg : w.grownBy w1 row) (hr : ∀ k, row = some k → ∃ cells t fr, w.heap[k]? = some (.cells cells t fr) ∧ ∀ q, q ∈ e :: d.E → q ≠ t) : d.R e w1 base ok v xs := by
  refine Kd.R_mono (Kd.R_grown (Kd.R_bound h) hg (fun k hk hx => ?_)) (fun k hk => hk.1)
  obtain ⟨_, _, _, q, hq, cells, hc⟩ := hk
  obtain ⟨cells', t, fr, h1, h2⟩ := hr k hx.symm
  rw [hc] at h1
  exact h2 q hq (by cases h1; rfl)
theorem own_typed' {α : Type} {d : Kd α} {e base : Nat} {ok : Nat → Prop} {w : World} {v : Value} {xs : List α} (h : d.R e w base ok v xs) {k : Nat} (hk : v.ownBlock = some k) : ∃ cells, w.heap[k]? = some (.cells cells e (0, 0)) := by
  obtain ⟨inner, ho⟩ := Kd.R_own h
  exact own_typed ho k hk
/-- The reader beside a block of another type. -/
theorem left_set {w : World} {b g t : Nat} {cs : Array Value} {fr : Nat × Nat} {v : Value} {ws : List ByteArray} (h : Left w b v ws) (hg : w.heap[g]? = some (.cells cs t fr)) (ht : t ≠ 9) (j : Nat) (u : Value) : Left (w.setCell ⟨g, j, none⟩ u) b v ws := by
  obtain ⟨A, c, rfl, hc, hC, hne⟩ := h
  refine left_one hc hC hne (KeepBut.set_ (KeepBut.refl w g none) j u) (fun ad ha h0 hx => ?_)
  obtain ⟨_, cs', fr', h2⟩ := hne ad ha h0
  rw [hx, hg] at h2
  exact ht (by cases h2; rfl)
theorem rdr_set {w : World} {b g t : Nat} {cs : Array Value} {fr : Nat × Nat} {L : Value} {l : Int} {ws : List ByteArray} {sc : Int} (h : Rdr w b L l ws sc) (hg : w.heap[g]? = some (.cells cs t fr)) (ht : t ≠ 9) (hne : g ≠ b) (j : Nat) (u : Value) : Rdr (w.setCell ⟨g, j, none⟩ u) b L l ws sc := by
  obtain ⟨v, hv, hl⟩ := h.blk
  exact ⟨⟨v, (Below.heap_setCell w ⟨g, j, none⟩ u b (fun h => hne h.symm)).trans hv, left_set hl hg ht j u⟩⟩
def Four (w : World) (g : Nat) (c0 c1 c2 c3 : Value) : Prop :=
  (w.cell? ⟨g, 0, none⟩ = some c0 ∧ w.cell? ⟨g, 1, none⟩ = some c1 ∧ w.cell? ⟨g, 2, none⟩ = some c2 ∧ w.cell? ⟨g, 3, none⟩ = some c3) ∧
  (w.frozen? ⟨g, 0, none⟩ = false ∧ w.frozen? ⟨g, 1, none⟩ = false ∧ w.frozen? ⟨g, 2, none⟩ = false ∧ w.frozen? ⟨g, 3, none⟩ = false)
theorem four_of {w : World} {g t : Nat} {c0 c1 c2 c3 : Value} (h : w.heap[g]? = some (.cells #[c0, c1, c2, c3] t (0, 0))) : Four w g c0 c1 c2 c3 :=
  ⟨⟨(blk_cell h 0).trans rfl, (blk_cell h 1).trans rfl, (blk_cell h 2).trans rfl, (blk_cell h 3).trans rfl⟩, blk_frozen h 0, blk_frozen h 1, blk_frozen h 2, blk_frozen h 3⟩
abbrev zInst : Obj := .cells #[.slice none 0 0, .slice none 0 0, .slice none 0 0, .slice none 0 0] 28 (0, 0)
/-- The four rows of an instance, as they lie. -/
structure InstAt (w : World) (base : Nat) (v0 v1 v2 v3 : Value) (x : InstP) : Prop where
  cars : Kd.R k60 60 w base (fun _ => True) v0 x.cars
  stops : Kd.R k63 63 w base (fun _ => True) v1 x.stops
  rides : Kd.R (Kd.int .i64) 2 w base (fun _ => True) v2 x.rides
  rows : Kd.R (Kd.slice 2 (Kd.int .i64)) 25 w base (fun _ => True) v3 x.rows
theorem instAt_nil (w : World) (base : Nat) : InstAt w base (.slice none 0 0) (.slice none 0 0) (.slice none 0 0) (.slice none 0 0) ⟨[], [], [], []⟩ := ⟨Kd.R_nil _ _ _ _ _, Kd.R_nil _ _ _ _ _, Kd.R_nil _ _ _ _ _, Kd.R_nil _ _ _ _ _⟩
theorem instAt_keep {w w1 : World} {base b : Nat} {v0 v1 v2 v3 : Value} {x : InstP} (h : InstAt w base v0 v1 v2 v3 x) (hk : KeepW w w1 b) (hb : b < base) : InstAt w1 base v0 v1 v2 v3 x :=
  ⟨own_keep h.cars hk hb, own_keep h.stops hk hb, own_keep h.rides hk hb, own_keep h.rows hk hb⟩
theorem instAt_set {w : World} {base g : Nat} {cs : Array Value} {v0 v1 v2 v3 : Value} {x : InstP} (h : InstAt w base v0 v1 v2 v3 x) (hg : w.heap[g]? = some (.cells cs 28 (0, 0))) (j : Nat) (u : Value) : InstAt (w.setCell ⟨g, j, none⟩ u) base v0 v1 v2 v3 x :=
  ⟨Kd.R_set h.cars hg (by decide) j u, Kd.R_set h.stops hg (by decide) j u, Kd.R_set h.rides hg (by decide) j u, Kd.R_set h.rows hg (by decide) j u⟩
/-- The reader, its lines, and both boxes of the call. -/
structure St0 (w wr : World) (b : Nat) (L : Value) (ls : List ByteArray) (cs : Array Value) (l s : Int) : Prop where
  keep : KeepW w wr b
  rdr : Rdr wr b L l [] s
  left : Left wr b L ls
  box : wr.heap[w.heap.size + 1]? = some (.cells cs 28 (0, 0))
  res : wr.heap[w.heap.size]? = some zInst
theorem st0_keep {w wr w3 : World} {b : Nat} {L : Value} {ls : List ByteArray} {cs : Array Value} {l l' s : Int} (S : St0 w wr b L ls cs l s) (hb : b < w.heap.size) (K : KeepW wr w3 b) (R3 : Rdr w3 b L l' [] s) : St0 w w3 b L ls cs l' s :=
  ⟨S.keep.trans K, R3, S.left.keep K, keep_at K S.box (by omega), keep_at K S.res (by omega)⟩
theorem st0_grow {w w3 w4 : World} {b : Nat} {L : Value} {ls : List ByteArray} {cs : Array Value} {l s : Int} {row : Option Nat} (S : St0 w w3 b L ls cs l s) (hB : Below w.heap.size w3 w4) (hg : w3.grownBy w4 row) (hr : ∀ k, row = some k → ∃ cells e fr, w3.heap[k]? = some (.cells cells e fr) ∧ e ≠ 9 ∧ e ≠ 46 ∧ e ≠ 28) : St0 w w4 b L ls cs l s := by
  have hk : ∀ (g : Nat) (c : Array Value) (fr : Nat × Nat), w3.heap[g]? = some (.cells c 28 fr) → w4.heap[g]? = some (.cells c 28 fr) := fun g c fr h => (hg.block g (Array.getElem?_eq_some_iff.1 h).1 (fun hx => by
    obtain ⟨cells, e, fr', h1, _, _, h4⟩ := hr g hx.symm
    rw [h] at h1
    exact h4 (by cases h1; rfl))).trans h
  refine ⟨keep_base S.keep hB, rdr_grown S.rdr hg (fun k hk => ?_), left_grown S.left hg (fun k hk => ?_), hk _ _ _ S.box, hk _ _ _ S.res⟩
  · obtain ⟨cells, e, fr', h1, h2, h3, _⟩ := hr k hk; exact ⟨cells, e, fr', h1, h2, h3⟩
  · obtain ⟨cells, e, fr', h1, h2, _⟩ := hr k hk; exact ⟨cells, e, fr', h1, h2⟩
theorem st0_put {w w4 : World} {b : Nat} {L : Value} {ls : List ByteArray} {cs : Array Value} {l s : Int} (S : St0 w w4 b L ls cs l s) (hb : b < w.heap.size) (j : Nat) (u : Value) : St0 w (w4.setCell ⟨w.heap.size + 1, j, none⟩ u) b L ls (cs.setIfInBounds j u) l s :=
  ⟨keep_far S.keep (by omega) j u, rdr_set S.rdr S.box (by decide) (by omega) j u, left_set S.left S.box (by decide) j u, blk_set S.box j u, (Below.heap_setCell _ ⟨w.heap.size + 1, j, none⟩ u _ (by show w.heap.size ≠ w.heap.size + 1; omega)).trans S.res⟩
theorem instAt_drew {w : World} {base : Nat} {v0 v1 v2 v3 : Value} {x : InstP} (h : InstAt w base v0 v1 v2 v3 x) : InstAt w.drew base v0 v1 v2 v3 x :=
  ⟨Kd.R_drew h.cars, Kd.R_drew h.stops, Kd.R_drew h.rides, Kd.R_drew h.rows⟩
theorem row_type {α : Type} {d : Kd α} {e base : Nat} {ok : Nat → Prop} {w : World} {v : Value} {xs : List α} (h : d.R e w base ok v xs) (h9 : e ≠ 9) (h46 : e ≠ 46) (h28 : e ≠ 28) : ∀ k, v.ownBlock = some k → ∃ cells e' fr, w.heap[k]? = some (.cells cells e' fr) ∧ e' ≠ 9 ∧ e' ≠ 46 ∧ e' ≠ 28 := by
  intro k hk
  obtain ⟨cells, hc⟩ := own_typed' h hk
  exact ⟨cells, e, _, hc, h9, h46, h28⟩
theorem row_else {α β : Type} {d : Kd α} {d' : Kd β} {e e' base base' : Nat} {ok ok' : Nat → Prop} {w w1 : World} {v v' : Value} {xs : List α} {ys : List β} (h : d.R e w base ok v xs) (h' : d'.R e' w base' ok' v' ys) (hg : w.grownBy w1 v.ownBlock) (ht : ∀ q, q ∈ e' :: d'.E → q ≠ e) : d'.R e' w1 base' ok' v' ys :=
  own_apart h' hg (fun k hk => by obtain ⟨cells, hc⟩ := own_typed' h hk; exact ⟨cells, e, _, hc, ht⟩)
theorem headM_bound {ls : List ByteArray} {c n s : Int} {sp : Bool} (h : headM ls = .ok (c, n, s, sp)) : 1 ≤ c ∧ c ≤ 64 ∧ 0 ≤ n ∧ 2 * n + 2 ≤ 4096 ∧ 0 ≤ s ∧ s ≤ 6 := by
  unfold headM at h
  split at h
  · cases h
  · rename_i x0 x1 x2 x3 _
    unfold headW at h
    obtain ⟨s0, e0, g0⟩ : ∃ s e, wholeL x0.data.toList = (s, e) := ⟨_, _, rfl⟩
    obtain ⟨c1, e1, g1⟩ : ∃ s e, wholeL x1.data.toList = (s, e) := ⟨_, _, rfl⟩
    obtain ⟨n2, e2, g2⟩ : ∃ s e, wholeL x2.data.toList = (s, e) := ⟨_, _, rfl⟩
    simp only [g0, g1, g2] at h
    by_cases a0 : e0 = 0
    · subst a0
      rw [if_neg (by simp)] at h
      by_cases a1 : s0 > 6
      · rw [if_pos a1] at h; cases h
      · rw [if_neg a1] at h
        by_cases a2 : e1 = 0
        · subst a2
          rw [if_neg (by simp)] at h
          by_cases a3 : e2 = 0
          · subst a3
            rw [if_neg (by simp)] at h
            split at h
            · cases h
            · split at h
              · cases h
              · split at h
                · cases h
                · have b0 := wholeL_bound g0
                  have b1 := wholeL_bound g1
                  have b2 := wholeL_bound g2
                  cases h
                  omega
          · rw [if_pos a3] at h; cases h
        · rw [if_pos a2] at h; cases h
    · rw [if_pos a0] at h; cases h
  · cases h
theorem grown_row (w : World) (g : Nat) (cs : Array Value) : w.grownBy (w.setRow g cs) (some g) :=
  ⟨rfl, rfl, rfl, by rw [size_setRow]; exact Nat.le_refl _, fun k _ hk => setRow_far w g cs k (fun h => hk (congrArg some h))⟩
theorem instAt_row {w : World} {base g : Nat} {old : Array Value} {v0 v1 v2 v3 : Value} {x : InstP} (h : InstAt w base v0 v1 v2 v3 x) (hg : w.heap[g]? = some (.cells old 28 (0, 0))) (cs : Array Value) : InstAt (w.setRow g cs) base v0 v1 v2 v3 x := by
  have hr : ∀ {E : List Nat}, (∀ q, q ∈ E → q ≠ 28) → ∀ k, some g = some k → ∃ cells t fr, w.heap[k]? = some (.cells cells t fr) ∧ ∀ q, q ∈ E → q ≠ t := fun hE k hk => by cases hk; exact ⟨_, _, _, hg, hE⟩
  exact ⟨own_apart h.cars (grown_row w g cs) (hr (by decide)), own_apart h.stops (grown_row w g cs) (hr (by decide)), own_apart h.rides (grown_row w g cs) (hr (by decide)), own_apart h.rows (grown_row w g cs) (hr (by decide))⟩
theorem rdr_row' {w : World} {b g t : Nat} {cs : Array Value} {fr : Nat × Nat} {L : Value} {l : Int} {ws : List ByteArray} {sc : Int} (h : Rdr w b L l ws sc) (hg : w.heap[g]? = some (.cells cs t fr)) (h9 : t ≠ 9) (h46 : t ≠ 46) (cs' : Array Value) : Rdr (w.setRow g cs') b L l ws sc :=
  rdr_grown h (grown_row w g cs') (fun k hk => by cases hk; exact ⟨_, _, _, hg, h9, h46⟩)
/-- A new row of times, as one of the rows. -/
theorem row_inner {w w4 : World} {base B : Nat} {vx v3 : Value} {x : List Int} {mx : List (List Int)} (h : Kd.R (Kd.int .i64) 2 w4 B (fun _ => True) vx x) (hB : base ≤ B) (h3 : Kd.R (Kd.slice 2 (Kd.int .i64)) 25 w4 base (fun _ => True) v3 mx) : Kd.R (Kd.int .i64) 2 w4 base (fun k => some k ≠ v3.ownBlock) vx x := by
  refine Kd.R_mono (Kd.R_bound (Kd.R_lower h hB)) (fun k hk hx => ?_)
  obtain ⟨_, _, _, q, hq, cells, hc⟩ := hk
  obtain ⟨cells', hc'⟩ := own_typed' h3 hx.symm
  rw [hc] at hc'
  have : q = 25 := by cases hc'; rfl
  subst this
  revert hq
  decide
theorem slice_one (A : Option Addr) (n c : Nat) : (Value.slice A n c).oneCell' = true := rfl
/-- Behind the reader of a row. -/
structure RowW (w w4 : World) (b : Nat) (L : Value) (ls : List ByteArray) (l s : Int) (v0 v1 v2 v3 v : Value) (y : InstP) (x : List Int) : Prop where
  st : St0 w w4 b L ls #[v0, v1, v2, v3] l s
  at' : InstAt w4 w.heap.size v0 v1 v2 v3 y
  inner : Kd.R (Kd.int .i64) 2 w4 w.heap.size (fun k => some k ≠ v3.ownBlock) v x
  y3 : w4.cell? ⟨w.heap.size + 1, 3, none⟩ = some v3
  y3a : ∀ o, (w4.alloc o).cell? ⟨w.heap.size + 1, 3, none⟩ = some v3
theorem row_pack {w wr : World} {b : Nat} {L : Value} {ls : List ByteArray} {l l' s : Int} {v0 v1 v2 v3 : Value} {y : InstP} {M : Except Int (List Int)} {F : Int → Prop} (S : St0 w wr b L ls #[v0, v1, v2, v3] l s) (I : InstAt wr w.heap.size v0 v1 v2 v3 y) (hb : b < w.heap.size) (hF : ∀ e, M = .error e → F e) {r : Ending} {w4 : World}
    (h : AnsM wr.drew b l' M (fun x r w' => ∃ v, r = .returned v ∧ Kd.R (Kd.int .i64) 2 w' wr.drew.heap.size (fun _ => True) v x ∧ Aside0 (Rdr w' b L l' [] s)) r w4) :
    (∃ x A q, r = .returned (.slice A x.length q) ∧ Aside0 (M = .ok x) ∧ Aside0 (RowW w w4 b L ls l' s v0 v1 v2 v3 (.slice A x.length q) y x)) ∨ (∃ e, r = .panicked (faultC l' e) ∧ Aside0 (KeepW w w4 b) ∧ Aside0 (F e)) := by
  obtain ⟨K4, ⟨x, hx, vx, rfl, hRx, R4⟩ | ⟨e, he, rfl⟩⟩ := h
  · have S4 := st0_keep S hb (keep_drew' K4.out) R4.out
    have I4 := instAt_keep I (keep_drew' K4.out) hb
    have HRX := row_inner (w := wr) hRx S.keep.size I4.rows
    obtain ⟨Ax, qx, hvx⟩ := Kd.R_slice hRx
    subst hvx
    have y3 := (four_of S4.box).1.2.2.2
    exact .inl ⟨x, Ax, qx, rfl, ⟨hx⟩, ⟨⟨S4, I4, HRX, y3, fun o => cell_below (below_alloc (Below.refl w4.heap.size w4) o) y3⟩⟩⟩
  · exact .inr ⟨e, rfl, ⟨S.keep.trans (keep_drew' K4.out)⟩, ⟨hF e he⟩⟩
/-- Behind the row that grew. -/
structure RowD (w w5 : World) (b : Nat) (L : Value) (ls : List ByteArray) (l s : Int) (v0 v1 v2 v3 v5 : Value) (y : InstP) : Prop where
  st : St0 w w5 b L ls #[v0, v1, v2, v3] l s
  at' : InstAt w5 w.heap.size v0 v1 v2 v5 y
  four : Four w5 (w.heap.size + 1) v0 v1 v2 v3
theorem row_done {w w4 w5 : World} {b : Nat} {L : Value} {ls : List ByteArray} {l s : Int} {v0 v1 v2 v3 v v5 : Value} {x : List Int} {cars : List S60} {stops : List S63} {rides : List Int} {rows : List (List Int)} (P : RowW w w4 b L ls l s v0 v1 v2 v3 v ⟨cars, stops, rides, rows⟩ x) (hb : Below w.heap.size w4 w5) (hg : w4.grownBy w5 v3.ownBlock) (ho : Kd.R (Kd.slice 2 (Kd.int .i64)) 25 w5 w.heap.size (fun _ => True) v5 (rows ++ [x])) :
    ∃ A q, v5 = .slice A (rows ++ [x]).length q ∧ RowD w w5 b L ls l s v0 v1 v2 v3 v5 ⟨cars, stops, rides, rows ++ [x]⟩ := by
  obtain ⟨A, q, hv⟩ := Kd.R_slice ho
  have S5 := st0_grow P.st hb hg (row_type P.at'.rows (by decide) (by decide) (by decide))
  exact ⟨A, q, hv, S5, ⟨row_else P.at'.rows P.at'.cars hg (by decide), row_else P.at'.rows P.at'.stops hg (by decide), row_else P.at'.rows P.at'.rides hg (by decide), ho⟩, four_of S5.box⟩
end Go.Proofs.YtcdmndhaeiccoaaGreatDoor.P
namespace Go.Proofs.YtcdmndhaeiccoaaGreatDoor.P
open Go.Proofs.YtcdmndhaeiccoaaGreatDoorR
open Go.RowKit Go.Proofs.YtcdmndhaeiccoaaGreatDoorW.PrintWords Go.Proofs.YtcdmndhaeiccoaaGreatDoorW.PrintLast
attribute [local go_sem] max2_int min2_int max_two min_two   -- for this text's walks alone
set_option linter.unusedVariables false
set_option linter.unusedSimpArgs false

/-! ### jitneyref06_words: function 40 -/
def jitneyref06_words.f (k : Nat) (a0 : ByteArray) (a1 : ByteArray) (a2 : Int) : Option (List ByteArray × Int) := (jitneyref03_Words.f k a0).bind fun bt193 => (if bt193.2 = 0 then (if (bt193.1.length : Int) = a2 then (if 0 < (bt193.1.length : Int) then (if (rdOf ByteArray.empty bt193.1 0).toList = a1.toList then (if 1 ≤ (bt193.1.length : Int) then (some ((bt193.1.drop (1 : Int).toNat), 0)) else (none)) else (some (([] : List ByteArray), 21))) else (none)) else (some (([] : List ByteArray), 21))) else (some (([] : List ByteArray), 21)))
set_option maxHeartbeats 8000000 in
set_option maxRecDepth 100000 in
theorem jitneyref06_words.calls (k : Nat) (a0 : ByteArray) (a1 : ByteArray) (a2 : Int) (r1 : List ByteArray) (r2 : Int) (w : World) (h : jitneyref06_words.f k a0 a1 a2 = some (r1, r2)) :
    Calls Tryz.prog 40 #[.string a0, .string a1, .int .i64 a2] w fun e w' => ∃ v0_ : Value, e = .returned (.tuple #[v0_, .int .i64 r2]) ∧ Kd.Q Kd.string 9 w' w.heap.size (fun _ => True) v0_ r1 ∧ Below w.heap.size w w' := by
  have HB := Aside0.mk (Below.refl w.heap.size w)
  have H : ((jitneyref03_Words.f k a0).bind fun bt193 => (if bt193.2 = 0 then (if (bt193.1.length : Int) = a2 then (if 0 < (bt193.1.length : Int) then (if (rdOf ByteArray.empty bt193.1 0).toList = a1.toList then (if 1 ≤ (bt193.1.length : Int) then (some ((bt193.1.drop (1 : Int).toNat), 0)) else (none)) else (some (([] : List ByteArray), 21))) else (none)) else (some (([] : List ByteArray), 21))) else (some (([] : List ByteArray), 21)))) = some (r1, r2) := h
  clear h
  replace H := Option.bind_eq_some_iff.mp H
  obtain ⟨⟨t193, t194⟩, A40, H⟩ := H
  replace H : (if t194 = 0 then (if (t193.length : Int) = a2 then (if 0 < (t193.length : Int) then (if (rdOf ByteArray.empty t193 0).toList = a1.toList then (if 1 ≤ (t193.length : Int) then (some ((t193.drop (1 : Int).toNat), 0)) else (none)) else (some (([] : List ByteArray), 21))) else (none)) else (some (([] : List ByteArray), 21))) else (some (([] : List ByteArray), 21))) = some (r1, r2) := H
  have A4 := Aside0.mk A40
  clear A40
  by_cases c5 : t194 = 0
  · rw [if_pos c5] at H
    have c5b0 : (t194 == 0) = true := beq_iff_eq.mpr c5
    have c5b1 : (t194 != 0) = false := bne_eq_false_iff_eq.mpr c5
    clear c5
    by_cases c6 : (t193.length : Int) = a2
    · rw [if_pos c6] at H
      have c6b0 : ((t193.length : Int) == a2) = true := beq_iff_eq.mpr c6
      have c6b1 : ((t193.length : Int) != a2) = false := bne_eq_false_iff_eq.mpr c6
      clear c6
      by_cases c7 : 0 < (t193.length : Int)
      · rw [if_pos c7] at H
        have c7b0 : decide (0 < (t193.length : Int)) = true := decide_eq_true c7
        have c7b1 : decide (0 < t193.length) = true := decide_eq_true (by omega)
        clear c7
        by_cases c8 : (rdOf ByteArray.empty t193 0).toList = a1.toList
        · rw [if_pos c8] at H
          have c8b0 : ((rdOf ByteArray.empty t193 0).toList == a1.toList) = true := beq_iff_eq.mpr c8
          have c8b1 : ((rdOf ByteArray.empty t193 0).toList != a1.toList) = false := bne_eq_false_iff_eq.mpr c8
          clear c8
          by_cases c9 : 1 ≤ (t193.length : Int)
          · rw [if_pos c9] at H
            have c9b0 := eq_true c9
            have c9b1 : decide (1 ≤ (t193.length : Int)) = true := decide_eq_true c9
            clear c9
            obtain ⟨y198, hy198⟩ : ∃ y_ : List ByteArray, y_ = (t193.drop (1 : Int).toNat) := ⟨_, rfl⟩
            replace H : (some (y198, 0)) = some (r1, r2) := by first | (rw [hy198]; with_reducible exact H) | (have H2_ := (Option.bind_some _ _).symm.trans H; rw [hy198]; with_reducible exact H2_) | (have H2_ := (Option.bind_some _ _).symm.trans H; with_reducible exact H2_) | with_reducible exact H | (rw [hy198]; exact H) | exact H
            have Ny198 := Aside0.mk hy198
            clear hy198
            simp only [Option.some.injEq, Prod.mk.injEq] at H
            obtain ⟨rfl, rfl⟩ := H
            go_enter Tryz.func40, Tryz.ntmps40
            go_wp2_with (first | ((with_reducible refine gate_callee (f := 77) rfl ?_); refine goesL_ (some 12) rfl rfl Tryz.func77 (by kernel_rfl) rfl #[.string a0] rfl (by (try simp only [List.map_toArray, List.map_cons, List.map_nil]); first | done | rfl | (simp only [List.length_drop, List.length_take]; rfl)) ?_; (with_reducible refine (jitneyref03_Words.calls k a0 t193 t194 _ A4.out).mono ?_); rintro e w10 ⟨v195, rfl, ho0, hb⟩; refine ⟨_, rfl, ?_⟩; have n0_ := Aside0.mk (Kd.R_lower ho0 (below_size (by repeat (first | (with_reducible first | exact HB.out | apply below_alloc | apply pw_below_drewN | apply below_drew1) | exact HB.out)))); have n1_ := Aside0.mk (below_step (by repeat (first | (with_reducible first | exact HB.out | apply below_alloc | apply pw_below_drewN | apply below_drew1) | exact HB.out)) hb); clear HB; have HO196 := n0_; have HB := n1_; clear n0_ n1_; (try clear hb); (try clear hb2); (try clear hk); (try clear hi); (try clear ho0); obtain ⟨Ao11, co11, eo11⟩ := Kd.R_slice HO196.out; subst eo11; have p197 : 0 ≤ (0 : Int) := (by omega); have q197 : 0 < (t193.length : Int) := of_decide_eq_true (by first | (with_reducible assumption) | assumption); obtain ⟨ad197, e197, hx197_0⟩ := Kd.at_string (Kd.R_reads' HO196.out).2.2 0 p197 q197; cases e197; have qi197 : (0 < t193.length) = True := eq_true (by omega); (try rw [show ((0 : Int)).toNat = 0 from rfl] at hx197_0); (try rw [Addr.add_zero'] at hx197_0); replace p197 := eq_true p197; replace q197 := eq_true q197; have q12 : (1 : Int) ≤ ((t193.length : Int) : Int) := of_decide_eq_true (by first | (with_reducible assumption) | assumption); obtain ⟨i012, hi012, _, hsz12, _⟩ := info_parts info9; have hcut12 := cut_from (P := Tryz.prog) 38 9 .i64 Tryz.underlying38 hi012 1 hsz12 (some ad197) t193.length co11 1 (by omega) q12; have hr12 := Kd.Q_drop (k := (1 : Int).toNat) (Kd.Q_of_R HO196.out) (by omega); obtain ⟨A12, hA12⟩ : ∃ A1, A1 = (if co11 = (1 : Int).toNat then (some ad197) else ((some ad197) : Option Addr).map (·.add ((1 : Int).toNat * 1))) := ⟨_, rfl⟩; obtain ⟨c12, hc12⟩ : ∃ c1, c1 = co11 - (1 : Int).toNat := ⟨_, rfl⟩; have hy12 : y198.length = t193.length - (1 : Int).toNat := (by rw [Ny198.out, List.length_drop]); rw [← Ny198.out] at hr12; rw [← hy12, ← hA12, ← hc12] at hcut12; replace hr12 : Kd.Q Kd.string 9 w10 w.heap.size (fun _ => True) (.slice A12 y198.length c12) y198 := (by rw [hA12, hc12, hy12]; exact hr12); have HE12 : Aside0 ((Value.slice A12 y198.length c12).ownBlock = (.slice (some ad197) t193.length co11 : Value).ownBlock) := ⟨by rw [hA12]; split <;> (cases ((some ad197) : Option Addr) <;> rfl)⟩; clear hy12 hi012 hsz12 HO196 hA12 hc12; have HO200 := Aside0.mk hr12; clear hr12; replace q12 := eq_true q12))
            go_ret2
            exact ⟨_, by first | rfl | (simp [errW_none, errW_some] <;> rfl) | (simp [*, errW_none, errW_some] <;> rfl), by (with_reducible repeat (first | apply Kd.Q_alloc | apply Kd.Q_drewN | apply Kd.Q_drew)); exact HO200.out, by repeat (first | (with_reducible first | exact HB.out | apply below_alloc | apply pw_below_drewN | apply below_drew1) | exact HB.out)⟩
          · rw [if_neg c9] at H
            exact absurd H (by simp)
        · rw [if_neg c8] at H
          have c8b0 : ((rdOf ByteArray.empty t193 0).toList == a1.toList) = false := beq_eq_false_iff_ne.mpr c8
          have c8b1 : ((rdOf ByteArray.empty t193 0).toList != a1.toList) = true := bne_iff_ne.mpr c8
          simp only [Option.some.injEq, Prod.mk.injEq] at H
          obtain ⟨rfl, rfl⟩ := H
          go_enter Tryz.func40, Tryz.ntmps40
          go_wp2_with (first | ((with_reducible refine gate_callee (f := 77) rfl ?_); refine goesL_ (some 12) rfl rfl Tryz.func77 (by kernel_rfl) rfl #[.string a0] rfl (by (try simp only [List.map_toArray, List.map_cons, List.map_nil]); first | done | rfl | (simp only [List.length_drop, List.length_take]; rfl)) ?_; (with_reducible refine (jitneyref03_Words.calls k a0 t193 t194 _ A4.out).mono ?_); rintro e w13 ⟨v195, rfl, ho0, hb⟩; refine ⟨_, rfl, ?_⟩; have n0_ := Aside0.mk (Kd.R_lower ho0 (below_size (by repeat (first | (with_reducible first | exact HB.out | apply below_alloc | apply pw_below_drewN | apply below_drew1) | exact HB.out)))); have n1_ := Aside0.mk (below_step (by repeat (first | (with_reducible first | exact HB.out | apply below_alloc | apply pw_below_drewN | apply below_drew1) | exact HB.out)) hb); clear HB; have HO196 := n0_; have HB := n1_; clear n0_ n1_; (try clear hb); (try clear hb2); (try clear hk); (try clear hi); (try clear ho0); obtain ⟨Ao14, co14, eo14⟩ := Kd.R_slice HO196.out; subst eo14; have p197 : 0 ≤ (0 : Int) := (by omega); have q197 : 0 < (t193.length : Int) := of_decide_eq_true (by first | (with_reducible assumption) | assumption); obtain ⟨ad197, e197, hx197_0⟩ := Kd.at_string (Kd.R_reads' HO196.out).2.2 0 p197 q197; cases e197; have qi197 : (0 < t193.length) = True := eq_true (by omega); (try rw [show ((0 : Int)).toNat = 0 from rfl] at hx197_0); (try rw [Addr.add_zero'] at hx197_0); replace p197 := eq_true p197; replace q197 := eq_true q197))
          go_ret2
          exact ⟨_, by first | rfl | (simp [errW_none, errW_some] <;> rfl) | (simp [*, errW_none, errW_some] <;> rfl), Kd.Q_of_R (by first | exact Kd.R_nil _ _ _ _ _ | exact Kd.N_nil _ _ _ _ _ | exact Kd.V_nil _ _ _ _ _ | exact Kd.Q_nil _ _ _ _ _ | exact Kd.S_nil _ _ _ _ _), by repeat (first | (with_reducible first | exact HB.out | apply below_alloc | apply pw_below_drewN | apply below_drew1) | exact HB.out)⟩
      · rw [if_neg c7] at H
        exact absurd H (by simp)
    · rw [if_neg c6] at H
      have c6b0 : ((t193.length : Int) == a2) = false := beq_eq_false_iff_ne.mpr c6
      have c6b1 : ((t193.length : Int) != a2) = true := bne_iff_ne.mpr c6
      simp only [Option.some.injEq, Prod.mk.injEq] at H
      obtain ⟨rfl, rfl⟩ := H
      go_enter Tryz.func40, Tryz.ntmps40
      go_wp2_with (first | ((with_reducible refine gate_callee (f := 77) rfl ?_); refine goesL_ (some 12) rfl rfl Tryz.func77 (by kernel_rfl) rfl #[.string a0] rfl (by (try simp only [List.map_toArray, List.map_cons, List.map_nil]); first | done | rfl | (simp only [List.length_drop, List.length_take]; rfl)) ?_; (with_reducible refine (jitneyref03_Words.calls k a0 t193 t194 _ A4.out).mono ?_); rintro e w15 ⟨v195, rfl, ho0, hb⟩; refine ⟨_, rfl, ?_⟩; have n0_ := Aside0.mk (Kd.R_lower ho0 (below_size (by repeat (first | (with_reducible first | exact HB.out | apply below_alloc | apply pw_below_drewN | apply below_drew1) | exact HB.out)))); have n1_ := Aside0.mk (below_step (by repeat (first | (with_reducible first | exact HB.out | apply below_alloc | apply pw_below_drewN | apply below_drew1) | exact HB.out)) hb); clear HB; have HO196 := n0_; have HB := n1_; clear n0_ n1_; (try clear hb); (try clear hb2); (try clear hk); (try clear hi); (try clear ho0); obtain ⟨Ao16, co16, eo16⟩ := Kd.R_slice HO196.out; subst eo16))
      go_ret2
      exact ⟨_, by first | rfl | (simp [errW_none, errW_some] <;> rfl) | (simp [*, errW_none, errW_some] <;> rfl), Kd.Q_of_R (by first | exact Kd.R_nil _ _ _ _ _ | exact Kd.N_nil _ _ _ _ _ | exact Kd.V_nil _ _ _ _ _ | exact Kd.Q_nil _ _ _ _ _ | exact Kd.S_nil _ _ _ _ _), by repeat (first | (with_reducible first | exact HB.out | apply below_alloc | apply pw_below_drewN | apply below_drew1) | exact HB.out)⟩
  · rw [if_neg c5] at H
    have c5b0 : (t194 == 0) = false := beq_eq_false_iff_ne.mpr c5
    have c5b1 : (t194 != 0) = true := bne_iff_ne.mpr c5
    simp only [Option.some.injEq, Prod.mk.injEq] at H
    obtain ⟨rfl, rfl⟩ := H
    go_enter Tryz.func40, Tryz.ntmps40
    go_wp2_with (first | ((with_reducible refine gate_callee (f := 77) rfl ?_); refine goesL_ (some 12) rfl rfl Tryz.func77 (by kernel_rfl) rfl #[.string a0] rfl (by (try simp only [List.map_toArray, List.map_cons, List.map_nil]); first | done | rfl | (simp only [List.length_drop, List.length_take]; rfl)) ?_; (with_reducible refine (jitneyref03_Words.calls k a0 t193 t194 _ A4.out).mono ?_); rintro e w17 ⟨v195, rfl, ho0, hb⟩; refine ⟨_, rfl, ?_⟩; have n0_ := Aside0.mk (Kd.R_lower ho0 (below_size (by repeat (first | (with_reducible first | exact HB.out | apply below_alloc | apply pw_below_drewN | apply below_drew1) | exact HB.out)))); have n1_ := Aside0.mk (below_step (by repeat (first | (with_reducible first | exact HB.out | apply below_alloc | apply pw_below_drewN | apply below_drew1) | exact HB.out)) hb); clear HB; have HO196 := n0_; have HB := n1_; clear n0_ n1_; (try clear hb); (try clear hb2); (try clear hk); (try clear hi); (try clear ho0)))
    go_ret2
    exact ⟨_, by first | rfl | (simp [errW_none, errW_some] <;> rfl) | (simp [*, errW_none, errW_some] <;> rfl), Kd.Q_of_R (by first | exact Kd.R_nil _ _ _ _ _ | exact Kd.N_nil _ _ _ _ _ | exact Kd.V_nil _ _ _ _ _ | exact Kd.Q_nil _ _ _ _ _ | exact Kd.S_nil _ _ _ _ _), by repeat (first | (with_reducible first | exact HB.out | apply below_alloc | apply pw_below_drewN | apply below_drew1) | exact HB.out)⟩

end Go.Proofs.YtcdmndhaeiccoaaGreatDoor.P
