/- The reader's stop. -/
import Derived.Test.YtcdmndhaeiccoaaGreatDoorMkit
import Derived.Test.YtcdmndhaeiccoaaGreatDoorM08
namespace Go.Proofs.YtcdmndhaeiccoaaGreatDoor.P
open Go Go.Proofs.YtcdmndhaeiccoaaGreatDoorR
open Go.RowKit Go.Proofs.YtcdmndhaeiccoaaGreatDoorW.PrintWords Go.Proofs.YtcdmndhaeiccoaaGreatDoorW.PrintLast
set_option linter.unusedVariables false
set_option linter.unusedSimpArgs false
set_option maxHeartbeats 8000000
set_option maxRecDepth 100000
abbrev bStop : ByteArray := ⟨#[115, 116, 111, 112]⟩
theorem rdr_drew {w : World} {b : Nat} {L : Value} {l : Int} {ws : List ByteArray} {sc : Int} (h : Rdr w b L l ws sc) : Rdr w.drew b L l ws sc := ⟨h.blk⟩
theorem keep_drew' {w w1 : World} {b : Nat} (h : KeepW w.drew w1 b) : KeepW w w1 b := ⟨h.os, h.tape, h.output, h.size, h.block⟩
def Six (w : World) (g : Nat) (c0 c1 c2 c3 c4 c5 : Value) : Prop :=
  (w.cell? ⟨g, 0, none⟩ = some c0 ∧ w.cell? ⟨g, 1, none⟩ = some c1 ∧ w.cell? ⟨g, 2, none⟩ = some c2 ∧ w.cell? ⟨g, 3, none⟩ = some c3 ∧ w.cell? ⟨g, 4, none⟩ = some c4 ∧ w.cell? ⟨g, 5, none⟩ = some c5) ∧
  (w.frozen? ⟨g, 0, none⟩ = false ∧ w.frozen? ⟨g, 1, none⟩ = false ∧ w.frozen? ⟨g, 2, none⟩ = false ∧ w.frozen? ⟨g, 3, none⟩ = false ∧ w.frozen? ⟨g, 4, none⟩ = false ∧ w.frozen? ⟨g, 5, none⟩ = false)
theorem six_of {w : World} {g t : Nat} {c0 c1 c2 c3 c4 c5 : Value} (h : w.heap[g]? = some (.cells #[c0, c1, c2, c3, c4, c5] t (0, 0))) : Six w g c0 c1 c2 c3 c4 c5 :=
  ⟨⟨(blk_cell h 0).trans rfl, (blk_cell h 1).trans rfl, (blk_cell h 2).trans rfl, (blk_cell h 3).trans rfl, (blk_cell h 4).trans rfl, (blk_cell h 5).trans rfl⟩, blk_frozen h 0, blk_frozen h 1, blk_frozen h 2, blk_frozen h 3, blk_frozen h 4, blk_frozen h 5⟩
theorem noStr6 (c0 c1 c2 c3 c4 c5 : Value) (h0 : ∀ s, c0 ≠ .string s) (h1 : ∀ s, c1 ≠ .string s) (h2 : ∀ s, c2 ≠ .string s) (h3 : ∀ s, c3 ≠ .string s) (h4 : ∀ s, c4 ≠ .string s) (h5 : ∀ s, c5 ≠ .string s) : NoStr #[c0, c1, c2, c3, c4, c5] := by
  intro j s h
  match j, h with
  | 0, h => exact h0 s (Option.some.inj h)
  | 1, h => exact h1 s (Option.some.inj h)
  | 2, h => exact h2 s (Option.some.inj h)
  | 3, h => exact h3 s (Option.some.inj h)
  | 4, h => exact h4 s (Option.some.inj h)
  | 5, h => exact h5 s (Option.some.inj h)
theorem setRow_far (w : World) (g : Nat) (cs : Array Value) (i : Nat) (h : i ≠ g) : (w.setRow g cs).heap[i]? = w.heap[i]? := by
  unfold World.setRow
  simp only [Array.getElem?_modify]
  rw [if_neg (fun e => h e.symm)]
theorem keep_row {w w1 : World} {b g : Nat} (h : KeepW w w1 b) (hg : w.heap.size ≤ g) (cs : Array Value) : KeepW w (w1.setRow g cs) b :=
  ⟨h.os, h.tape, h.output, by rw [size_setRow]; exact h.size, fun i hi hib => (setRow_far w1 g cs i (by omega)).trans (h.block i hi hib)⟩
theorem left_row {w : World} {b g t : Nat} {cs : Array Value} {fr : Nat × Nat} {v : Value} {ws : List ByteArray} (h : Left w b v ws) (hg : w.heap[g]? = some (.cells cs t fr)) (hs : NoStr cs) (cs' : Array Value) : Left (w.setRow g cs') b v ws := by
  obtain ⟨A, c, rfl, hc, hC, hne⟩ := h
  exact left_one hc hC hne ⟨by rw [size_setRow]; exact Nat.le_refl _, fun i _ hi _ => setRow_far w g cs' i hi⟩ (left_apart hC hg hs)
theorem rdr_row {w : World} {b g t : Nat} {cs : Array Value} {fr : Nat × Nat} {L : Value} {l : Int} {ws : List ByteArray} {sc : Int} (h : Rdr w b L l ws sc) (hg : w.heap[g]? = some (.cells cs t fr)) (hs : NoStr cs) (hne : g ≠ b) (cs' : Array Value) : Rdr (w.setRow g cs') b L l ws sc := by
  obtain ⟨v, hv, hl⟩ := h.blk
  exact ⟨⟨v, (setRow_far w g cs' b (fun h => hne h.symm)).trans hv, left_row hl hg hs cs'⟩⟩
abbrev zStop : Obj := .cells #[.int .i64 0, .int .i64 0, .int .i64 0, .int .i64 0, .int .i64 0, .complex .f64 0 0] 63 (0, 0)
theorem stop_times (b l : Nat) (L : Value) (ws0 : List ByteArray) (sc : Int) (ls : List ByteArray) (x2 x3 x4 x5 x6 : ByteArray) (w : World) (h : Rdr w b L l ws0 sc) (hL : Left w b L ls) (hb : l ≤ 20000) (hsz : ∀ t ∈ ls, t.size ≤ 3000)
    (hM : nextM ls l bStop 6 = .ok [x2, x3, x4, x5, x6]) (a2 e2 a3 e3 a4 e4 a5 e5 a6 e6 : Int) (h2 : smallL x2.data.toList 1000 = (a2, e2)) (h3 : smallL x3.data.toList 1000 = (a3, e3)) (h4 : readL x4.data.toList sc = (a4, e4)) (h5 : readL x5.data.toList sc = (a5, e5)) (h6 : readL x6.data.toList sc = (a6, e6)) :
    Calls Tryz.prog 30 #[.pointer (some ⟨b, 0, none⟩), .bool false] w (AnsZ w b (l + 1) (er2 (er2 e2 e3) (er2 e4 (er2 e5 e6))) (.agg #[.int .i64 a2, .int .i64 a3, .int .i64 a4, .int .i64 a5, .int .i64 a6, .complex .f64 0 0]) (fun w' => Rdr w' b L (l + 1) [] sc)) := by
  have hz := (nextM_ok hM hsz).2
  have B0 := Aside0.mk (below_alloc (below_alloc (Below.refl w.heap.size w) zStop) zStop)
  have R0 := Aside0.mk (h.below B0.out)
  have L0 := Aside0.mk (hL.keep (.of_below B0.out b))
  have HLT := Aside0.mk h.lt
  have G0 := Aside0.mk (show ((w.alloc zStop).alloc zStop).heap[w.heap.size]? = some zStop from heap_alloc2_old w zStop zStop)
  have G1 := Aside0.mk (show ((w.alloc zStop).alloc zStop).heap[w.heap.size + 1]? = some zStop from heap_alloc2_new w zStop zStop)
  have CN := Aside0.mk (fun W h hL => next_ok (w := W) (b := b) (l := l) (L := L) (ws0 := ws0) (sc := sc) h hL hb (by decide) hsz hM)
  have CL := Aside0.mk (fun W h => sheet_load.ans b L (l + 1) x2 x3 [x4, x5, x6] sc W h (hz x2 (by simp)) (hz x3 (by simp)) a2 a3 e2 e3 h2 h3)
  have C4 := Aside0.mk (fun W h => sheet_decimal.ans b L (l + 1) x4 [x5, x6] sc sc W h (hz x4 (by simp)) a4 e4 h4)
  have C5 := Aside0.mk (fun W h => sheet_decimal.ans b L (l + 1) x5 [x6] sc sc W h (hz x5 (by simp)) a5 e5 h5)
  have C6 := Aside0.mk (fun W h => sheet_decimal.ans b L (l + 1) x6 [] sc sc W h (hz x6 (by simp)) a6 e6 h6)
  have N0 := Aside0.mk (show w.heap.size ≠ b by have := HLT.out; omega)
  have N1 := Aside0.mk (show w.heap.size + 1 ≠ b by have := HLT.out; omega)
  clear h hL hz hM h2 h3 h4 h5 h6 hsz
  go_enter Tryz.func30, Tryz.ntmps30
  go_wp2_with (first
    | (go_at_call 28; refine (CL.out _ R1.out).mono ?_; rintro r w2 ⟨K2, ⟨he, rfl, R2⟩ | ⟨F2, rfl⟩⟩; rotate_left; exact ⟨rfl, ⟨(KeepW.of_below B0.out b).trans (K1.out.trans K2.out)⟩, .inr ⟨⟨by rw [er2_n F2.out]; exact F2.out⟩, by rw [er2_n F2.out]⟩⟩; have HE := Aside0.mk he; have G2 := Aside0.mk (keep_at K2.out (keep_at K1.out G1.out N1.out) N1.out); have G3 := Aside0.mk (keep_at K2.out (keep_at K1.out G0.out N0.out) N0.out); obtain ⟨⟨y0, y1, y2, y3, y4, y5⟩, f0, f1, f2, f3, f4, f5⟩ := six_of G2.out; clear he)
    | (go_at_call 27; refine (CN.out _ R0.out L0.out).mono ?_; rintro r w1 ⟨rfl, K1, R1⟩))
  obtain ⟨W4, hW4⟩ : ∃ W4, W4 = (w2.setCell ⟨w.heap.size + 1, 0, none⟩ (.int .i64 a2)).setCell ⟨w.heap.size + 1, 1, none⟩ (.int .i64 a3) := ⟨_, rfl⟩
  rw [← hW4]
  have G4 := Aside0.mk (show W4.heap[w.heap.size + 1]? = some (.cells #[.int .i64 a2, .int .i64 a3, .int .i64 0, .int .i64 0, .int .i64 0, .complex .f64 0 0] 63 (0, 0)) by rw [hW4]; exact blk_set (blk_set G2.out 0 _) 1 _)
  have G5 := Aside0.mk (show W4.heap[w.heap.size]? = some zStop by rw [hW4]; exact ((Below.heap_setCell _ ⟨w.heap.size + 1, 1, none⟩ _ w.heap.size (by show w.heap.size ≠ w.heap.size + 1; omega)).trans (Below.heap_setCell _ ⟨w.heap.size + 1, 0, none⟩ _ w.heap.size (by show w.heap.size ≠ w.heap.size + 1; omega))).trans G3.out)
  have KW := Aside0.mk (show KeepW w W4 b by rw [hW4]; exact keep_far (keep_far ((KeepW.of_below B0.out b).trans (K1.out.trans K2.out)) (by omega) 0 _) (by omega) 1 _)
  have RW := Aside0.mk (show Rdr W4 b L (l + 1) [x4, x5, x6] sc by
    rw [hW4]
    exact rdr_far (rdr_far R2.out G2.out (noStr6 _ _ _ _ _ _ (by simp) (by simp) (by simp) (by simp) (by simp) (by simp)) N1.out 0 _) (blk_set G2.out 0 _) (noStr6 _ _ _ _ _ _ (by simp) (by simp) (by simp) (by simp) (by simp) (by simp)) N1.out 1 _)
  clear hW4 y0 y1 y2 y3 y4 y5 f0 f1 f2 f3 f4 f5 K1 R1 K2 R2 G0 G1 G2 G3 CN CL
  have s3 := RW.out.at3
  have n1 : ¬ (w.heap.size + 1 = b) := N1.out
  have n2 : ¬ (b = w.heap.size + 1) := fun h => N1.out h.symm
  go_region_held2 (fun w' => w'.cell? ⟨b, 3, none⟩ = some (.int .i64 sc)) (first | exact R7.out.at3 | exact R6.out.at3 | exact R5.out.at3 | go_keep) (first
    | (go_at_call 29; refine (C6.out _ R6.out).mono ?_; rintro r w7 ⟨K7, ⟨rfl, rfl, R7⟩ | ⟨F7, rfl⟩⟩; rotate_left; exact ⟨rfl, ⟨KW.out.trans ((keep_drew' K5.out).trans (K6.out.trans K7.out))⟩, .inr ⟨⟨by rw [HE.out]; exact F7.out⟩, by rw [HE.out]; rfl⟩⟩; have G6 := Aside0.mk (keep_at K7.out (keep_at K6.out (keep_at K5.out G4.out N1.out) N1.out) N1.out); have G7 := Aside0.mk (keep_at K7.out (keep_at K6.out (keep_at K5.out G5.out N0.out) N0.out) N0.out); obtain ⟨⟨y0, y1, y2, y3, y4, y5⟩, f0, f1, f2, f3, f4, f5⟩ := six_of G6.out; obtain ⟨⟨u0, u1, u2, u3, u4, u5⟩, v0, v1, v2, v3, v4, v5⟩ := six_of G7.out)
    | (go_at_call 29; refine (C5.out _ R5.out).mono ?_; rintro r w6 ⟨K6, ⟨rfl, rfl, R6⟩ | ⟨F6, rfl⟩⟩; rotate_left; exact ⟨rfl, ⟨KW.out.trans ((keep_drew' K5.out).trans K6.out)⟩, .inr ⟨⟨by rw [HE.out, er2_z, er2_z, er2_n F6.out]; exact F6.out⟩, by rw [HE.out, er2_z, er2_z, er2_n F6.out]⟩⟩)
    | (go_at_call 29; refine (C4.out _ (rdr_drew RW.out)).mono ?_; rintro r w5 ⟨K5, ⟨rfl, rfl, R5⟩ | ⟨F5, rfl⟩⟩; rotate_left; exact ⟨rfl, ⟨KW.out.trans (keep_drew' K5.out)⟩, .inr ⟨⟨by rw [HE.out, er2_z, er2_n F5.out]; exact F5.out⟩, by rw [HE.out, er2_z, er2_n F5.out]⟩⟩))
  obtain ⟨W8, hW8⟩ : ∃ W8, W8 = ((w7.setCell ⟨w.heap.size + 1, 2, none⟩ (.int .i64 a4)).setCell ⟨w.heap.size + 1, 3, none⟩ (.int .i64 a5)).setCell ⟨w.heap.size + 1, 4, none⟩ (.int .i64 a6) := ⟨_, rfl⟩
  rw [← hW8]
  have G8 := Aside0.mk (show W8.heap[w.heap.size + 1]? = some (.cells #[.int .i64 a2, .int .i64 a3, .int .i64 a4, .int .i64 a5, .int .i64 a6, .complex .f64 0 0] 63 (0, 0)) by rw [hW8]; exact blk_set (blk_set (blk_set G6.out 2 _) 3 _) 4 _)
  have hh : w.heap.size ≠ w.heap.size + 1 := by omega
  have G9 := Aside0.mk (show W8.heap[w.heap.size]? = some zStop by rw [hW8]; exact ((Below.heap_setCell _ ⟨w.heap.size + 1, 4, none⟩ _ _ hh).trans ((Below.heap_setCell _ ⟨w.heap.size + 1, 3, none⟩ _ _ hh).trans (Below.heap_setCell _ ⟨w.heap.size + 1, 2, none⟩ _ _ hh))).trans G7.out)
  have KW8 := Aside0.mk (show KeepW w W8 b by rw [hW8]; exact keep_far (keep_far (keep_far (KW.out.trans ((keep_drew' K5.out).trans (K6.out.trans K7.out))) (by omega) 2 _) (by omega) 3 _) (by omega) 4 _)
  have RW8 := Aside0.mk (show Rdr W8 b L (l + 1) [] sc by
    rw [hW8]
    have hs : ∀ c0 c1 c2 c3 c4 : Int, NoStr #[.int .i64 c0, .int .i64 c1, .int .i64 c2, .int .i64 c3, .int .i64 c4, .complex .f64 0 0] := fun _ _ _ _ _ => noStr6 _ _ _ _ _ _ (by simp) (by simp) (by simp) (by simp) (by simp) (by simp)
    exact rdr_far (rdr_far (rdr_far R7.out G6.out (hs _ _ _ _ _) N1.out 2 _) (blk_set G6.out 2 _) (hs _ _ _ _ _) N1.out 3 _) (blk_set (blk_set G6.out 2 _) 3 _) (hs _ _ _ _ _) N1.out 4 _)
  clear hW8 y0 y1 y2 y3 y4 y5 f0 f1 f2 f3 f4 f5 u0 u1 u2 u3 u4 u5 v0 v1 v2 v3 v4 v5 G4 G5 G6 G7 KW RW K5 K6 K7 R5 R6 R7 hh s3
  go_upto_region 9 with fail
  refine wp_region_list ?_
  refine wpList_load_row rfl 63 (.tmp 5) rfl (w.heap.size + 1) rfl 63 #[.int .i64 a2, .int .i64 a3, .int .i64 a4, .int .i64 a5, .int .i64 a6, .complex .f64 0 0] (0, 0) _ G8.out Tryz.underlying63 rfl (by kernel_rfl) ?_
  refine wpList_store_row rfl 63 (.tmp 4) (.tmp 46) rfl w.heap.size #[.int .i64 a2, .int .i64 a3, .int .i64 a4, .int .i64 a5, .int .i64 a6, .complex .f64 0 0] rfl rfl 63 _ G9.out (by kernel_rfl) rfl (by simp [Value.oneCell']) ?_
  go_wp2
  refine bodyPost_ret (results_cell_row rfl _ _ w.heap.size 63 #[.int .i64 a2, .int .i64 a3, .int .i64 a4, .int .i64 a5, .int .i64 a6, .complex .f64 0 0] (0, 0) _ rfl (setRow_heap _ _ _ _ _ _ G9.out) Tryz.underlying63 rfl (by kernel_rfl)) rfl ?_
  refine ⟨⟨keep_row KW8.out (Nat.le_refl _) _⟩, .inl ⟨?_, rfl, ⟨rdr_row RW8.out G9.out (noStr6 _ _ _ _ _ _ (by simp) (by simp) (by simp) (by simp) (by simp) (by simp)) N0.out _⟩⟩⟩
  rw [HE.out]
  rfl
end Go.Proofs.YtcdmndhaeiccoaaGreatDoor.P
