/- The writer's methods at small numbers. Small numbers as texts; a stop's line. A stop's line. -/
import Derived.Test.YtcdmndhaeiccoaaGreatDoorMkit
import Derived.Test.YtcdmndhaeiccoaaGreatDoorM07
import Derived.Test.YtcdmndhaeiccoaaGreatDoorM21
import Derived.Test.YtcdmndhaeiccoaaGreatDoorM01
import Derived.Test.YtcdmndhaeiccoaaGreatDoorM09
namespace Go.Proofs.YtcdmndhaeiccoaaGreatDoor.P
open Go Go.Proofs.YtcdmndhaeiccoaaGreatDoorR
open Go.RowKit Go.Proofs.YtcdmndhaeiccoaaGreatDoorW.PrintWords Go.Proofs.YtcdmndhaeiccoaaGreatDoorW.PrintLast
attribute [local go_sem] max2_int min2_int max_two min_two
set_option linter.unusedVariables false
set_option linter.unusedSimpArgs false
set_option maxHeartbeats 8000000
set_option maxRecDepth 100000
theorem WrAt.grown {w w1 : World} {B b : Nat} {l : List UInt8} {s : Int} {row : Option Nat} (h : WrAt w B b l s) (hg : w.grownBy w1 row) (hr : ∀ k, row = some k → ∃ cells e fr, w.heap[k]? = some (.cells cells e fr) ∧ e ≠ 70 ∧ e ≠ 5) : WrAt w1 B b l s := by
  obtain ⟨⟨p, v, hb, hp, hown⟩, hle⟩ := h
  have hk : ∀ (g : Nat) (c : Array Value) (t : Nat), t = 70 ∨ t = 5 → w.heap[g]? = some (.cells c t (0, 0)) → w1.heap[g]? = w.heap[g]? := fun g c t ht h => hg.block g (Array.getElem?_eq_some_iff.1 h).1 (fun hx => by
    obtain ⟨cells, e, fr', h1, h2, h3⟩ := hr g hx.symm
    rw [h] at h1
    rcases ht with rfl | rfl
    · exact h2 (by cases h1; rfl)
    · exact h3 (by cases h1; rfl))
  refine ⟨⟨p, v, (hk _ _ _ (.inl rfl) hb).trans hb, hp, own_move hown fun k hk2 => ?_⟩, hle⟩
  obtain ⟨cells, hc⟩ := own_typed hown k hk2
  exact hk _ _ _ (.inr rfl) hc
theorem WrAt.below {w w1 : World} {B b : Nat} {l : List UInt8} {s : Int} (h : WrAt w B b l s) (hb : Below w.heap.size w w1) : WrAt w1 B b l s :=
  h.grown (row := none) ⟨hb.os, hb.tape, hb.output, hb.size, fun k hk _ => hb.block k hk⟩ (fun k hk => by cases hk)
theorem WrAt.at2 {w : World} {B b : Nat} {l : List UInt8} {s : Int} (h : WrAt w B b l s) : w.cell? ⟨b, 2, none⟩ = some (.int .i64 s) := by
  obtain ⟨⟨p, v, hb, _⟩, _⟩ := h
  exact (blk_cell hb 2).trans rfl
abbrev bs (l : List UInt8) : ByteArray := ⟨l.toArray⟩
/-- The texts of a literal. -/
theorem lit_cells (w : World) (ws : List ByteArray) : ∀ (j : Nat) x, ws[j]? = some x → (w.alloc (.cells (ws.map Value.string).toArray 9 (0, 0))).cell? ⟨w.heap.size, 0 + j, none⟩ = some (.string x) := by
  intro j x hx
  rw [blk_cell (heap_alloc_new w _)]
  simp [hx]
theorem lit_R {w : World} {base g : Nat} {ws : List ByteArray} (h : w.heap[g]? = some (.cells (ws.map Value.string).toArray 9 (0, 0))) (hb : base ≤ g) (hn : ws.length ≤ 1000) : Kd.R Kd.string 9 w base (fun _ => True) (.slice (some ⟨g, 0, none⟩) ws.length ws.length) ws := by
  refine Kd.R_of_own ⟨by simp [encs], .inr ⟨g, ws.length, (ws.map Value.string).toArray, rfl, hb, h, Nat.le_refl _, ?_, by simp, ?_⟩⟩ (fun _ _ => trivial)
  · unfold maxLen; omega
  · simp only [encs]
    exact List.take_of_length_le (by simp)
theorem row_cells {w : World} {base : Nat} {v : Value} {x : ByteArray} {t : List ByteArray} (h : Kd.R Kd.string 9 w base (fun _ => True) v (x :: t)) : ∃ g q, v = .slice (some ⟨g, 0, none⟩) (x :: t).length q ∧ (x :: t).length ≤ q ∧ g < w.heap.size ∧ ∀ (j : Nat) y, (x :: t)[j]? = some y → w.cell? ⟨g, 0 + j, none⟩ = some (.string y) := by
  obtain ⟨inner, ho⟩ := Kd.R_own h
  obtain ⟨g, cap, hv, _, _⟩ := ho.form (by simp)
  subst hv
  obtain ⟨cells, hcl⟩ := own_typed ho g rfl
  obtain ⟨_, hcp, hC⟩ := Kd.R_reads' h
  refine ⟨g, cap, rfl, hcp, (Array.getElem?_eq_some_iff.1 hcl).1, fun j y hy => ?_⟩
  have hj := (List.getElem?_eq_some_iff.1 hy).1
  obtain ⟨ad, had, hcell⟩ := at_line hC hy
  cases had
  have e2 : (⟨g, 0, none⟩ : Addr).add j = ⟨g, j, none⟩ := by unfold Addr.add; split <;> simp_all
  rw [e2] at hcell
  rw [Nat.zero_add]
  exact hcell
theorem writer_line.calls (B b bk o c : Nat) (l : List UInt8) (ws : List ByteArray) (n : Nat) (sc : Int) (w : World) (h : WrAt w B b l sc) (hB : B ≤ w.heap.size) (hcells : ∀ (j : Nat) x, ws[j]? = some x → w.cell? ⟨bk, o + j, none⟩ = some (.string x)) (hbk : bk < w.heap.size) (hn : n = ws.length) (hN : ws.length ≤ 1000) (hcap : ws.length ≤ c) (hlen : (Lib.join (ws.map (·.data.toList)) [32]).length ≤ 10000) (hl : l.length ≤ 10000) :
    Calls Tryz.prog 18 #[.pointer (some ⟨b, 0, none⟩), .slice (some ⟨bk, o, none⟩) n c] w fun r w' => r = .returned (.tuple #[]) ∧ WrAt w' B b (l ++ Lib.join (ws.map (·.data.toList)) [32] ++ [10]) sc ∧ Below B w w' ∧ KeepT w w' := by
  subst hn
  have CJ := Aside0.mk (fun W (hW : Below w.heap.size w W) => Tryz.strings_Join bk o c ws ⟨#[32]⟩ W (fun j x hx => cell_below hW (hcells j x hx)) (Nat.lt_of_lt_of_le hbk hW.size) (by omega) hcap (show (Lib.join (ws.map (·.data.toList)) [32]).length ≤ 140737488355328 by omega))
  have C1 := Aside0.mk (fun W (hW : WrAt W B b l sc) (hs : B ≤ W.heap.size) => wr_WriteString B b l ⟨(Lib.join (ws.map (·.data.toList)) [32]).toArray⟩ sc W hW (by rw [Lib.size_eq]; simp; omega) hs)
  have C2 := Aside0.mk (fun W (hW : WrAt W B b (l ++ Lib.join (ws.map (·.data.toList)) [32]) sc) (hs : B ≤ W.heap.size) => wr_WriteString B b (l ++ Lib.join (ws.map (·.data.toList)) [32]) ⟨#[10]⟩ sc W hW (by rw [List.length_append]; show _ + 1 ≤ _; omega) hs)
  have HW := Aside0.mk h
  have HB := Aside0.mk hB
  clear h hB hcells hbk hN hcap hlen hl
  generalize Lib.join (ws.map (·.data.toList)) [32] = js at CJ C1 C2 ⊢
  go_enter Tryz.func18, Tryz.ntmps18
  go_wp2_with fail
  go_region_held2 (fun _ => True) (trivial) (first
    | (go_at_call 50; refine (CJ.out _ (below_drew (Below.refl _ _))).mono ?_; rintro r w1 ⟨rfl, hb1⟩; have B1 := Aside0.mk ((below_drew (Below.refl w.heap.size w)).trans (hb1.mono (by simp))); clear hb1)
    | (go_at_call 49; refine (C1.out _ (HW.out.below B1.out) (Nat.le_trans HB.out B1.out.size)).mono ?_; rintro r w2 ⟨rfl, hw2, hb2, hk2⟩; have W2 := Aside0.mk hw2; have B2 := Aside0.mk ((B1.out.mono HB.out).trans hb2); have K2 := Aside0.mk ((keepT_below B1.out).trans hk2); clear hw2 hb2 hk2))
  go_wp2_with (first | (go_at_call 49; refine (C2.out _ (by simpa using W2.out) (Nat.le_trans HB.out B2.out.size)).mono ?_; rintro r w3 ⟨rfl, hw3, hb3, hk3⟩; have W3 := Aside0.mk hw3; have B3 := Aside0.mk (B2.out.trans hb3); have K3 := Aside0.mk (K2.out.trans hk3); clear hw3 hb3 hk3))
  go_end0
  exact ⟨rfl, W3.out, B3.out, K3.out⟩
end Go.Proofs.YtcdmndhaeiccoaaGreatDoor.P
namespace Go.Proofs.YtcdmndhaeiccoaaGreatDoor.P
open Go Go.Proofs.YtcdmndhaeiccoaaGreatDoorR
open Go.RowKit Go.Proofs.YtcdmndhaeiccoaaGreatDoorW.PrintWords Go.Proofs.YtcdmndhaeiccoaaGreatDoorW.PrintLast
attribute [local go_sem] max2_int min2_int max_two min_two run_store_complex
set_option linter.unusedVariables false
set_option linter.unusedSimpArgs false
set_option maxHeartbeats 8000000
set_option maxRecDepth 100000
/-- A digit's text. -/
abbrev dg (u : Nat) : ByteArray := ⟨(Lib.decDigits u).toArray⟩
theorem ulib_small (u : Nat) (hu : u < 100) (w : World) : Calls Tryz.prog 113 #[.int .u64 u, .int .i64 10] w fun e w' => e = .returned (.string (dg u)) ∧ w' = w := by
  have hs1 : decide ((u : Int) < 100) = true := decide_eq_true (by omega)
  have hs2 : decide (u < 100) = true := decide_eq_true hu
  have hw : IntKind.i64.wrap (u : Int) = u := by rw [IntKind.wrap_i64]; omega
  go_enter Tryz.func113, Tryz.ntmps113
  go_wp2_with (go_at_call 109; refine (Tryz.internal_strconv_small u hu _).mono ?_; rintro e w' ⟨rfl, rfl⟩)
  go_ret
  exact ⟨rfl, rfl⟩
theorem ufmt_small (u : Nat) (hu : u < 100) (w : World) : Calls Tryz.prog 85 #[.int .u64 u, .int .i64 10] w fun e w' => e = .returned (.string (dg u)) ∧ w' = w := by
  go_enter Tryz.func85, Tryz.ntmps85
  go_wp2_with (go_at_call 113; refine (ulib_small u hu _).mono ?_; rintro e w' ⟨rfl, rfl⟩)
  go_ret
  exact ⟨rfl, rfl⟩
theorem pow0 : deci_power.f 5 0 = some 1 := by decide
theorem deci_0 (w : World) : Calls Tryz.prog 52 #[.int .i64 0, .int .i64 0] w fun e w' => e = .returned (.string (dg 0)) ∧ Below w.heap.size w w' := by
  have CU := Aside0.mk (fun W => show Calls Tryz.prog 85 #[.int .u64 0, .int .i64 10] W fun e w' => e = .returned (.string (dg 0)) ∧ w' = W from ufmt_small 0 (by decide) W)
  have CP := Aside0.mk (fun W => deci_power.calls 5 0 1 W pow0)
  have e1 : (dg 0).size = 1 := by decide +kernel
  have e2 : (⟨#[]⟩ : ByteArray).size = 0 := rfl
  have hem : (⟨#[]⟩ : ByteArray) ++ dg 0 = dg 0 := by first | exact ByteArray.empty_append | decide +kernel
  go_enter Tryz.func52, Tryz.ntmps52
  go_wp2_with (first
    | (go_at_call 84; refine (CP.out _).mono ?_; rintro e w1 ⟨rfl, hd⟩; have D1 := Aside0.mk hd.below; clear hd)
    | (go_at_call 85; refine (CU.out _).mono ?_; rintro e w2 ⟨rfl, rfl⟩))
  go_ret
  exact ⟨rfl, D1.out⟩
theorem deci_9 (w : World) : Calls Tryz.prog 52 #[.int .i64 9, .int .i64 0] w fun e w' => e = .returned (.string (dg 9)) ∧ Below w.heap.size w w' := by
  have CU := Aside0.mk (fun W => show Calls Tryz.prog 85 #[.int .u64 9, .int .i64 10] W fun e w' => e = .returned (.string (dg 9)) ∧ w' = W from ufmt_small 9 (by decide) W)
  have CP := Aside0.mk (fun W => deci_power.calls 5 0 1 W pow0)
  have e1 : (dg 9).size = 1 := by decide +kernel
  have e2 : (⟨#[]⟩ : ByteArray).size = 0 := rfl
  have hem : (⟨#[]⟩ : ByteArray) ++ dg 9 = dg 9 := by first | exact ByteArray.empty_append | decide +kernel
  go_enter Tryz.func52, Tryz.ntmps52
  go_wp2_with (first
    | (go_at_call 84; refine (CP.out _).mono ?_; rintro e w1 ⟨rfl, hd⟩; have D1 := Aside0.mk hd.below; clear hd)
    | (go_at_call 85; refine (CU.out _).mono ?_; rintro e w2 ⟨rfl, rfl⟩))
  go_ret
  exact ⟨rfl, D1.out⟩
theorem writer_deci (n : Int) (t : ByteArray) (C : ∀ W, Calls Tryz.prog 52 #[.int .i64 n, .int .i64 0] W fun e w' => e = .returned (.string t) ∧ Below W.heap.size W w') (b : Nat) (w : World) (h : w.cell? ⟨b, 2, none⟩ = some (.int .i64 0)) :
    Calls Tryz.prog 21 #[.pointer (some ⟨b, 0, none⟩), .int .i64 n] w fun e w' => e = .returned (.string t) ∧ Below w.heap.size w w' := by
  have C1 := Aside0.mk C
  clear C
  go_enter Tryz.func21, Tryz.ntmps21
  go_wp2_with (go_at_call 52; refine (C1.out _).mono ?_; rintro e w1 ⟨rfl, hb⟩; have B1 := Aside0.mk hb; clear hb)
  go_ret
  exact ⟨rfl, B1.out⟩
theorem itoa (u : Nat) (hu : u < 100) (n : Int) (hn : n = u) (w : World) : Calls Tryz.prog 19 #[.int .i64 n] w fun e w' => e = .returned (.string (dg u)) ∧ w' = w := by
  subst hn
  exact Tryz.strconv_Itoa_small u hu w
theorem sheet_words.calls (i j : Nat) (hi : i < 100) (hj : j < 100) (a c : Int) (ha : a = i) (hc : c = j) (w : World) :
    Calls Tryz.prog 20 #[.agg #[.int .i64 a, .int .i64 c]] w fun e w' => ∃ v, e = .returned v ∧ Kd.R Kd.string 9 w' w.heap.size (fun _ => True) v [dg i, dg j] ∧ Below w.heap.size w w' := by
  have C1 := Aside0.mk (fun W => itoa i hi a ha W)
  have C2 := Aside0.mk (fun W => itoa j hj c hc W)
  have D : Aside0 (a = c → dg i = dg j) := ⟨fun h => by rw [ha, hc] at h; rw [Int.ofNat.inj h]⟩
  clear ha hc hi hj
  go_enter Tryz.func20, Tryz.ntmps20
  go_wp2_with fail
  obtain ⟨W, hW⟩ : ∃ W, W = w.alloc (.cells #[.int .i64 a, .int .i64 c] 58 (0, 0)) := ⟨_, rfl⟩
  rw [← hW]
  have BW := Aside0.mk (show Below w.heap.size w W by rw [hW]; exact below_alloc (Below.refl _ _) _)
  obtain ⟨y0, y1, -, -⟩ := two_cells (show W.heap[w.heap.size]? = some (.cells #[.int .i64 a, .int .i64 c] 58 (0, 0)) by rw [hW]; exact heap_alloc_new w _)
  clear hW
  go_region_held2 (fun w' => w'.cell? ⟨w.heap.size, 0, none⟩ = some (.int .i64 a) ∧ w'.cell? ⟨w.heap.size, 1, none⟩ = some (.int .i64 c)) (go_keep) (first
    | (go_at_call 19; refine (C1.out _).mono ?_; rintro r w1 ⟨rfl, rfl⟩)
    | (go_at_call 19; refine (C2.out _).mono ?_; rintro r w1 ⟨rfl, rfl⟩))
  all_goals
    go_wp2
    go_ret
    exact ⟨_, rfl, Kd.R_drew (lit_R (ws := [dg i, dg j]) (heap_alloc_new W _) BW.out.size (by simp)), below_drew1 (BW.out.trans ((below_alloc (Below.refl _ _) _).mono BW.out.size))⟩
end Go.Proofs.YtcdmndhaeiccoaaGreatDoor.P
namespace Go.Proofs.YtcdmndhaeiccoaaGreatDoor.P
open Go Go.Proofs.YtcdmndhaeiccoaaGreatDoorR
open Go.RowKit Go.Proofs.YtcdmndhaeiccoaaGreatDoorW.PrintWords Go.Proofs.YtcdmndhaeiccoaaGreatDoorW.PrintLast
attribute [local go_sem] run_store_complex
set_option linter.unusedVariables false
set_option linter.unusedSimpArgs false
set_option maxHeartbeats 8000000
set_option maxRecDepth 100000
abbrev stopO (z : Nat) : Obj := .cells #[.int .i64 0, .int .i64 0, .int .i64 0, .int .i64 0, .int .i64 9, .complex .f64 z z] 63 (0, 0)
theorem row_not (t : Nat) {w : World} {base : Nat} {v : Value} {xs : List ByteArray} (h : Kd.R Kd.string 9 w base (fun _ => True) v xs) (ht : t ≠ 9) : ∀ k, v.ownBlock = some k → ∃ cells e fr, w.heap[k]? = some (.cells cells e fr) ∧ e ≠ t := by
  intro k hk
  obtain ⟨inner, ho⟩ := Kd.R_own h
  obtain ⟨cells, hc⟩ := own_typed ho k hk
  exact ⟨cells, 9, _, hc, ht.symm⟩
theorem row_wr {w : World} {base : Nat} {v : Value} {xs : List ByteArray} (h : Kd.R Kd.string 9 w base (fun _ => True) v xs) : ∀ k, v.ownBlock = some k → ∃ cells e fr, w.heap[k]? = some (.cells cells e fr) ∧ e ≠ 70 ∧ e ≠ 5 := by
  intro k hk
  obtain ⟨inner, ho⟩ := Kd.R_own h
  obtain ⟨cells, hc⟩ := own_typed ho k hk
  exact ⟨cells, 9, _, hc, by decide, by decide⟩
theorem blk_grown {w w1 : World} {row : Option Nat} {g t : Nat} {cs : Array Value} {fr : Nat × Nat} (hg : w.grownBy w1 row) (hr : ∀ k, row = some k → ∃ cells e fr, w.heap[k]? = some (.cells cells e fr) ∧ e ≠ t) (h : w.heap[g]? = some (.cells cs t fr)) : w1.heap[g]? = some (.cells cs t fr) :=
  (hg.block g (Array.getElem?_eq_some_iff.1 h).1 (fun hx => by
    obtain ⟨cells, e, fr', h1, h2⟩ := hr g hx.symm
    rw [h] at h1
    exact h2 (by cases h1; rfl))).trans h
theorem lit_C (w : World) (ws : List ByteArray) (hn : ws.length ≤ 1000) : Kd.C Kd.string (w.alloc (.cells (ws.map Value.string).toArray 9 (0, 0))) (some ⟨w.heap.size, 0, none⟩) ws.length ws :=
  (Kd.R_reads' (lit_R (base := 0) (heap_alloc_new w _) (Nat.zero_le _) hn)).2.2
/-- What is known behind a row that grew. -/
structure RowG (w w' : World) (B b : Nat) (l : List UInt8) (z : Nat) (v : Value) (ws : List ByteArray) : Prop where
  row : Kd.R Kd.string 9 w' w.heap.size (fun _ => True) v ws
  wr : WrAt w' B b l 0
  box : w'.heap[w.heap.size]? = some (stopO z)
  below : Below w.heap.size w w'
theorem RowG.move {w W w' : World} {B b : Nat} {l : List UInt8} {z : Nat} {v : Value} {ws : List ByteArray} (h : RowG w W B b l z v ws) (hb : Below W.heap.size W w') : RowG w w' B b l z v ws :=
  ⟨Kd.R_below h.row hb, h.wr.below hb, (hb.block _ (Array.getElem?_eq_some_iff.1 h.box).1).trans h.box, h.below.trans (hb.mono h.below.size)⟩
theorem RowG.grow {w W w' : World} {B b : Nat} {l : List UInt8} {z : Nat} {v v' : Value} {ws ws' : List ByteArray} (h : RowG w W B b l z v ws) (hg : W.grownBy w' v.ownBlock) (hb : Below w.heap.size w w') (hr : Kd.R Kd.string 9 w' w.heap.size (fun _ => True) v' ws') : RowG w w' B b l z v' ws' :=
  ⟨hr, h.wr.grown hg (row_wr h.row), blk_grown hg (row_not 63 h.row (by decide)) h.box, hb⟩
theorem writer_stop.calls (B b : Nat) (l : List UInt8) (z : Nat) (w : World) (h : WrAt w B b l 0) (hB : B ≤ w.heap.size) (hz : Spot z z 0 0) (hl : l.length ≤ 5000) :
    Calls Tryz.prog 22 #[.pointer (some ⟨b, 0, none⟩), .agg #[.int .i64 0, .int .i64 0, .int .i64 0, .int .i64 0, .int .i64 9, .complex .f64 z z], .bool true] w fun r w' => r = .returned (.tuple #[]) ∧ WrAt w' B b (l ++ Lib.join ([bStop, dg 0, dg 0, dg 0, dg 0, dg 0, dg 0, dg 9].map (·.data.toList)) [32] ++ [10]) 0 ∧ Below B w w' ∧ KeepT w w' := by
  have CX := Aside0.mk (fun W => spot_XY.calls hz W)
  have CI := Aside0.mk (fun W => itoa 0 (by decide) 0 rfl W)
  have CW := Aside0.mk (fun W => sheet_words.calls 0 0 (by decide) (by decide) 0 0 rfl rfl W)
  have H0 := Aside0.mk h
  have HB := Aside0.mk hB
  have HL := Aside0.mk hl
  clear h hB hz hl
  go_enter Tryz.func22, Tryz.ntmps22
  go_upto_region 2 with fail
  obtain ⟨W1, hW1⟩ : ∃ W1, W1 = (w.alloc (stopO z)).alloc (.cells #[.string bStop] 9 (0, 0)) := ⟨_, rfl⟩
  rw [← hW1]
  have G1 := Aside0.mk (show RowG w W1 B b l z (.slice (some ⟨w.heap.size + 1, 0, none⟩) 1 1) [bStop] by
    rw [hW1]
    have s1 : (w.alloc (stopO z)).heap.size = w.heap.size + 1 := by simp
    have hb : Below w.heap.size w ((w.alloc (stopO z)).alloc (.cells #[.string bStop] 9 (0, 0))) := below_alloc (below_alloc (Below.refl _ _) _) _
    refine ⟨lit_R (ws := [bStop]) ?_ (Nat.le_succ _) (by simp), H0.out.below hb, heap_alloc2_old w _ _, hb⟩
    have := heap_alloc_new (w.alloc (stopO z)) (.cells #[.string bStop] 9 (0, 0))
    rw [s1] at this
    exact this)
  clear hW1
  obtain ⟨⟨y0, y1, y2, y3, y4, y5⟩, -⟩ := six_of G1.out.box
  go_wp2_with (first
    | (go_at_call 53; refine (CX.out _).mono ?_; rintro r w2 ⟨rfl, hw⟩; obtain rfl := hw.symm)
    | (go_at_call 19; refine (CI.out _).mono ?_; rintro r w2 ⟨rfl, hw⟩; obtain rfl := hw.symm)
    | ((with_reducible refine gate_builtin (b := .append) (xs := #[.tmp 17, .tmp 22]) rfl ?_); at_builtin; refine Kd.R_append_rows Kd.string (w0 := w) w.heap.size rfl (.tmp 17) (.tmp 22) 38 9 (.string ⟨#[]⟩) 16 rfl Tryz.underlying38 info9 rfl (by decide) (by decide) _ [bStop] [dg 0, dg 0] _ _ _ (fun _ => True) (fun _ => False) rfl rfl (G1.out.move (below_alloc (Below.refl _ _) _)).row (lit_C W1 [dg 0, dg 0] (by decide)) (fun _ _ h => h) (fun _ h => h.elim) (fun _ _ => trivial) (G1.out.move (below_alloc (Below.refl _ _) _)).below (G1.out.move (below_alloc (Below.refl _ _) _)).below.size (by simp) ?_; intro v3 w3 ho hb hg _; have G3 := Aside0.mk ((G1.out.move (below_alloc (Below.refl _ _) _)).grow hg hb ho); clear ho hb hg; clear y0 y1 y2 y3 y4 y5; obtain ⟨g3, q3, hv3, hq3, -, -⟩ := row_cells G3.out.row; subst hv3; clear hq3; obtain ⟨⟨y0, y1, y2, y3, y4, y5⟩, -⟩ := six_of G3.out.box)
    | (go_at_call 20; refine (CW.out _).mono ?_; rintro r w4 ⟨v4, rfl, hR4, hb4⟩; obtain ⟨A4, q4, rfl, hq4, hC4⟩ := Kd.R_reads hR4; have R4 := Aside0.mk hC4; have G4 := Aside0.mk (G3.out.move hb4); clear hR4 hb4 hq4 hC4)
    | ((with_reducible refine gate_builtin (b := .append) (xs := #[.tmp 24, .tmp 27]) rfl ?_); at_builtin; refine Kd.R_append_rows Kd.string (w0 := w) w.heap.size rfl (.tmp 24) (.tmp 27) 38 9 (.string ⟨#[]⟩) 16 rfl Tryz.underlying38 info9 rfl (by decide) (by decide) _ [bStop, dg 0, dg 0] [dg 0, dg 0] _ _ _ (fun _ => True) (fun _ => False) rfl rfl (G4.out).row R4.out (fun _ _ h => h) (fun _ h => h.elim) (fun _ _ => trivial) (G4.out).below (G4.out).below.size (by simp) ?_; intro v5 w5 ho hb hg _; have G5 := Aside0.mk ((G4.out).grow hg hb ho); clear ho hb hg; clear y0 y1 y2 y3 y4 y5; obtain ⟨g5, q5, hv5, hq5, -, -⟩ := row_cells G5.out.row; subst hv5; clear hq5; obtain ⟨⟨y0, y1, y2, y3, y4, y5⟩, -⟩ := six_of G5.out.box))
  go_region_held2 (fun w' => w'.cell? ⟨w.heap.size, 2, none⟩ = some (.int .i64 0) ∧ w'.cell? ⟨w.heap.size, 3, none⟩ = some (.int .i64 0) ∧ w'.cell? ⟨w.heap.size, 4, none⟩ = some (.int .i64 9)) (first | exact ⟨y2, y3, y4⟩ | go_keep) (first
    | (go_at_call 18; refine (writer_line.calls B b g6 0 q6 l [bStop, dg 0, dg 0, dg 0, dg 0, dg 0, dg 0, dg 9] 8 0 w6 G6.out.wr (Nat.le_trans HB.out G6.out.below.size) C6.out L6.out rfl (by decide) Q6.out (by decide +kernel) (by have := HL.out; omega)).mono ?_; rintro r w7 ⟨rfl, hw7, hb7, hk7⟩; have W7 := Aside0.mk hw7; have B7 := Aside0.mk ((G6.out.below.mono HB.out).trans hb7); have K7 := Aside0.mk ((keepT_below G6.out.below).trans hk7); have X7 := Aside0.mk (hk7 _ _ _ _ (by decide) (by decide) G6.out.box); clear hw7 hb7 hk7 y0 y1 y2 y3 y4 y5; obtain ⟨⟨y0, y1, y2, y3, y4, y5⟩, -⟩ := six_of X7.out)
    | (refine Kd.R_append_rows_step Kd.string (w0 := w) w.heap.size rfl (.tmp 30) (.tmp 43) 38 9 (.string ⟨#[]⟩) 16 rfl Tryz.underlying38 info9 rfl (by decide) (by decide) _ [bStop, dg 0, dg 0, dg 0, dg 0] [dg 0, dg 0, dg 9] _ _ _ (fun _ => True) (fun _ => False) rfl rfl (Ed3.out.move (below_alloc (Below.refl _ _) _)).row (lit_C d3 [dg 0, dg 0, dg 9] (by decide)) (fun _ _ h => h) (fun _ h => h.elim) (fun _ _ => trivial) (Ed3.out.move (below_alloc (Below.refl _ _) _)).below (Ed3.out.move (below_alloc (Below.refl _ _) _)).below.size (by simp) ?_; intro v6 w6 ho hb hg _; have G6 := Aside0.mk ((Ed3.out.move (below_alloc (Below.refl _ _) _)).grow hg hb ho); clear ho hb hg y0 y1 y2 y3 y4 y5; obtain ⟨g6, q6, hv6, hq6, hl6, hc6⟩ := row_cells G6.out.row; subst hv6; have Q6 := Aside0.mk hq6; have L6 := Aside0.mk hl6; have C6 := Aside0.mk hc6; clear hq6 hl6 hc6; obtain ⟨⟨y0, y1, y2, y3, y4, y5⟩, -⟩ := six_of G6.out.box)
    | (go_at_call 21; refine (writer_deci 9 (dg 9) deci_9 b _ (WrAt.at2 Ed2.out.wr)).mono ?_; rintro r d3 ⟨rfl, hb⟩; have Dd3 := Aside0.mk (show Below w5.heap.size w5 d3 from Dd2.out.trans (hb.mono Dd2.out.size)); clear hb; have Ed3 := Aside0.mk (G5.out.move Dd3.out); clear y0 y1 y2 y3 y4 y5; obtain ⟨⟨y0, y1, y2, y3, y4, y5⟩, -⟩ := six_of Ed3.out.box)
    | (go_at_call 21; refine (writer_deci 0 (dg 0) deci_0 b _ (WrAt.at2 Ed1.out.wr)).mono ?_; rintro r d2 ⟨rfl, hb⟩; have Dd2 := Aside0.mk (show Below w5.heap.size w5 d2 from Dd1.out.trans (hb.mono Dd1.out.size)); clear hb; have Ed2 := Aside0.mk (G5.out.move Dd2.out); clear y0 y1 y2 y3 y4 y5; obtain ⟨⟨y0, y1, y2, y3, y4, y5⟩, -⟩ := six_of Ed2.out.box)
    | (go_at_call 21; refine (writer_deci 0 (dg 0) deci_0 b _ (WrAt.at2 (G5.out.wr.below (below_drew (Below.refl _ _))))).mono ?_; rintro r d1 ⟨rfl, hb⟩; have Dd1 := Aside0.mk (show Below w5.heap.size w5 d1 from (below_drew (Below.refl w5.heap.size w5)).trans (hb.mono (by simp))); clear hb; have Ed1 := Aside0.mk (G5.out.move Dd1.out); clear y0 y1 y2 y3 y4 y5; obtain ⟨⟨y0, y1, y2, y3, y4, y5⟩, -⟩ := six_of Ed1.out.box))
  go_end0
  exact ⟨rfl, W7.out, B7.out, K7.out⟩
end Go.Proofs.YtcdmndhaeiccoaaGreatDoor.P
