/- The state of the search in memory: how it is laid, and what it starts with. -/
import Derived.Test.YtenjncmljmgcdaaBF
import Derived.Test.YtenjncmljmgcdaaOpen
namespace Go.Proofs.Ytenjncmljmgcdaa.P
open Go.Proofs.YtenjncmljmgcdaaR
open Go.RowKit Go.Proofs.YtenjncmljmgcdaaW.PrintWords Go.Proofs.YtenjncmljmgcdaaW.PrintLast Go.Proofs.YtenjncmljmgcdaaW.PrintMore
set_option linter.unusedVariables false
set_option linter.unusedSimpArgs false
set_option maxHeartbeats 8000000
set_option maxRecDepth 100000
def vec (n : Nat) (d : Int → Int) : List Int := (List.range n).map fun (i : Nat) => d (i : Int)
def vecA (n : Nat) (d : Int → Int) : Array Value := ((vec n d).map fun x => Value.int .i64 x).toArray
theorem vec_length (n : Nat) (d : Int → Int) : (vec n d).length = n := by unfold vec; simp
theorem vec_at {n : Nat} (d : Int → Int) {i : Nat} (h : i < n) : (vec n d)[i]? = some (d (i : Int)) := by
  unfold vec
  simp [List.getElem?_map, List.getElem?_range h]
theorem vecA_size (n : Nat) (d : Int → Int) : (vecA n d).size = n := by unfold vecA; simp [vec_length]
theorem vecA_at {n : Nat} (d : Int → Int) {i : Nat} (h : i < n) : (vecA n d)[i]? = some (.int .i64 (d (i : Int))) := by
  unfold vecA
  simp [List.getElem?_map, vec_at d h]
theorem vecA_ext {n : Nat} {d : Int → Int} {cs : Array Value} (hs : cs.size = n) (h : ∀ i : Nat, i < n → cs[i]? = some (.int .i64 (d (i : Int)))) : cs = vecA n d := by
  apply Array.ext_getElem?
  intro i
  by_cases hi : i < n
  · rw [h i hi, vecA_at d hi]
  · rw [Array.getElem?_eq_none (by omega), Array.getElem?_eq_none (by rw [vecA_size]; omega)]
theorem vecA_put {n : Nat} (d : Int → Int) {j : Nat} (h : j < n) (x : Int) : (vecA n d).setIfInBounds j (.int .i64 x) = vecA n (put d (j : Int) x) := by
  refine vecA_ext (by rw [Array.size_setIfInBounds, vecA_size]) fun i hi => ?_
  by_cases e : i = j
  · subst e
    rw [put_same, Array.getElem?_setIfInBounds_self_of_lt (by rw [vecA_size]; exact hi)]
  · rw [Array.getElem?_setIfInBounds_ne (Ne.symm e), vecA_at d hi, put_ne _ _ (by omega)]
/-- The state lies in three blocks. -/
structure StAt (w : World) (p gd gb : Nat) (A : Option Addr) (m c n : Nat) (d b : Int → Int) : Prop where
  blkP : w.heap[p]? = some (.cells #[.slice A m c, .slice (some ⟨gd, 0, none⟩) n n, .slice (some ⟨gb, 0, none⟩) n n] 50 (0, 0))
  blkD : w.heap[gd]? = some (.cells (vecA n d) 2 (0, 0))
  blkB : w.heap[gb]? = some (.cells (vecA n b) 3 (0, 0))
theorem StAt.below {w w1 : World} {p gd gb : Nat} {A : Option Addr} {m c n : Nat} {d b : Int → Int} (h : StAt w p gd gb A m c n d b) (hb : Below w.heap.size w w1) : StAt w1 p gd gb A m c n d b :=
  ⟨blk_below h.blkP hb, blk_below h.blkD hb, blk_below h.blkB hb⟩
def pvMk (w0 : World) (t : TypeId) (n : Nat) : PV := ⟨fun v w => ∃ g cs, v = .slice (some ⟨g, 0, none⟩) n n ∧ w0.heap.size ≤ g ∧ cs.size = n ∧ w.heap[g]? = some (.cells cs t (0, 0)),
  fun h hb => by
    obtain ⟨g, cs, e, hg, hs, hh⟩ := h
    exact ⟨g, cs, e, hg, hs, blk_below hh hb⟩⟩
def TwoRows (w0 w : World) (n gd gb : Nat) : Prop := w0.heap.size ≤ gd ∧ w0.heap.size ≤ gb ∧ (∃ cd, cd.size = n ∧ w.heap[gd]? = some (.cells cd 2 (0, 0))) ∧ ∃ cb, cb.size = n ∧ w.heap[gb]? = some (.cells cb 3 (0, 0))
theorem TwoRows.below {w0 w w1 : World} {n gd gb : Nat} (h : TwoRows w0 w n gd gb) (hb : Below w.heap.size w w1) : TwoRows w0 w1 n gd gb := by
  obtain ⟨h1, h2, ⟨cd, h3, h4⟩, cb, h5, h6⟩ := h
  exact ⟨h1, h2, ⟨cd, h3, blk_below h4 hb⟩, cb, h5, blk_below h6 hb⟩
def pvAgg (w0 : World) (e : Value) (n : Nat) : PV := ⟨fun v w => ∃ gd gb, v = .agg #[e, .slice (some ⟨gd, 0, none⟩) n n, .slice (some ⟨gb, 0, none⟩) n n] ∧ TwoRows w0 w n gd gb, fun ⟨gd, gb, e, h⟩ hb => ⟨gd, gb, e, h.below hb⟩⟩
def pvBox (w0 : World) (e : Value) (n : Nat) : PV := ⟨fun v w => ∃ p gd gb, v = .pointer (some ⟨p, 0, none⟩) ∧ w0.heap.size ≤ p ∧ w.heap[p]? = some (.cells #[e, .slice (some ⟨gd, 0, none⟩) n n, .slice (some ⟨gb, 0, none⟩) n n] 50 (0, 0)) ∧ TwoRows w0 w n gd gb,
  fun ⟨p, gd, gb, e, hp, hh, h⟩ hb => ⟨p, gd, gb, e, hp, blk_below hh hb, h.below hb⟩⟩
theorem info2m : ∃ i, Try.prog.info? 2 = some i ∧ i.zero = some (.int .i64 0) ∧ i.size = 1 ∧ i.bytes = 8 := ⟨_, rfl, by kernel_rfl, by kernel_rfl, by kernel_rfl⟩
theorem info3m : ∃ i, Try.prog.info? 3 = some i ∧ i.zero = some (.int .i64 0) ∧ i.size = 1 ∧ i.bytes = 8 := ⟨_, rfl, by kernel_rfl, by kernel_rfl, by kernel_rfl⟩
theorem run_mk (t e : TypeId) (ht : Try.prog.underlying t = some (.slice e)) (hi : ∃ i, Try.prog.info? e = some i ∧ i.zero = some (.int .i64 0) ∧ i.size = 1 ∧ i.bytes = 8) (n : Nat) (hn : n ≤ 100000) (w : World) :
    ∃ cs, cs.size = n ∧ (Instr.makeSlice t (.int .i64 (n : Int)) (.int .i64 (n : Int))).run Try.prog w = .ok (.slice (some ⟨w.heap.size, 0, none⟩) n n) (w.alloc (.cells cs e)) := by
  obtain ⟨i, h1, h2, h3, h4⟩ := hi
  have h := run_makeSlice (P := Try.prog) w t e i _ ht h1 h2 .i64 .i64 (n : Int) (n : Int) (by omega) (Int.le_refl _) (by rw [h3]; omega) (by rw [h4]; omega) (by omega)
  rw [Int.toNat_natCast, h3] at h
  exact ⟨_, by rw [size_madeCells, Nat.mul_one], h⟩
theorem diff_start.calls (A : Option Addr) (m c n : Nat) (F : Int) (h0 : 0 < n) (hn : n ≤ 100000) (hF0 : 0 ≤ F) (hF1 : F < n) (w : World) :
    Calls Try.prog 28 #[.int .i64 (n : Int), .slice A m c, .int .i64 F] w fun e w' => ∃ p gd gb, e = .returned (.pointer (some ⟨p, 0, none⟩)) ∧ w.heap.size ≤ p ∧ w.heap.size ≤ gd ∧ w.heap.size ≤ gb ∧ StAt w' p gd gb A m c n (start F).d (start F).b ∧ Below w.heap.size w w' := by
  go_enter Try.func28, Try.ntmps28
  go_wp2_with fail
  refine wp_region_pv [.val (.slice A m c), .val (.int .i64 (n : Int)), pvMk w 2 n, .val (.int .i64 (n : Int)), pvMk w 3 n, pvAgg w (.slice A m c) n, pvBox w (.slice A m c) n, pvBox w (.slice A m c) n] rfl (by kernel_rfl) ?howes ?hend
  case howes =>
    refine ⟨?_, ?_, ?_, ?_, ?_, ?_, ?_, ?_, trivial⟩
    · refine owes_pv0 (fun E vs a W_ hI hE hp => ?_)
      have e0 := hI.outer (d := 1) (by rfl) rfl
      refine ⟨rfl, _, ?_, rfl⟩
      simp only [execOp, e0]
      rfl
    · refine owes_pv0 (fun E vs a W_ hI hE hp => ?_)
      have e0 := hI.outer (d := 0) (by rfl) rfl
      refine ⟨rfl, _, ?_, rfl⟩
      simp only [execOp, e0]
      rfl
    · refine owes_pv (fun E vs a W_ hI hE hp => ?_)
      have e0 : a.eval (.tmp 10) = .int .i64 (n : Int) := hI.pv 1 rfl rfl (pred_of hp 1 rfl) rfl
      obtain ⟨cs, hcs, hr⟩ := run_mk 24 2 Try.underlying24 info2m n hn W_
      refine ⟨rfl, _, W_.alloc (.cells cs 2), ?_, below_alloc (Below.refl _ _) _, W_.heap.size, cs, rfl, hI.world.2.size, hcs, blk_new _ _⟩
      simp only [execOp, e0]
      simp [hr]
    · refine owes_pv0 (fun E vs a W_ hI hE hp => ?_)
      have e0 := hI.outer (d := 0) (by rfl) rfl
      refine ⟨rfl, _, ?_, rfl⟩
      simp only [execOp, e0]
      rfl
    · refine owes_pv (fun E vs a W_ hI hE hp => ?_)
      have e0 : a.eval (.tmp 12) = .int .i64 (n : Int) := hI.pv 3 rfl rfl (pred_of hp 3 rfl) rfl
      obtain ⟨cs, hcs, hr⟩ := run_mk 25 3 Try.underlying25 info3m n hn W_
      refine ⟨rfl, _, W_.alloc (.cells cs 3), ?_, below_alloc (Below.refl _ _) _, W_.heap.size, cs, rfl, hI.world.2.size, hcs, blk_new _ _⟩
      simp only [execOp, e0]
      simp [hr]
    · refine owes_pv0 (fun E vs a W_ hI hE hp => ?_)
      have e0 : a.eval (.tmp 9) = .slice A m c := hI.pv 0 rfl rfl (pred_of hp 0 rfl) rfl
      obtain ⟨gd, cd, e1, h1, h2, h3⟩ := hI.pv 2 rfl rfl (pred_of hp 2 rfl) rfl
      obtain ⟨gb, cb, e2, k1, k2, k3⟩ := hI.pv 4 rfl rfl (pred_of hp 4 rfl) rfl
      refine ⟨rfl, _, ?_, gd, gb, rfl, h1, k1, ⟨cd, h2, h3⟩, cb, k2, k3⟩
      simp only [execOp, List.map_toArray, List.map_cons, List.map_nil, e0, e1, e2]
      go_simp
    · refine owes_pv (fun E vs a W_ hI hE hp => ?_)
      obtain ⟨gd, gb, e0, h1⟩ := hI.pv 5 rfl rfl (pred_of hp 5 rfl) rfl
      have hb : Below W_.heap.size W_ (W_.alloc (.cells #[.slice A m c, .slice (some ⟨gd, 0, none⟩) n n, .slice (some ⟨gb, 0, none⟩) n n] 50 (0, 0))) := below_alloc (Below.refl _ _) _
      refine ⟨rfl, _, _, ?_, hb, W_.heap.size, gd, gb, rfl, hI.world.2.size, blk_new _ _, h1.below hb⟩
      simp only [execOp, e0]
      go_simp
    · refine owes_pv0 (fun E vs a W_ hI hE hp => ?_)
      obtain ⟨p, gd, gb, e0, h1, h2, h3⟩ := hI.pv 6 rfl rfl (pred_of hp 6 rfl) rfl
      refine ⟨rfl, _, ?_, p, gd, gb, rfl, h1, h2, h3⟩
      simp only [execOp, e0]
      rfl
  case hend =>
    intro E vs a W hI hall
    obtain ⟨p, gd, gb, e0, hp, hP, hgd, hgb, ⟨cd, hcd, hD⟩, cb, hcb, hB⟩ := hI.pv 7 rfl rfl (hall 7 (by decide)) rfl
    obtain rfl := hI.frame (by kernel_rfl) hall
    have HBW := Aside0.mk hI.world.2
    clear hI hall
    simp only [putsFrom, List.setIfInBounds_toArray, List.set_cons_zero, List.set_cons_succ] at e0 ⊢
    have e7 : vs 7 = .pointer (some ⟨p, 0, none⟩) := e0
    rw [e7]
    clear e0 e7
    have HP := Aside0.mk hP
    have HD := Aside0.mk hD
    have HB := Aside0.mk hB
    have HN := Aside0.mk (And.intro hn (And.intro hF0 hF1))
    have GP := Aside0.mk (And.intro hp (And.intro hgd hgb))
    clear hP hD hB hn hF0 hF1 hp hgd hgb
    go_wp2
    go_loopg [8, 17] n (fun gg v8 v17 wr => ∃ (j : Nat) (cd cb : Array Value), v17 = .int .i64 (j : Int) ∧ j ≤ n ∧ n - j ≤ gg ∧ cd.size = n ∧ cb.size = n ∧ Aside0 (∀ i : Nat, i < j → cd[i]? = some (.int .i64 1152921504606846976)) ∧ Aside0 (∀ i : Nat, i < j → cb[i]? = some (.int .i64 (-1))) ∧
      Aside0 (wr.heap[p]? = some (.cells #[.slice A m c, .slice (some ⟨gd, 0, none⟩) n n, .slice (some ⟨gb, 0, none⟩) n n] 50 (0, 0))) ∧ Aside0 (wr.heap[gd]? = some (.cells cd 2 (0, 0))) ∧ Aside0 (wr.heap[gb]? = some (.cells cb 3 (0, 0))) ∧ Aside0 (Below w.heap.size w wr))
    case atStart => exact ⟨0, cd, cb, rfl, Nat.zero_le _, Nat.le_refl _, hcd, hcb, ⟨fun i hi => absurd hi (Nat.not_lt_zero _)⟩, ⟨fun i hi => absurd hi (Nat.not_lt_zero _)⟩, HP, HD, HB, HBW⟩
    case round =>
      clear HP HD HB HBW hcd hcb
      obtain ⟨j, cd, cb, rfl, hj, hm, hcd, hcb, K1, K2, HP, HD, HB, HBW⟩ := hrel
      by_cases hjn : j < n
      · have c1 : decide ((j : Int) < (n : Int)) = true := by simp; omega
        have p1 : (0 : Int) ≤ (j : Int) := by omega
        have p2 : (j : Int) < (n : Int) := by omega
        have w1 : wrap64 ((j : Int) + 1) = (j : Int) + 1 := by unfold wrap64; have := HN.out.1; omega
        have l1 : wr.cell? ⟨p, 1, none⟩ = some (.slice (some ⟨gd, 0, none⟩) n n) := (blk_cell HP.out 1).trans rfl
        have l2 : wr.cell? ⟨p, 2, none⟩ = some (.slice (some ⟨gb, 0, none⟩) n n) := (blk_cell HP.out 2).trans rfl
        have l3 : wr.cell? ⟨gd, j, none⟩ = some cd[j]! := by rw [blk_cell HD.out j, getElem!_pos _ j (by omega)]; exact Array.getElem?_eq_getElem (by omega)
        have l4 := blk_frozen HD.out j
        have ne := blk_ne HD.out HB.out (by decide)
        have nep := blk_ne HP.out HD.out (by decide)
        have neq := blk_ne HP.out HB.out (by decide)
        have l5 : (wr.setCell ⟨gd, j, none⟩ (.int .i64 1152921504606846976)).cell? ⟨gb, j, none⟩ = some cb[j]! := by
          rw [blk_cell (blk_far HB.out (p := ⟨gd, j, none⟩) (Ne.symm ne) _) j, getElem!_pos _ j (by omega)]; exact Array.getElem?_eq_getElem (by omega)
        have l6 := blk_frozen HB.out j
        generalize cd[j]! = x at l3
        generalize cb[j]! = y at l5
        have N1 := Aside0.mk ne
        have N2 := Aside0.mk nep
        have N3 := Aside0.mk neq
        clear ne nep neq
        go_wp2_with fail
        go_big_region
        clear l1 l2 l3 l4 l5 l6
        have k1 := blk_far (blk_far HP.out (p := ⟨gd, j, none⟩) N2.out (.int .i64 1152921504606846976)) (p := ⟨gb, j, none⟩) N3.out (.int .i64 (-1))
        have k2 := blk_far (blk_set HD.out j (.int .i64 1152921504606846976)) (p := ⟨gb, j, none⟩) N1.out (.int .i64 (-1))
        have k3 := blk_set (blk_far HB.out (p := ⟨gd, j, none⟩) (Ne.symm N1.out) (.int .i64 1152921504606846976)) j (.int .i64 (-1))
        have k4 := below_set (below_set HBW.out GP.out.2.1 (j := j) (v := Value.int .i64 1152921504606846976)) GP.out.2.2 (j := j) (v := Value.int .i64 (-1))
        have K3 := Aside0.mk k1
        have K4 := Aside0.mk k2
        have K5 := Aside0.mk k3
        have K6 := Aside0.mk k4
        clear k1 k2 k3 k4 HP HD HB HBW
        have grow : ∀ (cs : Array Value) (u : Value), cs.size = n → (∀ i : Nat, i < j → cs[i]? = some u) → ∀ i : Nat, i < j + 1 → (cs.setIfInBounds j u)[i]? = some u := by
          intro cs u hs h i hi
          by_cases e : i = j
          · subst e; exact Array.getElem?_setIfInBounds_self_of_lt (by omega)
          · rw [Array.getElem?_setIfInBounds_ne (Ne.symm e)]; exact h i (by omega)
        have G1 := Aside0.mk (grow cd _ hcd K1.out)
        have G2 := Aside0.mk (grow cb _ hcb K2.out)
        clear grow K1 K2
        go_wp2
        go_roundg (n - (j + 1))
        case measure => omega
        case rel => exact ⟨j + 1, _, _, by first | rfl | go_num, by omega, Nat.le_refl _, by rw [Array.size_setIfInBounds]; exact hcd, by rw [Array.size_setIfInBounds]; exact hcb, G1, G2, K3, K4, K5, ⟨K6.out.drew⟩⟩
      · have c1 : decide ((j : Int) < (n : Int)) = false := by simp; omega
        have hjn' : j = n := by omega
        subst hjn'
        obtain ⟨f, hf⟩ : ∃ f : Nat, F = f := ⟨F.toNat, by have := HN.out; omega⟩
        subst hf
        have hfn : f < j := by have := HN.out; omega
        have p1 : (0 : Int) ≤ (f : Int) := by omega
        have p2 : (f : Int) < (j : Int) := by omega
        have l1 : wr.cell? ⟨p, 1, none⟩ = some (.slice (some ⟨gd, 0, none⟩) j j) := (blk_cell HP.out 1).trans rfl
        have l3 : wr.cell? ⟨gd, f, none⟩ = some cd[f]! := by rw [blk_cell HD.out f, getElem!_pos _ f (by omega)]; exact Array.getElem?_eq_getElem (by omega)
        have l4 := blk_frozen HD.out f
        generalize cd[f]! = x at l3
        have ne := blk_ne HD.out HB.out (by decide)
        have nep := blk_ne HP.out HD.out (by decide)
        have N1 := Aside0.mk ne
        have N2 := Aside0.mk nep
        clear ne nep
        go_wp2
        go_ret
        refine ⟨p, gd, gb, rfl, GP.out.1, GP.out.2.1, GP.out.2.2, ⟨blk_far HP.out (p := ⟨gd, f, none⟩) N2.out _, ?_, ?_⟩, below_set HBW.out GP.out.2.1⟩
        · have h := blk_set HD.out f (Value.int .i64 0)
          rw [h]
          congr 2
          refine vecA_ext (by rw [Array.size_setIfInBounds]; exact hcd) fun i hi => ?_
          show _ = some (Value.int .i64 (if (i : Int) = (f : Int) then 0 else 1152921504606846976))
          by_cases e : i = f
          · subst e
            rw [if_pos rfl]
            exact Array.getElem?_setIfInBounds_self_of_lt (by omega)
          · rw [if_neg (by omega), Array.getElem?_setIfInBounds_ne (Ne.symm e)]
            exact K1.out i hi
        · have h := blk_far HB.out (p := ⟨gd, f, none⟩) (Ne.symm N1.out) (Value.int .i64 0)
          rw [h]
          congr 2
          exact vecA_ext hcb fun i hi => K2.out i hi
end Go.Proofs.Ytenjncmljmgcdaa.P
/- One round over all edges. -/
namespace Go.Proofs.Ytenjncmljmgcdaa.P
open Go.Proofs.YtenjncmljmgcdaaR
open Go.RowKit Go.Proofs.YtenjncmljmgcdaaW.PrintWords Go.Proofs.YtenjncmljmgcdaaW.PrintLast Go.Proofs.YtenjncmljmgcdaaW.PrintMore
set_option linter.unusedVariables false
set_option linter.unusedSimpArgs false
set_option maxHeartbeats 8000000
set_option maxRecDepth 100000
/-- All but two blocks is as it was, new blocks apart. -/
structure Keep2 (w w' : World) (g h : Nat) : Prop where
  os : w'.os = w.os
  tape : w'.tape = w.tape
  output : w'.output = w.output
  size : w.heap.size ≤ w'.heap.size
  block : ∀ i, i < w.heap.size → i ≠ g → i ≠ h → w'.heap[i]? = w.heap[i]?
theorem Keep2.refl (w : World) (g h : Nat) : Keep2 w w g h := ⟨rfl, rfl, rfl, Nat.le_refl _, fun _ _ _ _ => rfl⟩
theorem Keep2.trans {a b c : World} {g h : Nat} (x : Keep2 a b g h) (y : Keep2 b c g h) : Keep2 a c g h :=
  ⟨y.os.trans x.os, y.tape.trans x.tape, y.output.trans x.output, Nat.le_trans x.size y.size, fun i hi h1 h2 => (y.block i (Nat.lt_of_lt_of_le hi x.size) h1 h2).trans (x.block i hi h1 h2)⟩
theorem Keep2.of_below {a b : World} (x : Below a.heap.size a b) (g h : Nat) : Keep2 a b g h := ⟨x.os, x.tape, x.output, x.size, fun i hi _ _ => x.block i hi⟩
theorem Keep2.set1 (a : World) (g h j : Nat) (u : Value) : Keep2 a (a.setCell ⟨g, j, none⟩ u) g h := ⟨rfl, rfl, rfl, by simp [World.setCell], fun i _ hg _ => Below.heap_setCell a ⟨g, j, none⟩ u i hg⟩
theorem Keep2.set2 (a : World) (g h j : Nat) (u : Value) : Keep2 a (a.setCell ⟨h, j, none⟩ u) g h := ⟨rfl, rfl, rfl, by simp [World.setCell], fun i _ _ hh => Below.heap_setCell a ⟨h, j, none⟩ u i hh⟩
theorem Keep2.below {a b : World} {g h B : Nat} (x : Keep2 a b g h) (hB : B ≤ a.heap.size) (hg : B ≤ g) (hh : B ≤ h) : Below B a b := ⟨x.os, x.tape, x.output, x.size, fun i hi => x.block i (by omega) (by omega) (by omega)⟩
theorem Keep2.cell {a b : World} {g h : Nat} {p : Addr} {v : Value} (x : Keep2 a b g h) (hc : a.cell? p = some v) (h1 : p.block ≠ g) (h2 : p.block ≠ h) : b.cell? p = some v :=
  (World.cell?_of_block (x.block p.block (World.block_lt_of_cell? a p hc) h1 h2)).trans hc
/-- The edges' cells. -/
theorem edge_cells {w : World} {A : Option Addr} {m : Nat} {l : List S42} (h : Kd.C k42 w A m l) (hm : m = l.length) {i : Nat} {e : S42} (he : l[i]? = some e) :
    ∃ ad, A = some ad ∧ w.cell? (ad.add (i * 3)) = some (.int .i64 e.f0) ∧ w.cell? ⟨(ad.add (i * 3)).block, (ad.add (i * 3)).off + 1, none⟩ = some (.int .i64 e.f1) ∧ w.cell? ⟨(ad.add (i * 3)).block, (ad.add (i * 3)).off + 2, none⟩ = some (.int .i64 e.f2) := by
  have hlt := (List.getElem?_eq_some_iff.1 he).1
  obtain ⟨ad, h1, h2, h3, h4⟩ := at_T42 h (i : Int) (by omega) (by omega)
  have e1 : rd_T42 l (i : Int) = e := by unfold rd_T42; rw [Int.toNat_natCast, List.getD_eq_getElem?_getD, he]; rfl
  rw [e1, Int.toNat_natCast] at h2 h3 h4
  exact ⟨ad, h1, h2, h3, h4⟩
theorem add_block (ad : Addr) (k : Nat) : (ad.add k).block = ad.block := by unfold Addr.add; split <;> rfl
/-- The memory while the region of the two stores runs: a store is done, or not. -/
def RW (w : World) (p gd gb q n c : Nat) (A : Option Addr) (m : Nat) (s : Sta) (u v : Nat) (wt i x : Int) (d1 d2 : Bool) (w' : World) : Prop :=
  w'.heap[p]? = some (.cells #[.slice A m c, .slice (some ⟨gd, 0, none⟩) n n, .slice (some ⟨gb, 0, none⟩) n n] 50 (0, 0)) ∧
  w'.heap[q]? = some (.cells #[.int .i64 (u : Int), .int .i64 (v : Int), .int .i64 wt] 42 (0, 0)) ∧
  w'.heap[gd]? = some (.cells (vecA n (if d1 = true then put s.d (v : Int) (s.d (u : Int) + wt) else s.d)) 2 (0, 0)) ∧
  w'.heap[gb]? = some (.cells (vecA n (if d2 = true then put s.b (v : Int) i else s.b)) 3 (0, 0)) ∧ Keep2 w w' gd gb
section
variable {w : World} {p gd gb q n c m : Nat} {A : Option Addr} {s : Sta} {u v : Nat} {wt i x : Int} {w' : World}
theorem RW_x {d2 : Bool} (h : RW w p gd gb q n c A m s u v wt i x false d2 w') (hu : u < n) (hx : x = s.d (u : Int)) : w'.cell? ⟨gd, u, none⟩ = some (.int .i64 x) := by
  rw [hx]
  exact (blk_cell h.2.2.1 u).trans (vecA_at _ hu)
theorem RW_gd {d1 d2 : Bool} (h : RW w p gd gb q n c A m s u v wt i x d1 d2 w') (hv : v < n) : (∃ y, w'.cell? ⟨gd, v, none⟩ = some y) ∧ w'.frozen? ⟨gd, v, none⟩ = false :=
  ⟨⟨_, (blk_cell h.2.2.1 v).trans (vecA_at _ hv)⟩, blk_frozen h.2.2.1 v⟩
theorem RW_gb {d1 d2 : Bool} (h : RW w p gd gb q n c A m s u v wt i x d1 d2 w') (hv : v < n) : (∃ y, w'.cell? ⟨gb, v, none⟩ = some y) ∧ w'.frozen? ⟨gb, v, none⟩ = false :=
  ⟨⟨_, (blk_cell h.2.2.2.1 v).trans (vecA_at _ hv)⟩, blk_frozen h.2.2.2.1 v⟩
theorem RW_set1 (h : RW w p gd gb q n c A m s u v wt i x false false w') (hv : v < n) (hx : x = s.d (u : Int)) : RW w p gd gb q n c A m s u v wt i x true false (w'.setCell ⟨gd, v, none⟩ (.int .i64 (x + wt))) := by
  obtain ⟨h1, h2, h3, h4, h5⟩ := h
  refine ⟨blk_far h1 (p := ⟨gd, v, none⟩) (blk_ne h1 h3 (by decide)) _, blk_far h2 (p := ⟨gd, v, none⟩) (blk_ne h2 h3 (by decide)) _, ?_, blk_far h4 (p := ⟨gd, v, none⟩) (blk_ne h4 h3 (by decide)) _, h5.trans (Keep2.set1 _ _ _ _ _)⟩
  have := blk_set h3 v (.int .i64 (x + wt))
  rw [if_neg (by decide), vecA_put _ hv, hx] at this
  rw [if_pos rfl, hx]
  exact this
theorem RW_set2 (h : RW w p gd gb q n c A m s u v wt i x true false w') (hv : v < n) : RW w p gd gb q n c A m s u v wt i x true true (w'.setCell ⟨gb, v, none⟩ (.int .i64 i)) := by
  obtain ⟨h1, h2, h3, h4, h5⟩ := h
  refine ⟨blk_far h1 (p := ⟨gb, v, none⟩) (blk_ne h1 h4 (by decide)) _, blk_far h2 (p := ⟨gb, v, none⟩) (blk_ne h2 h4 (by decide)) _, blk_far h3 (p := ⟨gb, v, none⟩) (blk_ne h3 h4 (by decide)) _, ?_, h5.trans (Keep2.set2 _ _ _ _ _)⟩
  have := blk_set h4 v (.int .i64 i)
  rw [if_neg (by decide), vecA_put _ hv] at this
  rw [if_pos rfl]
  exact this
end
theorem diff_round.calls {p gd gb : Nat} {A : Option Addr} {c n : Nat} {l : List S42} {d b : Int → Int} {B : Int} (hc : l.length ≤ c) (hR : RightE l n) (hB : Bd B d) (hBB : B + 2199023255552 * (l.length : Int) < 1152921504606846976) (hB0 : 0 ≤ B)
    (w : World) (hS : StAt w p gd gb A l.length c n d b) (hE : Kd.C k42 w A l.length l) (hA : 0 < l.length → ∀ ad, A = some ad → ad.block ≠ gd ∧ ad.block ≠ gb) :
    Calls Try.prog 29 #[.pointer (some ⟨p, 0, none⟩)] w fun e w' => e = .returned (.int .i64 (rnd l 0 ⟨d, b, -1⟩).last) ∧ StAt w' p gd gb A l.length c n (rnd l 0 ⟨d, b, -1⟩).d (rnd l 0 ⟨d, b, -1⟩).b ∧ Keep2 w w' gd gb := by
  obtain ⟨m, hm⟩ : ∃ m, m = l.length := ⟨_, rfl⟩
  have HM := Aside0.mk hm
  rw [← hm] at hc hBB hS hE hA ⊢
  obtain ⟨fin, hfin⟩ : ∃ s, s = rnd l 0 ⟨d, b, -1⟩ := ⟨_, rfl⟩
  have HF := Aside0.mk hfin
  rw [← hfin]
  have HC := Aside0.mk hc
  have HR := Aside0.mk hR
  have HBd := Aside0.mk hB
  have HBB := Aside0.mk (And.intro hBB hB0)
  have HS := Aside0.mk hS
  have HE := Aside0.mk hE
  have HA := Aside0.mk hA
  have k0 : w.cell? ⟨p, 0, none⟩ = some (.slice A m c) := (blk_cell hS.blkP 0).trans rfl
  clear hm hfin hc hR hB hBB hB0 hS hE hA
  go_enter Try.func29, Try.ntmps29
  go_wp2
  clear k0
  go_loopg [3, 4, 5, 11] m (fun gg v3 v4 v5 v11 wr => ∃ (i : Nat) (s : Sta), v11 = .int .i64 (i : Int) ∧ v3 = .int .i64 s.last ∧ i ≤ m ∧ m - i ≤ gg ∧ Aside0 (rnd (l.drop i) i s = fin) ∧ Aside0 (Bd (B + 2199023255552 * (i : Int)) s.d) ∧ Aside0 (StAt wr p gd gb A m c n s.d s.b) ∧ Aside0 (Keep2 w wr gd gb))
  case atStart => exact ⟨0, ⟨d, b, -1⟩, rfl, rfl, Nat.zero_le _, Nat.le_refl _, ⟨HF.out.symm⟩, ⟨by rw [show B + 2199023255552 * ((0 : Nat) : Int) = B by omega]; exact HBd.out⟩, HS, ⟨Keep2.refl _ _ _⟩⟩
  case round =>
    obtain ⟨i, s, rfl, rfl, hi, hg, HF2, HBd2, HS2, HK⟩ := hrel
    by_cases him : i < m
    · have c1 : decide ((i : Int) < (m : Int)) = true := by simp; omega
      have p1 : (0 : Int) ≤ (i : Int) := by omega
      have p2 : (i : Int) < (m : Int) := by omega
      obtain ⟨e, he⟩ : ∃ e, l[i]? = some e := ⟨l[i]'(by have := HM.out; omega), List.getElem?_eq_getElem _⟩
      obtain ⟨ad, rfl, e0, e1, e2⟩ := edge_cells HE.out HM.out he
      have ha := HA.out (by omega) ad rfl
      have k0 := HK.out.cell e0 (by rw [add_block]; exact ha.1) (by rw [add_block]; exact ha.2)
      have k1 := HK.out.cell e1 (by show (ad.add (i * 3)).block ≠ gd; rw [add_block]; exact ha.1) (by show (ad.add (i * 3)).block ≠ gb; rw [add_block]; exact ha.2)
      have k2 := HK.out.cell e2 (by show (ad.add (i * 3)).block ≠ gd; rw [add_block]; exact ha.1) (by show (ad.add (i * 3)).block ≠ gb; rw [add_block]; exact ha.2)
      clear e0 e1 e2 ha
      have hb0 : wr.cell? ⟨p, 1, none⟩ = some (.slice (some ⟨gd, 0, none⟩) n n) := (blk_cell HS2.out.blkP 1).trans rfl
      have HX := Aside0.mk he
      clear he hb0
      go_wp2_with fail
      clear k0 k1 k2
      have hr := HR.out e (List.mem_of_getElem? HX.out)
      have hrel := relax_cases i e s
      have hstep : rnd (l.drop (i + 1)) (i + 1) (relax i e s) = fin := by
        have h := HF2.out
        rw [List.drop_eq_getElem_cons (by have := HM.out; omega)] at h
        have e2 : l[i]'(by have := HM.out; omega) = e := by have := HX.out; rw [List.getElem?_eq_getElem (by have := HM.out; omega)] at this; exact Option.some.inj this
        rw [e2] at h
        exact h
      have hbd := relax_bd (n := n) (i := i) (s := s) ⟨hr.2.2.2.2.1, hr.2.2.2.2.2⟩ HBd2.out
      rw [show B + 2199023255552 * (i : Int) + 2199023255552 = B + 2199023255552 * ((i + 1 : Nat) : Int) by omega] at hbd
      have HF3 := Aside0.mk hstep
      have HBd3 := Aside0.mk hbd
      clear hstep hbd HF2 HX
      obtain ⟨f0, f1, wt⟩ := e
      obtain ⟨u, rfl⟩ : ∃ u : Nat, f0 = u := ⟨f0.toNat, by have := hr.1; simp only at this; omega⟩
      obtain ⟨v, rfl⟩ : ∃ v : Nat, f1 = v := ⟨f1.toNat, by have := hr.2.2.1; simp only at this; omega⟩
      have hu : u < n := by have := hr.2.1; simp only at this; omega
      have hv : v < n := by have := hr.2.2.2.1; simp only at this; omega
      have hw := hr.2.2.2.2
      simp only at hw hrel
      obtain ⟨W, hW⟩ : ∃ W, W = wr.alloc (.cells #[.int .i64 (u : Int), .int .i64 (v : Int), .int .i64 wt] 42) := ⟨_, rfl⟩
      obtain ⟨q, hq⟩ : ∃ q, q = wr.heap.size := ⟨_, rfl⟩
      have hS4 : StAt W p gd gb (some ad) m c n s.d s.b := by rw [hW]; exact HS2.out.below (below_alloc (Below.refl _ _) _)
      have hQ : W.heap[q]? = some (.cells #[.int .i64 (u : Int), .int .i64 (v : Int), .int .i64 wt] 42 (0, 0)) := by rw [hW, hq]; exact blk_new _ _
      have hK4 : Keep2 w W gd gb := by rw [hW]; exact HK.out.trans (Keep2.of_below (below_alloc (Below.refl _ _) _) _ _)
      have l1 : W.cell? ⟨p, 1, none⟩ = some (.slice (some ⟨gd, 0, none⟩) n n) := (blk_cell hS4.blkP 1).trans rfl
      have l2 : W.cell? ⟨q, 0, none⟩ = some (.int .i64 (u : Int)) := (blk_cell hQ 0).trans rfl
      have l3 : W.cell? ⟨q, 1, none⟩ = some (.int .i64 (v : Int)) := (blk_cell hQ 1).trans rfl
      have l4 : W.cell? ⟨q, 2, none⟩ = some (.int .i64 wt) := (blk_cell hQ 2).trans rfl
      have l5 : W.cell? ⟨gd, u, none⟩ = some (.int .i64 (s.d (u : Int))) := (blk_cell hS4.blkD u).trans (vecA_at _ hu)
      have l6 : W.cell? ⟨gd, v, none⟩ = some (.int .i64 (s.d (v : Int))) := (blk_cell hS4.blkD v).trans (vecA_at _ hv)
      have hx := HBd2.out (u : Int)
      rw [← hW, ← hq]
      have HS4 := Aside0.mk hS4
      have HQ := Aside0.mk hQ
      have HK4 := Aside0.mk hK4
      clear hS4 hQ hK4 hW hq HS2 HK hr
      have u1 : (0 : Int) ≤ (u : Int) := by omega
      have u2 : (u : Int) < (n : Int) := by omega
      have v1 : (0 : Int) ≤ (v : Int) := by omega
      have v2 : (v : Int) < (n : Int) := by omega
      have w1 : wrap64 ((i : Int) + 1) = (i : Int) + 1 := by unfold wrap64; have := HBB.out; omega
      rcases hrel with ⟨hrl, hcase⟩ | ⟨hrl, hne, hlt⟩
      · by_cases hfar : s.d (u : Int) = 1152921504606846976
        · have c2 : (s.d (u : Int) == 1152921504606846976) = true := by simp [hfar]
          clear hcase
          rw [hrl] at HF3 HBd3
          go_quiet (fail)
          go_wp2
          go_roundg (m - (i + 1))
          case measure => omega
          case rel => exact ⟨i + 1, s, by first | rfl | go_num, rfl, by omega, Nat.le_refl _, HF3, HBd3, ⟨⟨HS4.out.blkP, HS4.out.blkD, HS4.out.blkB⟩⟩, ⟨HK4.out.trans (Keep2.of_below (pw_below_drewN (Below.refl _ _) _) _ _)⟩⟩
        · have hle := hcase.resolve_left hfar
          have c2 : (s.d (u : Int) == 1152921504606846976) = false := by simpa using hfar
          have hx2 := hx.resolve_left hfar
          have w2 : wrap64 (s.d (u : Int) + wt) = s.d (u : Int) + wt := by unfold wrap64; have := HBB.out; omega
          have c3 : decide (s.d (u : Int) + wt ≥ s.d (v : Int)) = true := decide_eq_true hle
          have c4 : decide (s.d (v : Int) ≤ s.d (u : Int) + wt) = true := decide_eq_true hle
          rw [hrl] at HF3 HBd3
          clear hcase hfar hle hx hx2
          go_quiet (fail)
          go_wp2
          go_roundg (m - (i + 1))
          case measure => omega
          case rel => exact ⟨i + 1, s, by first | rfl | go_num, rfl, by omega, Nat.le_refl _, HF3, HBd3, ⟨⟨HS4.out.blkP, HS4.out.blkD, HS4.out.blkB⟩⟩, ⟨HK4.out.trans (Keep2.of_below (pw_below_drewN (Below.refl _ _) _) _ _)⟩⟩
      · have c2 : (s.d (u : Int) == 1152921504606846976) = false := by simpa using hne
        have hx2 := hx.resolve_left hne
        have w2 : wrap64 (s.d (u : Int) + wt) = s.d (u : Int) + wt := by unfold wrap64; have := HBB.out; omega
        have c3 : decide (s.d (u : Int) + wt ≥ s.d (v : Int)) = false := by simp; omega
        have c4 : decide (s.d (v : Int) ≤ s.d (u : Int) + wt) = false := by simp; omega
        rw [hrl] at HF3 HBd3
        simp only at HF3 HBd3
        obtain ⟨x, hx0⟩ : ∃ x, x = s.d (u : Int) := ⟨_, rfl⟩
        obtain ⟨y, hy0⟩ : ∃ y, y = s.d (v : Int) := ⟨_, rfl⟩
        have HX0 := Aside0.mk hx0
        have HY0 := Aside0.mk hy0
        rw [← hx0] at l5 w2 c2 c3 c4
        rw [← hy0] at l6 c3 c4
        clear hne hlt hx hx2 hx0 hy0
        go_quiet (fail)
        obtain ⟨W2, hW2⟩ : ∃ W2, W2 = W.drewN nq := ⟨_, rfl⟩
        have hS6 : StAt W2 p gd gb (some ad) m c n s.d s.b := by rw [hW2]; exact ⟨HS4.out.blkP, HS4.out.blkD, HS4.out.blkB⟩
        have hQ6 : W2.heap[q]? = some (.cells #[.int .i64 (u : Int), .int .i64 (v : Int), .int .i64 wt] 42 (0, 0)) := by rw [hW2]; exact HQ.out
        have hK6 : Keep2 w W2 gd gb := by rw [hW2]; exact HK4.out.trans (Keep2.of_below (pw_below_drewN (Below.refl _ _) _) _ _)
        rw [← hW2]
        have RW_start : RW w p gd gb q n c (some ad) m s u v wt (i : Int) x false false { W2 with drawn := W2.drawn + 1 } :=
          ⟨hS6.blkP, hQ6, hS6.blkD, hS6.blkB, hK6.trans (Keep2.of_below (below_drew (Below.refl _ _)) _ _)⟩
        clear l1 l2 l3 l4 l5 l6 HS4 HQ HK4 hW2 hS6 hQ6 hK6
        go_wp2_with fail
        refine wp_region_told (phiO [some (.pointer (some ⟨p, 0, none⟩)), some (.pointer (some ⟨p, 0, none⟩)), some (.pointer (some ⟨p, 1, none⟩)), some (.slice (some ⟨gd, 0, none⟩) n n), some (.pointer (some ⟨q, 1, none⟩)), some (.int .i64 (v : Int)), some (.pointer (some ⟨p, 0, none⟩)), some (.pointer (some ⟨p, 0, none⟩)), some (.pointer (some ⟨p, 2, none⟩)), some (.slice (some ⟨gb, 0, none⟩) n n), some (.pointer (some ⟨q, 1, none⟩)), some (.int .i64 (v : Int)), some (.pointer (some ⟨p, 0, none⟩)), some (.pointer (some ⟨p, 0, none⟩)), some (.pointer (some ⟨p, 1, none⟩)), some (.slice (some ⟨gd, 0, none⟩) n n), some (.pointer (some ⟨q, 0, none⟩)), some (.int .i64 (u : Int)), some (.pointer (some ⟨gd, u, none⟩)), some (.int .i64 x), some (.pointer (some ⟨q, 2, none⟩)), some (.int .i64 wt), some (.int .i64 (x + wt)), some (.int .i64 (i : Int)), some (.pointer (some ⟨gd, v, none⟩)), none, some (.pointer (some ⟨gb, v, none⟩)), none]) (fun E _ w' => RW w p gd gb q n c (some ad) m s u v wt (i : Int) x (E 25) (E 27) w') rfl (by kernel_rfl) ?hW6 ?howes6 ?hend6
        case hW6 => exact RW_start
        case howes6 =>
          refine ⟨?_, ?_, ?_, ?_, ?_, ?_, ?_, ?_, ?_, ?_, ?_, ?_, ?_, ?_, ?_, ?_, ?_, ?_, ?_, ?_, ?_, ?_, ?_, ?_, ?_, ?_, ?_, ?_, trivial⟩
          · refine owes_val rfl (fun E vs v w _ h => h) (fun E vs a W_ hI hE hp => ?_)
            have e0 := hI.outer (d := 0) (by rfl) rfl
            refine ⟨_, ?_, rfl⟩
            simp only [execOp, e0]
            first | rfl | (go_simp; done) | (go_simp; rw [IntKind.wrap_i64]; unfold wrap64 at w2; exact w2)
          · refine owes_val rfl (fun E vs v w _ h => h) (fun E vs a W_ hI hE hp => ?_)
            have e0 : a.eval (.tmp 47) = (.pointer (some ⟨p, 0, none⟩)) := hI.phi 0 rfl rfl (pred_of hp 0 rfl) rfl
            refine ⟨_, ?_, rfl⟩
            simp only [execOp, e0]
            first | rfl | (go_simp; done) | (go_simp; rw [IntKind.wrap_i64]; unfold wrap64 at w2; exact w2)
          · refine owes_val rfl (fun E vs v w _ h => h) (fun E vs a W_ hI hE hp => ?_)
            have e0 : a.eval (.tmp 48) = (.pointer (some ⟨p, 0, none⟩)) := hI.phi 1 rfl rfl (pred_of hp 1 rfl) rfl
            refine ⟨_, ?_, rfl⟩
            simp only [execOp, e0]
            first | rfl | (go_simp; done) | (go_simp; rw [IntKind.wrap_i64]; unfold wrap64 at w2; exact w2)
          · refine owes_val rfl (fun E vs v w _ h => h) (fun E vs a W_ hI hE hp => ?_)
            have e0 : a.eval (.tmp 49) = (.pointer (some ⟨p, 1, none⟩)) := hI.phi 2 rfl rfl (pred_of hp 2 rfl) rfl
            have hw : RW w p gd gb q n c (some ad) m s u v wt (i : Int) x (E 25) (E 27) W_ := hI.world.2
            have f1 : W_.cell? ⟨p, 1, none⟩ = some (.slice (some ⟨gd, 0, none⟩) n n) := (blk_cell hw.1 1).trans rfl
            refine ⟨_, ?_, rfl⟩
            simp only [execOp, e0]
            go_simp
          · refine owes_val rfl (fun E vs v w _ h => h) (fun E vs a W_ hI hE hp => ?_)
            have e0 := hI.outer (d := 5) (by rfl) rfl
            refine ⟨_, ?_, rfl⟩
            simp only [execOp, e0]
            first | rfl | (go_simp; done) | (go_simp; rw [IntKind.wrap_i64]; unfold wrap64 at w2; exact w2)
          · refine owes_val rfl (fun E vs v w _ h => h) (fun E vs a W_ hI hE hp => ?_)
            have e0 : a.eval (.tmp 51) = (.pointer (some ⟨q, 1, none⟩)) := hI.phi 4 rfl rfl (pred_of hp 4 rfl) rfl
            have hw : RW w p gd gb q n c (some ad) m s u v wt (i : Int) x (E 25) (E 27) W_ := hI.world.2
            have f1 : W_.cell? ⟨q, 1, none⟩ = some (.int .i64 (v : Int)) := (blk_cell hw.2.1 1).trans rfl
            refine ⟨_, ?_, rfl⟩
            simp only [execOp, e0]
            go_simp
          · refine owes_val rfl (fun E vs v w _ h => h) (fun E vs a W_ hI hE hp => ?_)
            have e0 := hI.outer (d := 0) (by rfl) rfl
            refine ⟨_, ?_, rfl⟩
            simp only [execOp, e0]
            first | rfl | (go_simp; done) | (go_simp; rw [IntKind.wrap_i64]; unfold wrap64 at w2; exact w2)
          · refine owes_val rfl (fun E vs v w _ h => h) (fun E vs a W_ hI hE hp => ?_)
            have e0 : a.eval (.tmp 53) = (.pointer (some ⟨p, 0, none⟩)) := hI.phi 6 rfl rfl (pred_of hp 6 rfl) rfl
            refine ⟨_, ?_, rfl⟩
            simp only [execOp, e0]
            first | rfl | (go_simp; done) | (go_simp; rw [IntKind.wrap_i64]; unfold wrap64 at w2; exact w2)
          · refine owes_val rfl (fun E vs v w _ h => h) (fun E vs a W_ hI hE hp => ?_)
            have e0 : a.eval (.tmp 54) = (.pointer (some ⟨p, 0, none⟩)) := hI.phi 7 rfl rfl (pred_of hp 7 rfl) rfl
            refine ⟨_, ?_, rfl⟩
            simp only [execOp, e0]
            first | rfl | (go_simp; done) | (go_simp; rw [IntKind.wrap_i64]; unfold wrap64 at w2; exact w2)
          · refine owes_val rfl (fun E vs v w _ h => h) (fun E vs a W_ hI hE hp => ?_)
            have e0 : a.eval (.tmp 55) = (.pointer (some ⟨p, 2, none⟩)) := hI.phi 8 rfl rfl (pred_of hp 8 rfl) rfl
            have hw : RW w p gd gb q n c (some ad) m s u v wt (i : Int) x (E 25) (E 27) W_ := hI.world.2
            have f1 : W_.cell? ⟨p, 2, none⟩ = some (.slice (some ⟨gb, 0, none⟩) n n) := (blk_cell hw.1 2).trans rfl
            refine ⟨_, ?_, rfl⟩
            simp only [execOp, e0]
            go_simp
          · refine owes_val rfl (fun E vs v w _ h => h) (fun E vs a W_ hI hE hp => ?_)
            have e0 := hI.outer (d := 5) (by rfl) rfl
            refine ⟨_, ?_, rfl⟩
            simp only [execOp, e0]
            first | rfl | (go_simp; done) | (go_simp; rw [IntKind.wrap_i64]; unfold wrap64 at w2; exact w2)
          · refine owes_val rfl (fun E vs v w _ h => h) (fun E vs a W_ hI hE hp => ?_)
            have e0 : a.eval (.tmp 57) = (.pointer (some ⟨q, 1, none⟩)) := hI.phi 10 rfl rfl (pred_of hp 10 rfl) rfl
            have hw : RW w p gd gb q n c (some ad) m s u v wt (i : Int) x (E 25) (E 27) W_ := hI.world.2
            have f1 : W_.cell? ⟨q, 1, none⟩ = some (.int .i64 (v : Int)) := (blk_cell hw.2.1 1).trans rfl
            refine ⟨_, ?_, rfl⟩
            simp only [execOp, e0]
            go_simp
          · refine owes_val rfl (fun E vs v w _ h => h) (fun E vs a W_ hI hE hp => ?_)
            have e0 := hI.outer (d := 0) (by rfl) rfl
            refine ⟨_, ?_, rfl⟩
            simp only [execOp, e0]
            first | rfl | (go_simp; done) | (go_simp; rw [IntKind.wrap_i64]; unfold wrap64 at w2; exact w2)
          · refine owes_val rfl (fun E vs v w _ h => h) (fun E vs a W_ hI hE hp => ?_)
            have e0 : a.eval (.tmp 59) = (.pointer (some ⟨p, 0, none⟩)) := hI.phi 12 rfl rfl (pred_of hp 12 rfl) rfl
            refine ⟨_, ?_, rfl⟩
            simp only [execOp, e0]
            first | rfl | (go_simp; done) | (go_simp; rw [IntKind.wrap_i64]; unfold wrap64 at w2; exact w2)
          · refine owes_val rfl (fun E vs v w _ h => h) (fun E vs a W_ hI hE hp => ?_)
            have e0 : a.eval (.tmp 60) = (.pointer (some ⟨p, 0, none⟩)) := hI.phi 13 rfl rfl (pred_of hp 13 rfl) rfl
            refine ⟨_, ?_, rfl⟩
            simp only [execOp, e0]
            first | rfl | (go_simp; done) | (go_simp; rw [IntKind.wrap_i64]; unfold wrap64 at w2; exact w2)
          · refine owes_val rfl (fun E vs v w _ h => h) (fun E vs a W_ hI hE hp => ?_)
            have e0 : a.eval (.tmp 61) = (.pointer (some ⟨p, 1, none⟩)) := hI.phi 14 rfl rfl (pred_of hp 14 rfl) rfl
            have hw : RW w p gd gb q n c (some ad) m s u v wt (i : Int) x (E 25) (E 27) W_ := hI.world.2
            have f1 : W_.cell? ⟨p, 1, none⟩ = some (.slice (some ⟨gd, 0, none⟩) n n) := (blk_cell hw.1 1).trans rfl
            refine ⟨_, ?_, rfl⟩
            simp only [execOp, e0]
            go_simp
          · refine owes_val rfl (fun E vs v w _ h => h) (fun E vs a W_ hI hE hp => ?_)
            have e0 := hI.outer (d := 5) (by rfl) rfl
            refine ⟨_, ?_, rfl⟩
            simp only [execOp, e0]
            first | rfl | (go_simp; done) | (go_simp; rw [IntKind.wrap_i64]; unfold wrap64 at w2; exact w2)
          · refine owes_val rfl (fun E vs v w _ h => h) (fun E vs a W_ hI hE hp => ?_)
            have e0 : a.eval (.tmp 63) = (.pointer (some ⟨q, 0, none⟩)) := hI.phi 16 rfl rfl (pred_of hp 16 rfl) rfl
            have hw : RW w p gd gb q n c (some ad) m s u v wt (i : Int) x (E 25) (E 27) W_ := hI.world.2
            have f1 : W_.cell? ⟨q, 0, none⟩ = some (.int .i64 (u : Int)) := (blk_cell hw.2.1 0).trans rfl
            refine ⟨_, ?_, rfl⟩
            simp only [execOp, e0]
            go_simp
          · refine owes_val rfl (fun E vs v w _ h => h) (fun E vs a W_ hI hE hp => ?_)
            have e0 : a.eval (.tmp 62) = (.slice (some ⟨gd, 0, none⟩) n n) := hI.phi 15 rfl rfl (pred_of hp 15 rfl) rfl
            have e1 : a.eval (.tmp 64) = (.int .i64 (u : Int)) := hI.phi 17 rfl rfl (pred_of hp 17 rfl) rfl
            refine ⟨_, ?_, rfl⟩
            simp only [execOp, e0, e1]
            first | rfl | (go_simp; done) | (go_simp; rw [IntKind.wrap_i64]; unfold wrap64 at w2; exact w2)
          · refine owes_val rfl (fun E vs v w _ h => h) (fun E vs a W_ hI hE hp => ?_)
            have e0 : a.eval (.tmp 65) = (.pointer (some ⟨gd, u, none⟩)) := hI.phi 18 rfl rfl (pred_of hp 18 rfl) rfl
            have hw : RW w p gd gb q n c (some ad) m s u v wt (i : Int) x (E 25) (E 27) W_ := hI.world.2
            have n25 := hI.notYet hE 25 rfl rfl
            rw [n25] at hw
            have f1 := RW_x hw hu HX0.out
            refine ⟨_, ?_, rfl⟩
            simp only [execOp, e0]
            go_simp
          · refine owes_val rfl (fun E vs v w _ h => h) (fun E vs a W_ hI hE hp => ?_)
            have e0 := hI.outer (d := 5) (by rfl) rfl
            refine ⟨_, ?_, rfl⟩
            simp only [execOp, e0]
            first | rfl | (go_simp; done) | (go_simp; rw [IntKind.wrap_i64]; unfold wrap64 at w2; exact w2)
          · refine owes_val rfl (fun E vs v w _ h => h) (fun E vs a W_ hI hE hp => ?_)
            have e0 : a.eval (.tmp 67) = (.pointer (some ⟨q, 2, none⟩)) := hI.phi 20 rfl rfl (pred_of hp 20 rfl) rfl
            have hw : RW w p gd gb q n c (some ad) m s u v wt (i : Int) x (E 25) (E 27) W_ := hI.world.2
            have f1 : W_.cell? ⟨q, 2, none⟩ = some (.int .i64 wt) := (blk_cell hw.2.1 2).trans rfl
            refine ⟨_, ?_, rfl⟩
            simp only [execOp, e0]
            go_simp
          · refine owes_val rfl (fun E vs v w _ h => h) (fun E vs a W_ hI hE hp => ?_)
            have e0 : a.eval (.tmp 66) = (.int .i64 x) := hI.phi 19 rfl rfl (pred_of hp 19 rfl) rfl
            have e1 : a.eval (.tmp 68) = (.int .i64 wt) := hI.phi 21 rfl rfl (pred_of hp 21 rfl) rfl
            refine ⟨_, ?_, rfl⟩
            simp only [execOp, e0, e1]
            first | rfl | (go_simp; done) | (go_simp; rw [IntKind.wrap_i64]; unfold wrap64 at w2; exact w2)
          · refine owes_val rfl (fun E vs v w _ h => h) (fun E vs a W_ hI hE hp => ?_)
            have e0 := hI.outer (d := 4) (by rfl) rfl
            refine ⟨_, ?_, rfl⟩
            simp only [execOp, e0]
            first | rfl | (go_simp; done) | (go_simp; rw [IntKind.wrap_i64]; unfold wrap64 at w2; exact w2)
          · refine owes_val rfl (fun E vs v w _ h => h) (fun E vs a W_ hI hE hp => ?_)
            have e0 : a.eval (.tmp 50) = (.slice (some ⟨gd, 0, none⟩) n n) := hI.phi 3 rfl rfl (pred_of hp 3 rfl) rfl
            have e1 : a.eval (.tmp 52) = (.int .i64 (v : Int)) := hI.phi 5 rfl rfl (pred_of hp 5 rfl) rfl
            refine ⟨_, ?_, rfl⟩
            simp only [execOp, e0, e1]
            first | rfl | (go_simp; done) | (go_simp; rw [IntKind.wrap_i64]; unfold wrap64 at w2; exact w2)
          · refine owes_world rfl (fun E vs a W_ hI hE hp => ?_)
            have e0 : a.eval (.tmp 71) = (.pointer (some ⟨gd, v, none⟩)) := hI.phi 24 rfl rfl (pred_of hp 24 rfl) rfl
            have e1 : a.eval (.tmp 69) = (.int .i64 (x + wt)) := hI.phi 22 rfl rfl (pred_of hp 22 rfl) rfl
            have hw : RW w p gd gb q n c (some ad) m s u v wt (i : Int) x (E 25) (E 27) W_ := hI.world.2
            have n27 := hI.notYet hE 27 rfl rfl
            rw [hE, n27] at hw
            have f1 := RW_gd hw hv
            refine ⟨undef, W_.setCell ⟨gd, v, none⟩ (.int .i64 (x + wt)), .inr ⟨rfl, ?_⟩, trivial, fun j v' _ hj => phiO_stable _ j v' _ hj, ?_⟩
            · obtain ⟨⟨y, f1⟩, f2⟩ := f1
              simp only [execOp, e0, e1]
              go_simp
            · show RW w p gd gb q n c (some ad) m s u v wt (i : Int) x true (E 27) _
              rw [n27]
              exact RW_set1 hw hv HX0.out
          · refine owes_val rfl (fun E vs v w _ h => h) (fun E vs a W_ hI hE hp => ?_)
            have e0 : a.eval (.tmp 56) = (.slice (some ⟨gb, 0, none⟩) n n) := hI.phi 9 rfl rfl (pred_of hp 9 rfl) rfl
            have e1 : a.eval (.tmp 58) = (.int .i64 (v : Int)) := hI.phi 11 rfl rfl (pred_of hp 11 rfl) rfl
            refine ⟨_, ?_, rfl⟩
            simp only [execOp, e0, e1]
            first | rfl | (go_simp; done) | (go_simp; rw [IntKind.wrap_i64]; unfold wrap64 at w2; exact w2)
          · refine owes_world rfl (fun E vs a W_ hI hE hp => ?_)
            have e0 : a.eval (.tmp 72) = (.pointer (some ⟨gb, v, none⟩)) := hI.phi 26 rfl rfl (pred_of hp 26 rfl) rfl
            have e1 : a.eval (.tmp 70) = (.int .i64 (i : Int)) := hI.phi 23 rfl rfl (pred_of hp 23 rfl) rfl
            have hw : RW w p gd gb q n c (some ad) m s u v wt (i : Int) x (E 25) (E 27) W_ := hI.world.2
            have y25 : E 25 = true := pred_of hp 25 rfl
            rw [hE, y25] at hw
            have f1 := RW_gb hw hv
            refine ⟨undef, W_.setCell ⟨gb, v, none⟩ (.int .i64 (i : Int)), .inr ⟨rfl, ?_⟩, trivial, fun j v' _ hj => phiO_stable _ j v' _ hj, ?_⟩
            · obtain ⟨⟨y, f1⟩, f2⟩ := f1
              simp only [execOp, e0, e1]
              go_simp
            · show RW w p gd gb q n c (some ad) m s u v wt (i : Int) x (E 25) true _
              rw [y25]
              exact RW_set2 hw hv
        case hend6 =>
          intro E vs a W3 hI hall
          obtain rfl := hI.frame (by kernel_rfl) hall
          have hw : RW w p gd gb q n c (some ad) m s u v wt (i : Int) x (E 25) (E 27) W3 := hI.world.2
          have y25 := hall 25 (by decide)
          have y27 := hall 27 (by decide)
          rw [y25, y27] at hw
          obtain ⟨h1, h2, h3, h4, h5⟩ := hw
          rw [if_pos rfl] at h3 h4
          have q1 : W3.cell? ⟨q, 1, none⟩ = some (.int .i64 (v : Int)) := (blk_cell h2 1).trans rfl
          have HS5 := Aside0.mk (show StAt W3 p gd gb (some ad) m c n (put s.d (v : Int) (s.d (u : Int) + wt)) (put s.b (v : Int) (i : Int)) from ⟨h1, h3, h4⟩)
          have HK5 := Aside0.mk h5
          clear hI hall h1 h2 h3 h4 h5 y25 y27
          simp only [putsFrom, List.setIfInBounds_toArray, List.set_cons_zero, List.set_cons_succ]
          go_wp2
          go_roundg (m - (i + 1))
          case measure => omega
          case rel => exact ⟨i + 1, ⟨_, _, (v : Int)⟩, by first | rfl | go_num, rfl, by omega, Nat.le_refl _, HF3, HBd3, HS5, HK5⟩
    · have c1 : decide ((i : Int) < (m : Int)) = false := by simp; omega
      have him' : i = m := by omega
      subst him'
      have hf := HF2.out
      rw [List.drop_eq_nil_of_le (by have := HM.out; omega)] at hf
      have hf2 : s = fin := hf
      subst hf2
      go_wp2
      go_ret
      exact ⟨rfl, HS2.out, HK.out⟩
end Go.Proofs.Ytenjncmljmgcdaa.P
