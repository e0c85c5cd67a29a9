/- The writer of a sheet: a builder within a greater block. The reader's next line. The reader's loads. -/
import Derived.Test.YtcdmndhaeiccoaaGreatDoorMkit
import Derived.Test.YtcdmndhaeiccoaaGreatDoorM00
import Derived.Test.YtcdmndhaeiccoaaGreatDoorM06
import Derived.Deep.RegionHeld3
import Derived.Deep.RegionHeld2
namespace Go.Proofs.YtcdmndhaeiccoaaGreatDoor.P
open Go Go.Proofs.YtcdmndhaeiccoaaGreatDoorR
open Go.RowKit Go.Proofs.YtcdmndhaeiccoaaGreatDoorW.PrintWords Go.Proofs.YtcdmndhaeiccoaaGreatDoorW.PrintLast
set_option linter.unusedVariables false
set_option linter.unusedSimpArgs false
set_option maxHeartbeats 8000000
set_option maxRecDepth 100000
/-- The writer's block: the builder's own address or none, its buffer, the scale; it holds the bytes l. -/
structure WrAt (w : World) (B b : Nat) (l : List UInt8) (s : Int) : Prop where
  blk : ∃ p v, w.heap[b]? = some (.cells #[p, v, .int .i64 s] 70 (0, 0)) ∧ (p = .pointer none ∨ p = .pointer (some ⟨b, 0, none⟩)) ∧ w.ownsRow B 5 1 v l.length (Lib.byteCells l)
  le : B ≤ b
/-- What is neither a writer nor bytes stays as it is. -/
def KeepT (w w' : World) : Prop := ∀ (k : Nat) (cs : Array Value) (t : Nat) (fr : Nat × Nat), t ≠ 70 → t ≠ 5 → w.heap[k]? = some (.cells cs t fr) → w'.heap[k]? = some (.cells cs t fr)
theorem KeepT.trans {w w1 w2 : World} (h : KeepT w w1) (h2 : KeepT w1 w2) : KeepT w w2 := fun k cs t fr h70 h5 hk => h2 k cs t fr h70 h5 (h k cs t fr h70 h5 hk)
theorem keepT_refl (w : World) : KeepT w w := fun k cs t fr _ _ h => h
theorem keepT_below {w w' : World} (hb : Below w.heap.size w w') : KeepT w w' := fun k cs t fr _ _ h => (hb.block k (Array.getElem?_eq_some_iff.1 h).1).trans h
theorem keepT_set {w : World} {b : Nat} {c : Array Value} {fr0 : Nat × Nat} (hb : w.heap[b]? = some (.cells c 70 fr0)) (j : Nat) (u : Value) : KeepT w (w.setCell ⟨b, j, none⟩ u) := fun k cs t fr h70 _ h =>
  (Below.heap_setCell w ⟨b, j, none⟩ u k (fun (e : k = b) => by subst e; rw [hb] at h; exact h70 (by cases h; rfl))).trans h
theorem keepT_grown {w w1 : World} {row : Option Nat} (hg : w.grownBy w1 row) (hr : ∀ k, row = some k → ∃ cells fr, w.heap[k]? = some (.cells cells 5 fr)) : KeepT w w1 := fun k cs t fr _ h5 h =>
  (hg.block k (Array.getElem?_eq_some_iff.1 h).1 (fun hx => by
    obtain ⟨cells, fr', h1⟩ := hr k hx.symm
    rw [h] at h1
    exact h5 (by cases h1; rfl))).trans h
theorem lies70 : liesAt Tryz.prog Tryz.prog.depth 70 (3 / Tryz.prog.cellsOf 70) 0 68 1 = true := by kernel_rfl
theorem wr_fresh (b : Nat) (w : World) (h0 : w.cell? ⟨b, 0, none⟩ = some (.pointer none)) (hsh : w.shape? b = some (70, 3)) (hfz : w.frozen? ⟨b, 0, none⟩ = false) :
    Calls Tryz.prog 81 #[.pointer (some ⟨b, 0, none⟩)] w fun e w' => e = .returned (.tuple #[]) ∧ w' = w.setCell ⟨b, 0, none⟩ (.pointer (some ⟨b, 0, none⟩)) := by
  obtain ⟨j, hj, hjs⟩ := Option.map_eq_some_iff.1 Tryz.Builder_Extra_156.sizeBuilder
  have hj2 : Tryz.prog.info? 68 = some j := hj
  clear hj
  go_enter Tryz.func81, Tryz.ntmps81
  go_wp2
  rw [Lib.run_to_unsafe w ⟨b, 0, none⟩ Tryz.underlying65 Tryz.underlying153 hj2 (by rw [hjs]; decide) hsh (Nat.zero_lt_succ 2)]
  simp only [Result.andThen]
  rw [Oper.upon_value]
  go_wp2
  rw [run_callFunc_extern Tryz.func107 (by kernel_rfl) (by kernel_rfl) (by kernel_rfl) (e := Extern.AbiNoEscape.same) (by kernel_rfl)]
  rw [Lib.run_noEscape]
  simp only [Result.andThen]
  rw [Oper.upon_value]
  go_wp2
  rw [Lib.run_from_unsafe w ⟨b, 0, none⟩ Tryz.underlying153 Tryz.underlying65 hj2 hsh lies70]
  simp only [Result.andThen]
  rw [Oper.upon_value]
  go_wp2
  go_end0
  exact ⟨rfl, rfl⟩
theorem wr_used (b : Nat) (w : World) (h0 : w.cell? ⟨b, 0, none⟩ = some (.pointer (some ⟨b, 0, none⟩))) :
    Calls Tryz.prog 81 #[.pointer (some ⟨b, 0, none⟩)] w fun e w' => e = .returned (.tuple #[]) ∧ w' = w := by
  obtain ⟨j, hj, hjs⟩ := Option.map_eq_some_iff.1 Tryz.Builder_Extra_156.sizeBuilder
  have hj2 : Tryz.prog.info? 68 = some j := hj
  clear hj
  go_enter Tryz.func81, Tryz.ntmps81
  go_wp2
  rw [Lib.run_neq_ptr_same w _ Tryz.underlying65 hj2]
  go_wp2
  go_end0
  exact ⟨rfl, rfl⟩
theorem own_set {w : World} {B b n t : Nat} {cs : Array Value} {v : Value} {xs : List Value} (hown : w.ownsRow B 5 1 v n xs) (hb : w.heap[b]? = some (.cells cs t (0, 0))) (ht : t ≠ 5) (j : Nat) (u : Value) : (w.setCell ⟨b, j, none⟩ u).ownsRow B 5 1 v n xs :=
  hown.kept (row := some b) ⟨rfl, rfl, rfl, by simp [World.setCell], fun k _ hk => Below.heap_setCell _ _ _ _ (fun e => hk (by simp [e]))⟩ (Or.inr (Lib.ownBlock_ne hown hb ht))
theorem wr_check (B b : Nat) (l : List UInt8) (s : Int) (w : World) (h : WrAt w B b l s) :
    Calls Tryz.prog 81 #[.pointer (some ⟨b, 0, none⟩)] w fun e w' => e = .returned (.tuple #[]) ∧ (∃ v, w'.heap[b]? = some (.cells #[.pointer (some ⟨b, 0, none⟩), v, .int .i64 s] 70 (0, 0)) ∧ w'.ownsRow B 5 1 v l.length (Lib.byteCells l)) ∧ Below B w w' ∧ KeepT w w' := by
  obtain ⟨⟨p, v, hb, hp, hown⟩, hle⟩ := h
  rcases hp with rfl | rfl
  · refine (wr_fresh b w ((blk_cell hb 0).trans rfl) (by simp [World.shape?, hb]) (blk_frozen hb 0)).mono ?_
    rintro e w' ⟨rfl, rfl⟩
    exact ⟨rfl, ⟨v, blk_set hb 0 _, own_set hown hb (by decide) 0 _⟩, (Below.refl B w).setCell hle _, keepT_set hb 0 _⟩
  · refine (wr_used b w ((blk_cell hb 0).trans rfl)).mono ?_
    rintro e w' ⟨rfl, rfl⟩
    exact ⟨rfl, ⟨v, hb, hown⟩, Below.refl B _, keepT_refl _⟩
theorem info5 : (Tryz.prog.info? 5).map (fun i => (i.zero, i.size, i.bytes)) = some (some (.int .u8 0), 1, 1) := by kernel_rfl
theorem wr_WriteString (B b : Nat) (l : List UInt8) (s : ByteArray) (sc : Int) (w : World) (h : WrAt w B b l sc) (hlen : l.length + s.size ≤ 140737488355328) (hBw : B ≤ w.heap.size) :
    Calls Tryz.prog 49 #[.pointer (some ⟨b, 0, none⟩), .string s] w fun e w' => e = .returned (.tuple #[.int .i64 s.size, .nilIface]) ∧ WrAt w' B b (l ++ s.data.toList) sc ∧ Below B w w' ∧ KeepT w w' := by
  obtain ⟨i0, hi, hz0, hz1, hz2⟩ := info_parts info5
  have hle := h.le
  have C1 := Aside0.mk (wr_check B b l sc w h)
  clear h
  go_enter Tryz.func49, Tryz.ntmps49
  go_wp2_with (go_at_call 81; refine C1.out.mono ?_)
  rintro e w1 ⟨rfl, ⟨v, hbk, hown⟩, hb1, hk1⟩
  have c0 : w1.cell? ⟨b, 0, none⟩ = some (.pointer (some ⟨b, 0, none⟩)) := (blk_cell hbk 0).trans rfl
  have c1 : w1.cell? ⟨b, 1, none⟩ = some v := (blk_cell hbk 1).trans rfl
  go_wp2_with (at_builtin; refine Lib.wpList_append_own_string _ rfl _ _ 66 9 rfl B 5 i0 Tryz.underlying66 Tryz.underlying9 hi hz0 hz1 hz2 _ _ _ rfl hown s rfl ?c3 ?c4 ?c5 ?_)
  case c3 => unfold maxLen; omega
  case c4 => omega
  case c5 => have := hb1.size; omega
  intro v' w2 hown' hgrow _
  have hne := Lib.ownBlock_ne hown hbk (by decide)
  have hb2 : w2.heap[b]? = some (.cells #[.pointer (some ⟨b, 0, none⟩), v, .int .i64 sc] 70 (0, 0)) := by
    rw [hgrow.block b (Array.getElem?_eq_some_iff.1 hbk).1 (fun e => hne e.symm)]
    exact hbk
  have d0 : w2.cell? ⟨b, 0, none⟩ = some (.pointer (some ⟨b, 0, none⟩)) := (blk_cell hb2 0).trans rfl
  have d1 : w2.cell? ⟨b, 1, none⟩ = some v := (blk_cell hb2 1).trans rfl
  have f1 : w2.frozen? ⟨b, 1, none⟩ = false := blk_frozen hb2 1
  obtain ⟨ao, n', cap, rfl⟩ : ∃ ao n' cap, v' = .slice ao n' cap := by
    rcases hown'.2 with ⟨hv, _⟩ | ⟨g, cap, cur, hv, _⟩
    · exact ⟨_, _, _, hv⟩
    · exact ⟨_, _, _, hv⟩
  go_wp2
  go_ret2
  have hcat : Lib.byteCells (l ++ s.data.toList) = Lib.byteCells l ++ Lib.strCells s := by simp [Lib.byteCells, Lib.strCells]
  have hln : (l ++ s.data.toList).length = l.length + s.size := by rw [List.length_append, Lib.size_eq]
  refine ⟨rfl, ⟨⟨_, _, blk_set hb2 1 _, .inr rfl, ?_⟩, hle⟩, ?_, hk1.trans ((keepT_grown hgrow (fun k hk => by obtain ⟨cells, hc⟩ := own_typed hown k hk; exact ⟨cells, _, hc⟩)).trans (keepT_set hb2 1 _))⟩
  · rw [hcat, hln]
    exact own_set hown' hb2 (by decide) 1 _
  · exact (hb1.grown hgrow (by have := hb1.size; omega) (fun k hk => (hown.lt k hk).1)).setCell (p := ⟨b, 1, none⟩) hle _
theorem wr_String (B b : Nat) (l : List UInt8) (s : Int) (w : World) (h : WrAt w B b l s) (h0 : l ≠ []) :
    Calls Tryz.prog 23 #[.pointer (some ⟨b, 0, none⟩)] w fun e w' => e = .returned (.string ⟨l.toArray⟩) ∧ Below B w w' := by
  obtain ⟨⟨p, v, hbk, hp, hown⟩, hle⟩ := h
  have hl0 : l.length ≠ 0 := by simpa using h0
  obtain ⟨g, cap, cur, rfl, hbg, hg, hnc, hcm, hcs, htake⟩ : ∃ g cap cur, v = .slice (some ⟨g, 0, none⟩) l.length cap ∧ B ≤ g ∧ w.heap[g]? = some (.cells cur 5 (0, 0)) ∧ l.length ≤ cap ∧ cap ≤ maxLen ∧ cur.size = cap * 1 ∧ cur.toList.take (l.length * 1) = Lib.byteCells l := by
    rcases hown.2 with ⟨_, hz⟩ | ⟨g, cap, cur, hv, r⟩
    · exact absurd hz hl0
    · exact ⟨g, cap, cur, hv, r⟩
  have c1 : w.drew.cell? ⟨b, 1, none⟩ = some (.slice (some ⟨g, 0, none⟩) l.length cap) := (blk_cell (show w.drew.heap[b]? = _ from hbk) 1).trans rfl
  have hSD : (Builtin.unsafeSliceData_ #[66] 110 #[.slice (some ⟨g, 0, none⟩) l.length cap]).run Tryz.prog w.drew = .ok (.pointer (some ⟨g, 0, none⟩)) w.drew :=
    Lib.run_unsafeSliceData_row _ _ _ _ _ _ (by omega)
  have hUS : (Builtin.unsafeString_ #[110, 3] 9 #[.pointer (some ⟨g, 0, none⟩), .int .i64 l.length]).run Tryz.prog w.drew = .ok (.string ⟨l.toArray⟩) (w.drew.freeze ⟨g, 0, none⟩ l.length) := by
    refine Lib.run_unsafeString_row w.drew 110 3 9 5 Tryz.underlying110 Tryz.Builder_Extra_156.cellsByte g cur.size (by have hg' : w.drew.heap[g]? = some (.cells cur 5 (0, 0)) := hg; simp [World.shape?, hg']) l h0 (by omega) (by unfold maxLen at hcm; omega) ?_
    intro j x hx
    have := hown.cells (g := g) rfl j (.int .u8 x.toNat) (by simp [Lib.byteCells, hx])
    exact this
  go_enter Tryz.func23, Tryz.ntmps23
  go_wp2
  go_region
  all_goals (go_wp2; go_ret; exact ⟨rfl, Lib.below_freeze (Below.drew (Below.refl B w)) (p := ⟨g, 0, none⟩) hbg _⟩)
end Go.Proofs.YtcdmndhaeiccoaaGreatDoor.P
namespace Go.Proofs.YtcdmndhaeiccoaaGreatDoor.P
open Go Go.Proofs.YtcdmndhaeiccoaaGreatDoorR
open Go.RowKit Go.Proofs.YtcdmndhaeiccoaaGreatDoorW.PrintWords Go.Proofs.YtcdmndhaeiccoaaGreatDoorW.PrintLast
set_option linter.unusedVariables false
set_option linter.unusedSimpArgs false
set_option maxHeartbeats 8000000
set_option maxRecDepth 100000
/-- A line's words behind the first one, which it must have, and so many in all. -/
def wsOf (t first : ByteArray) (n : Int) : Option (List ByteArray) :=
  if (wordsL t.data.toList).2 = 0 ∧ ((wordsL t.data.toList).1.length : Int) = n ∧ ((wordsL t.data.toList).1.map mkB).head? = some first then some ((wordsL t.data.toList).1.map mkB).tail else none
theorem next_short (b l : Nat) (L : Value) (ws0 : List ByteArray) (sc : Int) (ls : List ByteArray) (first : ByteArray) (n : Int) (w : World) (h : Rdr w b L l ws0 sc) (hL : Left w b L ls) (hl : ls.length ≤ l) (hb : l ≤ 20000) :
    Calls Tryz.prog 27 #[.pointer (some ⟨b, 0, none⟩), .string first, .int .i64 n] w fun r w' => KeepW w w' b ∧ r = .panicked (faultC (l + 1) 20) := by
  obtain ⟨A, c, rfl, hc, hC, hne⟩ := hL
  have f0 := h.at0
  have f1 := h.at1
  obtain ⟨v, hv, hl'⟩ := h.blk
  have g0 : w.frozen? ⟨b, 1, none⟩ = false := blk_frozen hv 1
  have HH := Aside0.mk hv
  clear h hv hl' hC hne
  go_enter Tryz.func27, Tryz.ntmps27
  go_wp2_with fail
  obtain ⟨W, hW⟩ : ∃ W, W = w.setCell ⟨b, 1, none⟩ (.int .i64 ((l : Int) + 1)) := ⟨_, rfl⟩
  rw [← hW]
  have k0 : W.cell? ⟨b, 0, none⟩ = some (.slice A ls.length c) := by rw [hW]; exact (blk_cell (blk_set HH.out 1 _) 0).trans rfl
  have k1 : W.cell? ⟨b, 1, none⟩ = some (.int .i64 ((l : Int) + 1)) := by rw [hW]; exact (blk_cell (blk_set HH.out 1 _) 1).trans rfl
  have HW := Aside0.mk hW
  clear hW f0 f1 g0 HH
  have d1 : decide (((l : Int) + 1) > (ls.length : Int)) = true := decide_eq_true (by omega)
  have d2 : decide (ls.length < l + 1) = true := decide_eq_true (by omega)
  go_quiet (fail)
  go_wp2_with (first | (go_at_call 32; refine (sheet_fail.calls b ((l : Int) + 1) 20 _ ?_).mono ?_; exact k1; rintro r w3 ⟨rfl, rfl⟩))
  refine ⟨rfl, ?_, rfl⟩
  rw [HW.out]
  exact (KeepW.set w b 1 _).trans ⟨rfl, rfl, rfl, Nat.le_refl _, fun _ _ _ => rfl⟩
theorem ad_block (ad : Addr) (l : Nat) : (ad.add l).block = ad.block := by unfold Addr.add; split <;> rfl
theorem at_line {w : World} {A : Option Addr} {ls : List ByteArray} (hC : Kd.string.C w A ls.length ls) {l : Nat} {t : ByteArray} (ht : ls[l]? = some t) : ∃ ad, A = some ad ∧ w.cell? (ad.add l) = some (.string t) := by
  have hlt : l < ls.length := (List.getElem?_eq_some_iff.1 ht).1
  obtain ⟨ad, rfl, hx⟩ := Kd.at_string hC (l : Int) (by omega) (by omega)
  refine ⟨ad, rfl, ?_⟩
  have e1 : rdOf ByteArray.empty ls (l : Int) = t := by
    unfold rdOf
    rw [Int.toNat_natCast, List.getD_eq_getElem?_getD, ht]
    rfl
  rw [Int.toNat_natCast, e1] at hx
  exact hx
theorem bytes_inj {a b : ByteArray} (h : a.toList = b.toList) : a = b := by
  rw [Lib.toList_data, Lib.toList_data] at h
  rw [← mkB_of a, ← mkB_of b, h]
/-- What the words of a line come to. -/
def wsR (r1 : List ByteArray) (e : Int) (first : ByteArray) (n : Int) : Option (List ByteArray) :=
  if e = 0 ∧ (r1.length : Int) = n ∧ r1.head? = some first then some r1.tail else none
theorem next_line (b l : Nat) (L : Value) (ws0 : List ByteArray) (sc : Int) (ls : List ByteArray) (first t : ByteArray) (n e : Int) (r1 : List ByteArray) (w : World) (h : Rdr w b L l ws0 sc) (hL : Left w b L ls) (ht : ls[l]? = some t) (hb : l ≤ 20000) (hn : 1 ≤ n)
    (hw : deci_Words.f 20000 t = some (r1, e)) :
    Calls Tryz.prog 27 #[.pointer (some ⟨b, 0, none⟩), .string first, .int .i64 n] w fun r w' => KeepW w w' b ∧ ((∃ ws, wsR r1 e first n = some ws ∧ r = .returned (.tuple #[]) ∧ Rdr w' b L (l + 1) ws sc) ∨ (wsR r1 e first n = none ∧ r = .panicked (faultC (l + 1) 21))) := by
  obtain ⟨A, c, rfl, hc, hC, hne⟩ := hL
  have hlt : l < ls.length := (List.getElem?_eq_some_iff.1 ht).1
  obtain ⟨ad, rfl, hx⟩ := at_line hC ht
  have f0 := h.at0
  have f1 := h.at1
  have hbs := h.lt
  obtain ⟨v, hv, hl'⟩ := h.blk
  have g0 : w.frozen? ⟨b, 1, none⟩ = false := blk_frozen hv 1
  have HH := Aside0.mk hv
  have HX := Aside0.mk hx
  have HN := Aside0.mk (hne ad rfl (by omega)).1
  have C1 := Aside0.mk (fun w => deci_Words.calls 20000 t r1 e w hw)
  have HLT := Aside0.mk hlt
  have HBS := Aside0.mk hbs
  have HN1 := Aside0.mk hn
  clear h hv hl' hC hne hx ht hw hbs hn
  generalize ls.length = m at f0 HH hc hlt HLT ⊢
  go_enter Tryz.func27, Tryz.ntmps27
  go_wp2_with fail
  obtain ⟨W, hW⟩ : ∃ W, W = w.setCell ⟨b, 1, none⟩ (.int .i64 ((l : Int) + 1)) := ⟨_, rfl⟩
  rw [← hW]
  have hB : W.heap[b]? = some (.cells #[.slice (some ad) m c, .int .i64 ((l : Int) + 1), v, .int .i64 sc] 46 (0, 0)) := by rw [hW]; exact blk_set HH.out 1 _
  have k0 : W.cell? ⟨b, 0, none⟩ = some (.slice (some ad) m c) := (blk_cell hB 0).trans rfl
  have k1 : W.cell? ⟨b, 1, none⟩ = some (.int .i64 ((l : Int) + 1)) := (blk_cell hB 1).trans rfl
  have k2 : W.cell? (ad.add l) = some (.string t) := by rw [hW]; exact (KeepW.set w b 1 _).cell HX.out (by rw [ad_block]; exact HN.out)
  have HW := Aside0.mk (show KeepW w W b by rw [hW]; exact KeepW.set w b 1 _)
  have HBW := Aside0.mk hB
  clear hW f0 f1 g0 HH HX hB
  have d1 : decide (((l : Int) + 1) > (m : Int)) = false := decide_eq_false (by omega)
  have d2 : decide (m < l + 1) = false := decide_eq_false (by omega)
  have d3 : IntKind.i64.wrap ((l : Int) + 1 - 1) = (l : Int) := by rw [IntKind.wrap_i64]; omega
  have d4 : IntKind.i64.wrap (l : Int) = (l : Int) := by rw [IntKind.wrap_i64]; omega
  have p1 : (0 : Int) ≤ (l : Int) := by omega
  have p2 : (l : Int) < (m : Int) := by omega
  go_quiet (fail)
  go_wp2_with fail
  obtain ⟨W2, hW2⟩ : ∃ W2, W2 = W.drewN nq := ⟨_, rfl⟩
  rw [← hW2]
  have j0 : W2.cell? ⟨b, 0, none⟩ = some (.slice (some ad) m c) := by rw [hW2]; exact k0
  have j1 : W2.cell? ⟨b, 1, none⟩ = some (.int .i64 ((l : Int) + 1)) := by rw [hW2]; exact k1
  have j2 : W2.cell? (ad.add l) = some (.string t) := by rw [hW2]; exact k2
  have HW2 := Aside0.mk (show KeepW w W2 b by rw [hW2]; exact HW.out.trans ⟨rfl, rfl, rfl, Nat.le_refl _, fun _ _ _ => rfl⟩)
  have HBW2 := Aside0.mk (show W2.heap[b]? = some (.cells #[.slice (some ad) m c, .int .i64 ((l : Int) + 1), v, .int .i64 sc] 46 (0, 0)) by rw [hW2]; exact HBW.out)
  clear hW2 k0 k1 k2 HW HBW
  have q1 : decide ((l : Int) < (m : Int)) = true := decide_eq_true p2
  have q2 : decide (l < m) = true := decide_eq_true HLT.out
  go_region_held2 (fun w' => w'.cell? ⟨b, 0, none⟩ = some (.slice (some ad) m c) ∧ w'.cell? ⟨b, 1, none⟩ = some (.int .i64 ((l : Int) + 1)) ∧ w'.cell? (ad.add l) = some (.string t)) (first | go_keep | exact ⟨cell_below B1.out j0, cell_below B1.out j1, cell_below B1.out j2⟩) (first | (go_at_call 58; refine (C1.out _).mono ?_; rintro r w1 ⟨v0, rfl, hR, hb⟩; have R1 := Aside0.mk hR; have B1 := Aside0.mk hb; clear hR hb))
  rename_i hHeld
  have i1 := hHeld.2.1
  have hBb : w1.heap[b]? = some (.cells #[.slice (some ad) m c, .int .i64 ((l : Int) + 1), v, .int .i64 sc] 46 (0, 0)) := (B1.out.block b (Nat.lt_of_lt_of_le HBS.out HW2.out.size)).trans HBW2.out
  have HK1 := Aside0.mk (HW2.out.trans ((show KeepW W2 W2.drew b from ⟨rfl, rfl, rfl, Nat.le_refl _, fun _ _ _ => rfl⟩).trans (.of_below B1.out b)))
  have HB1 := Aside0.mk hBb
  have HBL := Aside0.mk (show b < W2.drew.heap.size from Nat.lt_of_lt_of_le HBS.out HW2.out.size)
  have g2 : w1.frozen? ⟨b, 2, none⟩ = false := blk_frozen hBb 2
  have i2 : w1.cell? ⟨b, 2, none⟩ = some v := (blk_cell hBb 2).trans rfl
  clear j0 j1 j2 HBW2 HW2 B1 hHeld d1 d2 d3 d4 p1 p2 q1 q2 hBb
  by_cases he : e = 0
  · subst he
    obtain ⟨A1, c1, rfl, hc1, hC1⟩ := Kd.R_reads R1.out
    by_cases hn : (r1.length : Int) = n
    · cases r1 with
      | nil => exact absurd hn (by have := HN1.out; simp; omega)
      | cons x ws =>
        obtain ⟨ad1, rfl, hx1⟩ := at_line (l := 0) hC1 (t := x) rfl
        have hx2 : w1.cell? ad1 = some (.string x) := by rw [Addr.add_zero'] at hx1; exact hx1
        obtain ⟨g, rfl, hgb, hty⟩ : ∃ g, ad1 = ⟨g, 0, none⟩ ∧ b < g ∧ ∃ cs fr, w1.heap[g]? = some (.cells cs 9 fr) := by
          obtain ⟨inner, ho⟩ := Kd.R_own R1.out
          obtain ⟨g, cap, hv, _, _⟩ := ho.form (by simp)
          have hb' := own_base ho g (by rw [hv]; simp [Value.ownBlock])
          obtain ⟨cells, hcl⟩ := own_typed ho g (by rw [hv]; simp [Value.ownBlock])
          injection hv with hv1 _ _
          injection hv1 with hv2
          have := HBL.out
          exact ⟨g, hv2, by omega, cells, _, hcl⟩
        have HNE := Aside0.mk (show g ≠ b by omega)
        have HTY := Aside0.mk hty
        clear hgb hty
        have HC1 := Aside0.mk hC1
        clear hx1 hC1 R1
        obtain ⟨q, hq⟩ : ∃ q, q = (x :: ws).length := ⟨_, rfl⟩
        have hq1 : q = ws.length + 1 := by rw [hq, List.length_cons]
        have HQ := Aside0.mk hq1
        have HQ2 := Aside0.mk hq
        rw [← hq] at hn hc1 ⊢
        have HNN := Aside0.mk hn
        have d1 : ((q : Int) != n) = false := by simp [hn]
        have d2 : ((q : Int) == n) = true := by simp [hn]
        have p1 : (1 : Int) ≤ (q : Int) := by omega
        have p0 : (0 : Int) < (q : Int) := by omega
        have p3 : (0 : Int) ≤ (0 : Int) := by omega
        clear hq hq1 hn
        by_cases hx : x = first
        · have e1 : (x.toList == first.toList) = true := by simp [hx]
          have e2 : (x.toList != first.toList) = false := by simp [hx]
          have HXX := Aside0.mk hx
          clear hx
          have hT := Aside0.mk (Left.tail hc1 HQ.out HC1.out (fun a ha _ => by cases ha; exact ⟨HNE.out, HTY.out⟩))
          have hW : wsR (x :: ws) 0 first n = some ws := by
            unfold wsR
            rw [if_pos ⟨rfl, by rw [← HQ2.out]; exact HNN.out, by rw [HXX.out]; rfl⟩]
            rfl
          have HWW := Aside0.mk hW
          clear hW
          by_cases hcc : c1 = 1
          · obtain rfl : q = 1 := by omega
            subst hcc
            obtain rfl : n = 1 := HNN.out.symm
            clear d1 d2
            go_wp2
            go_end0
            have hT2 : Left w1 b (.slice (some ⟨g, 0, none⟩) 0 0) ws := hT.out
            refine ⟨HK1.out.trans (KeepW.set _ _ _ _), .inl ⟨ws, HWW.out, rfl, ⟨_, blk_set HB1.out 2 _, Left.keep hT2 (KeepW.set _ _ _ _)⟩⟩⟩
          · go_wp2
            go_end0
            refine ⟨HK1.out.trans (KeepW.set _ _ _ _), .inl ⟨ws, HWW.out, rfl, ⟨_, blk_set HB1.out 2 _, Left.keep ?_ (KeepW.set _ _ _ _)⟩⟩⟩
            have hT2 := hT.out
            rw [if_neg hcc] at hT2
            exact hT2
        · have e1 : (x.toList == first.toList) = false := beq_eq_false_iff_ne.2 (fun h => hx (bytes_inj h))
          have e2 : (x.toList != first.toList) = true := by simp only [bne, e1]; rfl
          have HXX := Aside0.mk hx
          clear hx
          go_wp2_with (first | (go_at_call 32; refine (sheet_fail.calls b ((l : Int) + 1) 21 _ i1).mono ?_; rintro r w3 ⟨rfl, rfl⟩))
          refine ⟨rfl, HK1.out, .inr ⟨?_, rfl⟩⟩
          unfold wsR
          rw [if_neg (fun h => HXX.out (Option.some.inj h.2.2))]
    · have HNN := Aside0.mk hn
      have d1 : ((r1.length : Int) != n) = true := by simp [hn]
      have d2 : ((r1.length : Int) == n) = false := by simp [hn]
      clear hC1 R1 hn
      go_wp2_with (first | (go_at_call 32; refine (sheet_fail.calls b ((l : Int) + 1) 21 _ i1).mono ?_; rintro r w3 ⟨rfl, rfl⟩))
      refine ⟨rfl, HK1.out, .inr ⟨?_, rfl⟩⟩
      unfold wsR
      rw [if_neg (fun h => HNN.out h.2.1)]
  · have c1 : (e == 0) = false := beq_eq_false_iff_ne.2 he
    have c2 : (e != 0) = true := by simp [he]
    go_wp2_with (first | (go_at_call 32; refine (sheet_fail.calls b ((l : Int) + 1) 21 _ i1).mono ?_; rintro r w3 ⟨rfl, rfl⟩))
    refine ⟨rfl, HK1.out, .inr ⟨?_, rfl⟩⟩
    unfold wsR
    rw [if_neg (fun h => he h.1)]
def lineE (o : Option (List ByteArray)) : Except Int (List ByteArray) := match o with | none => .error 21 | some ws => .ok ws
/-- What the next line comes to: its words behind the first one, or an error. -/
def nextM (ls : List ByteArray) (l : Nat) (first : ByteArray) (n : Int) : Except Int (List ByteArray) :=
  match ls[l]? with
  | none => .error 20
  | some t => lineE (wsOf t first n)
theorem wsR_wsOf (t first : ByteArray) (n : Int) : wsR ((wordsL t.data.toList).1.map mkB) (wordsL t.data.toList).2 first n = wsOf t first n := by
  unfold wsR wsOf
  rw [List.length_map]
/-- next: the words of the next line. -/
theorem sheet_next.calls (b l : Nat) (L : Value) (ws0 : List ByteArray) (sc : Int) (ls : List ByteArray) (first : ByteArray) (n : Int) (w : World) (h : Rdr w b L l ws0 sc) (hL : Left w b L ls) (hb : l ≤ 20000) (hn : 1 ≤ n) (hsz : ∀ t ∈ ls, t.size ≤ 3000) :
    Calls Tryz.prog 27 #[.pointer (some ⟨b, 0, none⟩), .string first, .int .i64 n] w fun r w' => KeepW w w' b ∧ ((∃ ws, nextM ls l first n = .ok ws ∧ r = .returned (.tuple #[]) ∧ Rdr w' b L (l + 1) ws sc) ∨ (∃ e, nextM ls l first n = .error e ∧ r = .panicked (faultC (l + 1) e))) := by
  unfold nextM
  cases ht : ls[l]? with
  | none => exact (next_short b l L ws0 sc ls first n w h hL (List.getElem?_eq_none_iff.1 ht) hb).mono (fun r w' h => ⟨h.1, .inr ⟨20, rfl, h.2⟩⟩)
  | some t =>
    have hts := hsz t (List.mem_of_getElem? ht)
    have hw := words_is 20000 t (by omega) (by omega)
    refine (next_line b l L ws0 sc ls first t n _ _ w h hL ht hb hn hw).mono (fun r w' h => ⟨h.1, ?_⟩)
    have e := wsR_wsOf t first n
    show (∃ ws, lineE (wsOf t first n) = .ok ws ∧ r = .returned (.tuple #[]) ∧ Rdr w' b L (l + 1) ws sc) ∨ (∃ e, lineE (wsOf t first n) = .error e ∧ r = .panicked (faultC (l + 1) e))
    rw [← e]
    rcases h.2 with ⟨ws, h1, h2⟩ | ⟨h1, h2⟩
    · exact .inl ⟨ws, by rw [h1]; rfl, h2⟩
    · exact .inr ⟨21, by rw [h1]; rfl, h2⟩
theorem wsOf_len {t first : ByteArray} {n : Int} {ws : List ByteArray} (h : wsOf t first n = some ws) : (ws.length : Int) + 1 = n ∧ ∀ x ∈ ws, x.size ≤ t.size := by
  unfold wsOf at h
  split at h
  · rename_i hc
    obtain rfl := Option.some.inj h
    obtain ⟨h1, h2, h3⟩ := hc
    constructor
    · rw [List.length_tail, List.length_map]
      cases hq : (wordsL t.data.toList).1 with
      | nil => rw [hq] at h3; cases h3
      | cons a q => rw [hq] at h2; simp only [List.length_cons] at h2 ⊢; omega
    · intro x hx
      obtain ⟨p, hp, rfl⟩ := List.mem_map.1 (List.mem_of_mem_tail hx)
      rw [mkB_size, Lib.size_eq]
      unfold wordsL at hp
      split at hp
      · cases hp
      · split at hp
        · exact (pcs_len 32 t.data.toList).2 p hp
        · cases hp
  · cases h
end Go.Proofs.YtcdmndhaeiccoaaGreatDoor.P
namespace Go.Proofs.YtcdmndhaeiccoaaGreatDoor.P
open Go Go.Proofs.YtcdmndhaeiccoaaGreatDoorR
open Go.RowKit Go.Proofs.YtcdmndhaeiccoaaGreatDoorW.PrintWords Go.Proofs.YtcdmndhaeiccoaaGreatDoorW.PrintLast
set_option linter.unusedVariables false
set_option linter.unusedSimpArgs false
set_option maxHeartbeats 8000000
set_option maxRecDepth 100000
/-- The first error of two. -/
def er2 (e f : Int) : Int := if e = 0 then f else e
theorem er2_z {f : Int} : er2 0 f = f := rfl
theorem er2_n {e f : Int} (h : e ≠ 0) : er2 e f = e := if_neg h
theorem two_cells {w : World} {g t : Nat} {x y : Value} (h : w.heap[g]? = some (.cells #[x, y] t (0, 0))) : w.cell? ⟨g, 0, none⟩ = some x ∧ w.cell? ⟨g, 1, none⟩ = some y ∧ w.frozen? ⟨g, 0, none⟩ = false ∧ w.frozen? ⟨g, 1, none⟩ = false :=
  ⟨(blk_cell h 0).trans rfl, (blk_cell h 1).trans rfl, blk_frozen h 0, blk_frozen h 1⟩
/-- What a reading comes to: its value, or the error at its line. -/
def AnsZ (w : World) (b : Nat) (l e : Int) (v : Value) (G : World → Prop) (r : Ending) (w' : World) : Prop :=
  Aside0 (KeepW w w' b) ∧ ((e = 0 ∧ r = .returned v ∧ Aside0 (G w')) ∨ (Aside0 (e ≠ 0) ∧ r = .panicked (faultC l e)))
theorem AnsZ.of {w w' : World} {b : Nat} {l e : Int} {v : Value} {G : World → Prop} {r : Ending} (h : KeepW w w' b ∧ ((e = 0 ∧ r = .returned v ∧ G w') ∨ (e ≠ 0 ∧ r = .panicked (faultC l e)))) : AnsZ w b l e v G r w' :=
  ⟨⟨h.1⟩, h.2.imp (fun h => ⟨h.1, h.2.1, ⟨h.2.2⟩⟩) (fun h => ⟨⟨h.1⟩, h.2⟩)⟩
theorem sheet_small.ans (b : Nat) (L : Value) (l : Int) (x : ByteArray) (ws : List ByteArray) (sc most : Int) (hm : most = 1000 ∨ most = 16777216) (w : World) (h : Rdr w b L l (x :: ws) sc) (hx : x.size ≤ 3000) (n e : Int) (hne : smallL x.data.toList most = (n, e)) :
    Calls Tryz.prog 59 #[.pointer (some ⟨b, 0, none⟩), .int .i64 most] w (AnsZ w b l e (.int .i64 n) (fun w' => Rdr w' b L l ws sc)) :=
  (sheet_small.calls b L l x ws sc most hm w h hx n e hne).mono fun _ _ h => AnsZ.of h
theorem sheet_decimal.ans (b : Nat) (L : Value) (l : Int) (x : ByteArray) (ws : List ByteArray) (sc s : Int) (w : World) (h : Rdr w b L l (x :: ws) sc) (hx : x.size ≤ 3000) (n e : Int) (hne : readL x.data.toList s = (n, e)) :
    Calls Tryz.prog 29 #[.pointer (some ⟨b, 0, none⟩), .int .i64 s] w (AnsZ w b l e (.int .i64 n) (fun w' => Rdr w' b L l ws sc)) :=
  (sheet_decimal.calls b L l x ws sc s w h hx n e hne).mono fun _ _ h => AnsZ.of h
theorem sheet_whole.ans (b : Nat) (L : Value) (l : Int) (x : ByteArray) (ws : List ByteArray) (sc : Int) (w : World) (h : Rdr w b L l (x :: ws) sc) (hx : x.size ≤ 3000) (n e : Int) (hne : wholeL x.data.toList = (n, e)) :
    Calls Tryz.prog 56 #[.pointer (some ⟨b, 0, none⟩)] w (AnsZ w b l e (.int .i64 n) (fun w' => Rdr w' b L l ws sc)) :=
  (sheet_whole.calls b L l x ws sc w h hx n e hne).mono fun _ _ h => AnsZ.of h
theorem keep_new {w w1 : World} {b : Nat} {o : Obj} (h : KeepW (w.alloc o) w1 b) (hb : b < w.heap.size) : w1.heap[w.heap.size]? = some o := (h.block _ (by simp) (by omega)).trans (heap_alloc_new w o)
theorem keep_at {w w1 : World} {b g : Nat} {o : Obj} (h : KeepW w w1 b) (hg : w.heap[g]? = some o) (hne : g ≠ b) : w1.heap[g]? = some o := (h.block g (Array.getElem?_eq_some_iff.1 hg).1 hne).trans hg
theorem cell_row {w : World} {ad : Addr} {g t : Nat} {cs : Array Value} {fr : Nat × Nat} (hg : w.heap[g]? = some (.cells cs t fr)) (he : ad.block = g) {v : Value} (h : w.cell? ad = some v) : cs[ad.off]? = some v := by
  unfold World.cell? at h
  rw [he, hg] at h
  simp only at h
  split at h
  · cases h
  · exact h
/-- No cell of a block holds a text. -/
def NoStr (cs : Array Value) : Prop := ∀ (j : Nat) (s : ByteArray), cs[j]? ≠ some (.string s)
theorem left_apart {w : World} {g t : Nat} {cs : Array Value} {fr : Nat × Nat} {A : Option Addr} {ws : List ByteArray} (hC : Kd.string.C w A ws.length ws) (hg : w.heap[g]? = some (.cells cs t fr)) (hs : NoStr cs) : ∀ ad, A = some ad → 0 < ws.length → ad.block ≠ g := by
  intro ad ha h0 he
  obtain ⟨x, hx⟩ : ∃ x, ws[0]? = some x := ⟨ws[0], List.getElem?_eq_getElem h0⟩
  obtain ⟨ad', ha', hcx⟩ := at_line hC hx
  rw [ha] at ha'
  cases ha'
  rw [Addr.add_zero'] at hcx
  exact hs _ _ (cell_row hg he hcx)
/-- Whatever writes into one other block. -/
theorem left_one {w w' : World} {b g : Nat} {A : Option Addr} {c : Nat} {ws : List ByteArray} (hc : ws.length ≤ c) (hC : Kd.string.C w A ws.length ws) (hne : ∀ ad, A = some ad → 0 < ws.length → ad.block ≠ b ∧ ∃ cs fr, w.heap[ad.block]? = some (.cells cs 9 fr)) (hk : KeepBut w w' g none) (hf : ∀ ad, A = some ad → 0 < ws.length → ad.block ≠ g) : Left w' b (.slice A ws.length c) ws := by
  refine ⟨A, c, rfl, hc, Kd.C_keep (g := g) ByteArray.empty hC hk hf, fun ad ha h0 => ?_⟩
  obtain ⟨h1, cs, fr, h2⟩ := hne ad ha h0
  exact ⟨h1, cs, fr, (hk.2 _ (Array.getElem?_eq_some_iff.1 h2).1 (hf ad ha h0) (by simp)).trans h2⟩
theorem left_far {w : World} {b g t : Nat} {cs : Array Value} {fr : Nat × Nat} {v : Value} {ws : List ByteArray} (h : Left w b v ws) (hg : w.heap[g]? = some (.cells cs t fr)) (hs : NoStr cs) (j : Nat) (u : Value) : Left (w.setCell ⟨g, j, none⟩ u) b v ws := by
  obtain ⟨A, c, rfl, hc, hC, hne⟩ := h
  exact left_one hc hC hne (KeepBut.set_ (KeepBut.refl w g none) j u) (left_apart hC hg hs)
theorem rdr_far {w : World} {b g t : Nat} {cs : Array Value} {fr : Nat × Nat} {L : Value} {l : Int} {ws : List ByteArray} {sc : Int} (h : Rdr w b L l ws sc) (hg : w.heap[g]? = some (.cells cs t fr)) (hs : NoStr cs) (hne : g ≠ b) (j : Nat) (u : Value) : Rdr (w.setCell ⟨g, j, none⟩ u) b L l ws sc := by
  obtain ⟨v, hv, hl⟩ := h.blk
  exact ⟨⟨v, (Below.heap_setCell w ⟨g, j, none⟩ u b (fun h => hne h.symm)).trans hv, left_far hl hg hs j u⟩⟩
theorem keep_far {w w1 : World} {b g : Nat} (h : KeepW w w1 b) (hg : w.heap.size ≤ g) (j : Nat) (u : Value) : KeepW w (w1.setCell ⟨g, j, none⟩ u) b :=
  ⟨h.os, h.tape, h.output, by have := h.size; simpa [World.setCell] using this, fun i hi hib => (Below.heap_setCell w1 ⟨g, j, none⟩ u i (by show i ≠ g; omega)).trans (h.block i hi hib)⟩
theorem noStr2 (x y : Value) (hx : ∀ s, x ≠ .string s) (hy : ∀ s, y ≠ .string s) : NoStr #[x, y] := by
  intro j s h
  match j, h with
  | 0, h => exact hx s (Option.some.inj h)
  | 1, h => exact hy s (Option.some.inj h)
/-- The same, with plain facts of the world behind it. -/
def AnsF (w : World) (b : Nat) (l e : Int) (v : Value) (G F : World → Prop) (r : Ending) (w' : World) : Prop :=
  Aside0 (KeepW w w' b) ∧ ((e = 0 ∧ r = .returned v ∧ Aside0 (G w') ∧ F w') ∨ (Aside0 (e ≠ 0) ∧ r = .panicked (faultC l e)))
theorem AnsZ.also {w w' : World} {b : Nat} {l e : Int} {v : Value} {G F : World → Prop} {r : Ending} (h : AnsZ w b l e v G r w') (hF : KeepW w w' b → G w' → F w') : AnsF w b l e v G F r w' :=
  ⟨h.1, h.2.imp (fun k => ⟨k.1, k.2.1, k.2.2, hF h.1.out k.2.2.out⟩) id⟩
theorem sheet_load.ans (b : Nat) (L : Value) (l : Int) (x y : ByteArray) (ws : List ByteArray) (sc : Int) (w : World) (h : Rdr w b L l (x :: y :: ws) sc) (hx : x.size ≤ 3000) (hy : y.size ≤ 3000) (p q e f : Int) (h1 : smallL x.data.toList 1000 = (p, e)) (h2 : smallL y.data.toList 1000 = (q, f)) :
    Calls Tryz.prog 28 #[.pointer (some ⟨b, 0, none⟩)] w (AnsZ w b l (er2 e f) (.agg #[.int .i64 p, .int .i64 q]) (fun w' => Rdr w' b L l ws sc)) := by
  have R0 := Aside0.mk (fun o => h.below (below_alloc (Below.refl w.heap.size w) o))
  have HLT := Aside0.mk h.lt
  have C1 := Aside0.mk (fun w h => sheet_small.ans b L l x (y :: ws) sc 1000 (.inl rfl) w h hx p e h1)
  have C2 := Aside0.mk (fun w1 h (hg : w1.heap[w.heap.size]? = some (.cells #[.int .i64 0, .int .i64 0] 58 (0, 0))) => (sheet_small.ans b L l y ws sc 1000 (.inl rfl) w1 h hy q f h2).mono fun _ w' k => AnsZ.also (F := fun w' => w'.cell? ⟨w.heap.size, 0, none⟩ = some (.int .i64 0) ∧ w'.cell? ⟨w.heap.size, 1, none⟩ = some (.int .i64 0) ∧ w'.frozen? ⟨w.heap.size, 0, none⟩ = false ∧ w'.frozen? ⟨w.heap.size, 1, none⟩ = false) k (fun hk _ => two_cells (keep_at hk hg (by have := HLT.out; omega))))
  clear h h1 h2 hx hy
  go_enter Tryz.func28, Tryz.ntmps28
  go_wp2_with (first
    | (go_at_call 59; refine (C2.out _ R1.out (keep_new K1.out HLT.out)).mono ?_; rintro r w2 ⟨K2, ⟨rfl, rfl, R2, c0, c1, g0, g1⟩ | ⟨F2, rfl⟩⟩)
    | (go_at_call 59; refine (C1.out _ (R0.out _)).mono ?_; rintro r w1 ⟨K1, ⟨rfl, rfl, R1⟩ | ⟨F1, rfl⟩⟩))
  · have HB := keep_at K2.out (keep_new K1.out HLT.out) (by have := HLT.out; omega)
    have hne : w.heap.size ≠ b := by have := HLT.out; omega
    refine bodyPost_ret (results_cell_row rfl _ _ w.heap.size 58 #[.int .i64 p, .int .i64 q] (0, 0) _ rfl (blk_set (blk_set HB 0 _) 1 _) Tryz.underlying58 rfl (by kernel_rfl)) rfl ?_
    refine ⟨⟨keep_far (keep_far ((KeepW.alloc w _ b).trans (K1.out.trans K2.out)) (Nat.le_refl _) _ _) (Nat.le_refl _) _ _⟩, .inl ⟨rfl, rfl, ⟨?_⟩⟩⟩
    exact rdr_far (rdr_far R2.out HB (noStr2 _ _ (by simp) (by simp)) hne 0 _) (blk_set HB 0 _) (noStr2 _ _ (by simp) (by simp)) hne 1 _
  · exact ⟨rfl, ⟨(KeepW.alloc w _ b).trans (K1.out.trans K2.out)⟩, .inr ⟨F2, rfl⟩⟩
  · exact ⟨rfl, ⟨(KeepW.alloc w _ b).trans K1.out⟩, .inr ⟨⟨by rw [er2_n F1.out]; exact F1.out⟩, by rw [er2_n F1.out]⟩⟩
end Go.Proofs.YtcdmndhaeiccoaaGreatDoor.P
