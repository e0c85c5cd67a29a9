/- A row and what takes it away again: the walk. -/
import Derived.Test.YtocoapfnkkmkiaaP1
import Derived.Test.YtocoapfnkkmkiaaP2
import Derived.Test.YtocoapfnkkmkiaaP3
import Derived.Test.YtocoapfnkkmkiaaP4
import Derived.Test.YtocoapfnkkmkiaaP5
import Derived.Test.YtocoapfnkkmkiaaPlain
import Derived.Outline
namespace Go.Proofs.Ytocoapfnkkmkiaa.P
open Go.Proofs.YtocoapfnkkmkiaaR
open Go.RowKit Go.Proofs.YtocoapfnkkmkiaaW.PrintWords Go.Proofs.YtocoapfnkkmkiaaW.PrintLast Go.Proofs.YtocoapfnkkmkiaaW.PrintMore
attribute [local go_sem] max2_int min2_int max_two min_two max_three min_three max_four min_four
set_option linter.unusedVariables false
set_option linter.unusedSimpArgs false
attribute [local go_sem high] eqA23
def negS (a : S23) : S23 := ⟨wrap64 (-a.f0), wrap64 (-a.f1)⟩
def negV (a : S23) : S23 := if mayB a.f0 a.f1 = true then negS a else ⟨0, 0⟩
theorem neg_isV (a : S23) : load_Neg.f a.f0 a.f1 = some ((negV a).f0, (negV a).f1) := by
  rw [neg_is]
  unfold negV negS
  split <;> rfl
set_option maxHeartbeats 8000000 in
set_option maxRecDepth 100000 in
theorem loadBack_long (r0 r1 more : Int) (A1 : Option Addr) (c1 : Nat) (xs : List S23) (w : World) (hlen : 60 < xs.length) :
    Calls Try.prog 5 #[.agg #[.int .i64 r0, .int .i64 r1], .slice A1 xs.length c1, .int .i64 more] w fun e w' => e = .returned (.bool true) ∧ Below w.heap.size w w' := by
  have hu23 := Try.underlying23
  have h1 : decide ((60 : Int) < (xs.length : Int)) = true := by simp; omega
  go_enter Try.func5, Try.ntmps5
  go_wp2_with (go_at_call 8; (with_reducible refine (jitneylaw04_alive.calls true _ rfl).mono ?_); rintro e w0 ⟨rfl, hb⟩; have HB := Aside0.mk hb; clear hb)
  go_ret
  exact ⟨rfl, below_step (below_alloc (Below.refl _ _) _) HB.out⟩
theorem R_empty {α : Type} (d : Kd α) (e : Nat) {B : Nat} {w0 : World} (hB : B ≤ w0.heap.size) (hne : w0.heap.size ≠ B) (w1 : World) : d.R e (w0.alloc (.cells #[] e (0, 0))) B (fun k_ => k_ ≠ B) (.slice (some ⟨w0.heap.size, 0, none⟩) 0 0) [] := by
  obtain ⟨inner, ho, hr⟩ := OwnRow.lit (R := d.M (w0.alloc (.cells #[] e (0, 0))) B (fun k => k ≠ B ∧ some k ≠ (Value.slice (some ⟨w0.heap.size, 0, none⟩) 0 0).ownBlock)) (e := e) (size := d.sz) (ps := ([] : List α)) (inner := []) w0 B (Reps.none _ _) hB (by simp)
  refine ⟨fun k hk => ?_, inner, ho, hr⟩
  have h : w0.heap.size = k := by simpa [Value.ownBlock] using hk
  omega
def backTail (xs : List S23) (j : Nat) : List S23 := (xs.drop j).reverse.map negV
theorem backTail_succ (xs : List S23) (j : Nat) (h : j < xs.length) : backTail xs j = backTail xs (j + 1) ++ [negV (rd_T23 xs j)] := by
  unfold backTail
  rw [rd_drop h, List.reverse_cons, List.map_append]
  rfl
theorem take_succ_rd (xs : List S23) (j : Nat) (h : j < xs.length) : xs.take (j + 1) = xs.take j ++ [rd_T23 xs j] := by
  rw [List.take_succ_eq_append_getElem h]
  unfold rd_T23
  simp [h]

set_option maxHeartbeats 8000000 in
set_option maxRecDepth 100000 in
theorem loadBack_walk11 (k : Nat) (r0 r1 more : Int) (bk : List S23) (A1 : Option Addr) (c1 : Nat) (xs ps : List S23) (fi fj fk p0 p1 : Int) (w : World) (hr : Kd.C k23 w A1 xs.length xs) (hc : xs.length ≤ c1) (hlen : xs.length ≤ 60) (hbk : bk = xs ++ backTail xs 0)
    (hP : (∀ j, j < xs.length → rightB (rd_T23 xs j) = true) → load_Profile.f k bk = some (ps, true)) (hpl : ps.length = 2 * xs.length) (hpz : (∀ j, j < xs.length → rightB (rd_T23 xs j) = true) → 0 < xs.length → rd_T23 ps (2 * xs.length - 1 : Nat) = ⟨0, 0⟩)
    (hF : load_First.f r0 r1 xs = some fi) (hfb : decide (fi < 0) = true) (hRr : load_Right.f r0 r1 = some true)
    (hG : load_First.f r0 r1 bk = some fj) (hgb : (∀ j, j < xs.length → rightB (rd_T23 xs j) = true) → decide (fj < 0) = true)
    (hH : load_First.f (wrap64 (r0 + Go.bits .and .i64 more 1023)) (wrap64 (r1 + Go.bits .and .i64 more 1023)) bk = some fk) (hkb : (∀ j, j < xs.length → rightB (rd_T23 xs j) = true) → decide (fk < 0) = true) (hK : load_Peak.f k xs = some (p0, p1)) (hL : (∀ j, j < xs.length → rightB (rd_T23 xs j) = true) → load_Fits.f r0 r1 p0 p1 = some true) :
    Calls Try.prog 5 #[.agg #[.int .i64 r0, .int .i64 r1], .slice A1 xs.length c1, .int .i64 more] w fun e w' => e = .returned (.bool true) ∧ Below w.heap.size w w' := by
  have hu23 := Try.underlying23
  have HR := Aside0.mk hr
  have HC := Aside0.mk hc
  have h1 : decide ((60 : Int) < (xs.length : Int)) = false := by simp; omega
  have HN := Aside0.mk hlen
  have Hbk := Aside0.mk hbk
  have HP := Aside0.mk hP
  have Hpl := Aside0.mk hpl
  have Hpz := Aside0.mk hpz
  have HF := Aside0.mk hF
  have Hfb := Aside0.mk hfb
  have HRr := Aside0.mk hRr
  have HG := Aside0.mk hG
  have Hgb := Aside0.mk hgb
  have HH := Aside0.mk hH
  have Hkb := Aside0.mk hkb
  have HK := Aside0.mk hK
  have HL := Aside0.mk hL
  clear hr hc hlen hbk hP hpl hpz hF hfb hRr hG hgb hH hkb hK hL
  go_enter Try.func5, Try.ntmps5
  go_wp2_with (first | (go_at_call 8; (with_reducible refine (jitneylaw04_alive.calls true _ rfl).mono ?_); rintro e w0 ⟨rfl, hb⟩; have b1_ := blk_below (g := w.heap.size) (o := .cells #[.int .i64 r0, .int .i64 r1] 23 (0, 0)) (blk_new w _) hb; have HB_w0 := Aside0.mk hb; have F1_ := Aside0.mk b1_; have cb1_0 := (blk_cell b1_ 0).trans rfl; have zb1_0 := blk_frozen b1_ 0; have cb1_1 := (blk_cell b1_ 1).trans rfl; have zb1_1 := blk_frozen b1_ 1; have lb1_ := blk_lt b1_; clear b1_; clear hb))
  clear cb1_0 zb1_0 cb1_1 zb1_1 lb1_
  have BW := Aside0.mk (below_step (below_alloc (Below.refl _ _) _) HB_w0.out)
  obtain ⟨w1, hw1⟩ : ∃ w1, w1 = w0.alloc (.cells #[] 23 (0, 0)) := ⟨_, rfl⟩
  rw [← hw1]
  have R0 := Aside0.mk (show Kd.R k23 23 w1 w.heap.size (fun k_ => k_ ≠ w.heap.size) (.slice (some ⟨w0.heap.size, 0, none⟩) 0 0) (xs.take 0) by rw [hw1]; exact R_empty k23 23 (below_size BW.out) (Nat.ne_of_gt (blk_lt F1_.out)) w0)
  have B0 := Aside0.mk (show w1.heap[w.heap.size]? = some (.cells #[.int .i64 r0, .int .i64 r1] 23 (0, 0)) by rw [hw1]; exact blk_alloc F1_.out _)
  have BB0 := Aside0.mk (show Below w.heap.size w w1 by rw [hw1]; exact below_alloc BW.out _)
  clear hw1
  go_loopg [7, 23] xs.length (fun gg v7 v23 wr => ∃ kk : Nat, kk ≤ xs.length ∧ xs.length - kk ≤ gg ∧ v23 = .int .i64 kk ∧ Aside0 (Kd.R k23 23 wr w.heap.size (fun k_ => k_ ≠ w.heap.size) v7 (xs.take kk)) ∧ Aside0 (wr.heap[w.heap.size]? = some (.cells #[.int .i64 r0, .int .i64 r1] 23 (0, 0))) ∧ Aside0 (Below w.heap.size w wr) ∧ Aside0 (∀ j, j < kk → rightB (rd_T23 xs j) = true))
  case atStart => exact ⟨0, Nat.zero_le _, by omega, rfl, R0, B0, BB0, ⟨fun j hj => absurd hj (Nat.not_lt_zero _)⟩⟩
  case round =>
    clear R0 B0 BB0
    obtain ⟨kk, hkk, hg, rfl, RW, BX0, BB1, HJ⟩ := hrel
    by_cases hlt : kk < xs.length
    · have hltz : decide ((kk : Int) < (xs.length : Int)) = true := by simp; omega
      obtain ⟨ad, e1, x0, x1⟩ := at_T23 (Kd.C_below HR.out BB1.out) (kk : Int) (by omega) (by omega)
      cases e1
      simp only [Int.toNat_natCast] at x0 x1
      have hml := HN.out
      have HRk := Aside0.mk (right_is (rd_T23 xs (kk : Int)))
      cases hq : rightB (rd_T23 xs (kk : Int)) with
      | false =>
        rw [hq] at HRk
        go_wp2_with (go_at_call 13; (with_reducible refine (load_Right.calls (rd_T23 xs (kk : Int)).f0 (rd_T23 xs (kk : Int)).f1 false _ HRk.out).mono ?_); rintro e w5 ⟨rfl, hb⟩; have RR := Aside0.mk (Kd.R_below (Kd.R_alloc RW.out _) hb); have BX := Aside0.mk (blk_below (blk_alloc BX0.out _) hb); have BT := blk_below (blk_new wr _) hb; have BB := Aside0.mk (below_step (below_alloc BB1.out _) hb); have t0 := (blk_cell BT 0).trans rfl; have t1 := (blk_cell BT 1).trans rfl; have tl := blk_lt BT; clear BT hb)
        go_ret
        exact ⟨rfl, BB.out⟩
      | true =>
        rw [hq] at HRk
        have HQ := Aside0.mk hq
        clear hq
        go_wp2_with (first | (go_at_call 13; (with_reducible refine (load_Right.calls (rd_T23 xs (kk : Int)).f0 (rd_T23 xs (kk : Int)).f1 true _ HRk.out).mono ?_); rintro e w5 ⟨rfl, hb⟩; have RR := Aside0.mk (Kd.R_below (Kd.R_alloc RW.out _) hb); have BX := Aside0.mk (blk_below (blk_alloc BX0.out _) hb); have BT := blk_below (blk_new wr _) hb; have BB := Aside0.mk (below_step (below_alloc BB1.out _) hb); have t0 := (blk_cell BT 0).trans rfl; have t1 := (blk_cell BT 1).trans rfl; have tl := blk_lt BT; clear BT hb) | ((with_reducible refine gate_builtin (b := .append) (xs := #[.tmp 30, .tmp 32]) rfl ?_); at_builtin; refine Kd.R_append k23 (w0 := w) w.heap.size rfl (.tmp 30) (.tmp 32) 30 23 (.agg #[(.int .i64 0), (.int .i64 0)]) 16 rfl Try.underlying30 info23 rfl (by decide) (by omega) u7 (xs.take kk) (rd_T23 xs (kk : Int)) [.int .i64 (rd_T23 xs (kk : Int)).f0, .int .i64 (rd_T23 xs (kk : Int)).f1] (fun k_ => k_ ≠ w.heap.size) (fun _ => False) rfl rfl ?aP (fun _ hk => hk.elim) ?aF ?aO ?aB ?aS ?aL ?_; (case aP => exact k23_mkM _ _ _ (rd_T23 xs (kk : Int))); (case aB => exact (by repeat (first | exact BB.out | apply below_alloc))); (case aF => exact (fun k_ hk => Kd.freshB (g := w.heap.size) (o := .cells #[.int .i64 r0, .int .i64 r1] 23 (0, 0)) (by (with_reducible repeat (first | refine blk_drewN ?_ _ | refine blk_drew ?_ | refine blk_alloc ?_ _)); exact BX.out) k_ hk)); (case aO => exact (by (with_reducible repeat (first | apply Kd.R_alloc | apply Kd.R_drewN | apply Kd.R_drew)); exact RR.out)); (case aS => exact (below_size (by repeat (first | exact BB.out | apply below_alloc)))); (case aL => have := HN.out; rw [List.length_take]; omega); intro v9 w9 ho hb hg hat; have BX := Aside0.mk (blk_grown (g := w.heap.size) (o := .cells #[.int .i64 r0, .int .i64 r1] 23 (0, 0)) (by (with_reducible repeat (first | refine blk_drewN ?_ _ | refine blk_drew ?_ | refine blk_alloc ?_ _)); exact BX.out) hg (Kd.R_away RR.out (fun _ hk => hk))); have BB := Aside0.mk hb; have RR := Aside0.mk ho; clear ho hb hg hat))
        go_roundg (xs.length - (kk + 1))
        case measure => omega
        case rel =>
          refine ⟨kk + 1, by omega, by omega, by go_num, ⟨by rw [take_succ_rd xs kk hlt]; exact RR.out⟩, BX, BB, ⟨fun j hj => ?_⟩⟩
          by_cases e : j = kk
          · subst e; exact HQ.out
          · exact HJ.out j (by omega)
    · have hltz : decide ((kk : Int) < (xs.length : Int)) = false := by simp; omega
      have : kk = xs.length := by omega
      subst this
      have hml := HN.out
      obtain ⟨wo, hwo⟩ : ∃ wo : World, wo = wr := ⟨_, rfl⟩
      rw [← hwo] at RW BX0 BB1
      have RW0 := Aside0.mk (show Kd.R k23 23 wo w.heap.size (fun k_ => k_ ≠ w.heap.size) u7 (xs ++ backTail xs xs.length) by have h := RW.out; rw [List.take_length] at h; simpa [backTail] using h)
      go_wp2
      rw [← hwo]
      clear hwo RW
      go_loopg [7, 10] xs.length (fun gg v7 v10 wr => ∃ j : Nat, j ≤ xs.length ∧ j ≤ gg ∧ v10 = .int .i64 ((j : Int) - 1) ∧ Aside0 (Kd.R k23 23 wr w.heap.size (fun k_ => k_ ≠ w.heap.size) v7 (xs ++ backTail xs j)) ∧ Aside0 (wr.heap[w.heap.size]? = some (.cells #[.int .i64 r0, .int .i64 r1] 23 (0, 0))) ∧ Aside0 (Below w.heap.size w wr))
      case atStart => exact ⟨xs.length, Nat.le_refl _, Nat.le_refl _, rfl, RW0, BX0, BB1⟩
      case round =>
        clear RW0 BX0 BB1
        obtain ⟨j, hj, hgj, rfl, RW2, BX2, BB2⟩ := hrel
        cases j with
        | succ i =>
          have e : ((i + 1 : Nat) : Int) - 1 = (i : Int) := by omega
          rw [e]
          clear e
          have hlt : i < xs.length := by omega
          have hltz : decide ((i : Int) < (xs.length : Int)) = true := by simp; omega
          obtain ⟨ad, e1, x0, x1⟩ := at_T23 (Kd.C_below HR.out BB2.out) (i : Int) (by omega) (by omega)
          cases e1
          simp only [Int.toNat_natCast] at x0 x1
          have HNk := Aside0.mk (neg_isV (rd_T23 xs (i : Int)))
          go_wp2_with (first | (go_at_call 11; (with_reducible refine (load_Neg.calls (rd_T23 xs (i : Int)).f0 (rd_T23 xs (i : Int)).f1 (negV (rd_T23 xs (i : Int))).f0 (negV (rd_T23 xs (i : Int))).f1 _ HNk.out).mono ?_); rintro e w5 ⟨rfl, hb⟩; have RR := Aside0.mk (Kd.R_below RW2.out hb); have BX := Aside0.mk (blk_below BX2.out hb); have BB := Aside0.mk (below_step BB2.out hb); clear hb) | ((with_reducible refine gate_builtin (b := .append) (xs := #[.tmp 42, .tmp 48]) rfl ?_); at_builtin; refine Kd.R_append k23 (w0 := w) w.heap.size rfl (.tmp 42) (.tmp 48) 30 23 (.agg #[(.int .i64 0), (.int .i64 0)]) 16 rfl Try.underlying30 info23 rfl (by decide) (by omega) u7 (xs ++ backTail xs (i + 1)) (negV (rd_T23 xs (i : Int))) [.int .i64 (negV (rd_T23 xs (i : Int))).f0, .int .i64 (negV (rd_T23 xs (i : Int))).f1] (fun k_ => k_ ≠ w.heap.size) (fun _ => False) rfl rfl ?aP (fun _ hk => hk.elim) ?aF ?aO ?aB ?aS ?aL ?_; (case aP => exact k23_mkM _ _ _ (negV (rd_T23 xs (i : Int)))); (case aB => exact (by repeat (first | exact BB.out | apply below_alloc))); (case aF => exact (fun k_ hk => Kd.freshB (g := w.heap.size) (o := .cells #[.int .i64 r0, .int .i64 r1] 23 (0, 0)) (by (with_reducible repeat (first | refine blk_drewN ?_ _ | refine blk_drew ?_ | refine blk_alloc ?_ _)); exact BX.out) k_ hk)); (case aO => exact (by (with_reducible repeat (first | apply Kd.R_alloc | apply Kd.R_drewN | apply Kd.R_drew)); exact RR.out)); (case aS => exact (below_size (by repeat (first | exact BB.out | apply below_alloc)))); (case aL => have := HN.out; simp only [List.length_append, backTail, List.length_map, List.length_reverse, List.length_drop]; omega); intro v9 w9 ho hb hg hat; have BX := Aside0.mk (blk_grown (g := w.heap.size) (o := .cells #[.int .i64 r0, .int .i64 r1] 23 (0, 0)) (by (with_reducible repeat (first | refine blk_drewN ?_ _ | refine blk_drew ?_ | refine blk_alloc ?_ _)); exact BX.out) hg (Kd.R_away RR.out (fun _ hk => hk))); have BB := Aside0.mk hb; have RR := Aside0.mk ho; clear ho hb hg hat))
          go_roundg i
          case measure => omega
          case rel => exact ⟨i, by omega, Nat.le_refl _, rfl, ⟨by rw [backTail_succ xs i hlt, ← List.append_assoc]; exact RR.out⟩, BX, BB⟩
        | zero =>
          have e : ((0 : Nat) : Int) - 1 = -1 := rfl
          rw [e]
          clear e hj hgj
          rw [← Hbk.out] at RW2
          obtain ⟨Ab, cb, hub, hlb, hCb⟩ := Kd.R_reads RW2.out
          subst hub
          have CB := Aside0.mk hCb
          have LB := Aside0.mk hlb
          clear hCb hlb
          have HPx := Aside0.mk (HP.out HJ.out)
          by_cases hn : xs.length = 0
          · skip
            obtain rfl : ps = [] := List.eq_nil_of_length_eq_zero (by have := Hpl.out; omega)
            clear hn
            have hfb := Hfb.out
            go_wp2_with (first | (go_at_call 17; (with_reducible refine (load_Profile.calls k Ab cb bk [] true _ CB.out LB.out HPx.out).mono ?_); rintro e w6 ⟨v0, rfl, hR, hb⟩; obtain ⟨Ap, cp, rfl, hCp, hAp⟩ := own_reads_base (w := w) hR; have CP := Aside0.mk hCp; have CB6 := Aside0.mk (Kd.C_below CB.out hb); have BB6 := Aside0.mk (below_step BB2.out hb); clear hR hCp hAp; have b1_ := blk_below (g := w.heap.size) (o := .cells #[.int .i64 r0, .int .i64 r1] 23 (0, 0)) (by (with_reducible repeat (first | refine blk_drewN ?_ _ | refine blk_drew ?_ | refine blk_alloc ?_ _)); exact BX2.out) hb; have F1_ := Aside0.mk b1_; have cb1_0 := (blk_cell b1_ 0).trans rfl; have zb1_0 := blk_frozen b1_ 0; have cb1_1 := (blk_cell b1_ 1).trans rfl; have zb1_1 := blk_frozen b1_ 1; have lb1_ := blk_lt b1_; clear b1_; clear hb) | (go_at_call 19; (with_reducible refine (load_First.calls r0 r1 A1 c1 xs fi _ (Kd.C_below HR.out BB6.out) HC.out HF.out).mono ?_); rintro e w7 ⟨rfl, hb⟩; clear cb1_0 zb1_0 cb1_1 zb1_1 lb1_; have b2_ := blk_below (g := w.heap.size) (o := .cells #[.int .i64 r0, .int .i64 r1] 23 (0, 0)) (by (with_reducible repeat (first | refine blk_drewN ?_ _ | refine blk_drew ?_ | refine blk_alloc ?_ _)); exact F1_.out) hb; have HB_w7 := Aside0.mk hb; have F2_ := Aside0.mk b2_; have cb2_0 := (blk_cell b2_ 0).trans rfl; have zb2_0 := blk_frozen b2_ 0; have cb2_1 := (blk_cell b2_ 1).trans rfl; have zb2_1 := blk_frozen b2_ 1; have lb2_ := blk_lt b2_; clear b2_; clear hb) | (go_at_call 13; (with_reducible refine (load_Right.calls r0 r1 true _ HRr.out).mono ?_); rintro e w8 ⟨rfl, hb⟩; clear cb2_0 zb2_0 cb2_1 zb2_1 lb2_; have b3_ := blk_below (g := w.heap.size) (o := .cells #[.int .i64 r0, .int .i64 r1] 23 (0, 0)) (by (with_reducible repeat (first | refine blk_drewN ?_ _ | refine blk_drew ?_ | refine blk_alloc ?_ _)); exact F2_.out) hb; have HB_w8 := Aside0.mk hb; have F3_ := Aside0.mk b3_; have cb3_0 := (blk_cell b3_ 0).trans rfl; have zb3_0 := blk_frozen b3_ 0; have cb3_1 := (blk_cell b3_ 1).trans rfl; have zb3_1 := blk_frozen b3_ 1; have lb3_ := blk_lt b3_; clear b3_; clear hb))
            clear cb3_0 zb3_0 cb3_1 zb3_1 lb3_
            obtain ⟨w9, hw9⟩ : ∃ w9, w9 = w8.alloc (.cells #[.int .i64 (wrap64 (r0 + Go.bits .and .i64 more 1023)), .int .i64 (wrap64 (r1 + Go.bits .and .i64 more 1023))] 23 (0, 0)) := ⟨_, rfl⟩
            rw [← hw9]
            have B14 := Aside0.mk (show w9.heap[w8.heap.size]? = some (.cells #[.int .i64 (wrap64 (r0 + Go.bits .and .i64 more 1023)), .int .i64 (wrap64 (r1 + Go.bits .and .i64 more 1023))] 23 (0, 0)) by rw [hw9]; exact blk_new _ _)
            have B3 := Aside0.mk (show w9.heap[w.heap.size]? = some (.cells #[.int .i64 r0, .int .i64 r1] 23 (0, 0)) by rw [hw9]; exact blk_alloc F3_.out _)
            have BW9 := Aside0.mk (show Below w.heap.size w w9 by rw [hw9]; exact below_alloc (below_step (below_step BB6.out HB_w7.out) HB_w8.out) _)
            have CB9 := Aside0.mk (show Kd.C k23 w9 Ab bk.length bk by rw [hw9]; exact Kd.C_alloc (Kd.C_below (Kd.C_below CB6.out HB_w7.out) HB_w8.out) _)
            clear hw9
            refine wp_region_pv [.val (.agg #[.int .i64 r0, .int .i64 r1]), .val (.slice Ab bk.length cb), .val (.int .i64 fj), .val (.bool true), .val (.bool true), .val (.bool true), .val (.bool true), .val (.bool true), .val (.bool false), .val (.bool false), .val (.agg #[.int .i64 (wrap64 (r0 + Go.bits .and .i64 more 1023)), .int .i64 (wrap64 (r1 + Go.bits .and .i64 more 1023))]), .val (.slice Ab bk.length cb), .val (.int .i64 fk), .val (.bool true), .val (.bool true), .val (.bool true), .val (.bool true), .val (.bool true), .val (.bool false), .val (.bool false), .val (.agg #[.int .i64 r0, .int .i64 r1]), .val (.slice A1 xs.length c1), .val (.agg #[.int .i64 p0, .int .i64 p1]), .val (.bool true), .val (.bool true), .val (.bool true), .val (.bool true)] rfl (by kernel_rfl) ?howesZ1 ?hendZ1
            case howesZ1 =>
              refine ⟨?_, ?_, ?_, ?_, ?_, ?_, ?_, ?_, ?_, ?_, ?_, ?_, ?_, ?_, ?_, ?_, ?_, ?_, ?_, ?_, ?_, ?_, ?_, ?_, ?_, ?_, ?_, trivial⟩
              · refine owes_pv0 (fun E vs a W_ hI hE hp => ?_)
                have e0 : a.eval (.tmp 3) = .pointer (some ⟨w.heap.size, 0, none⟩) := hI.outer (d := 3) (by rfl) rfl
                have hb := blk_below B3.out hI.world.2
                have q0 := (blk_cell hb 0).trans rfl
                have q1 := (blk_cell hb 1).trans rfl
                clear hb
                refine ⟨rfl, _, ?_, rfl⟩
                simp only [execOp, e0]
                go_simp
              · refine owes_pv0 (fun E vs a W_ hI hE hp => ?_)
                have e0 : a.eval (.tmp 7) = .slice Ab bk.length cb := hI.outer (d := 7) (by rfl) rfl
                refine ⟨rfl, _, ?_, rfl⟩
                simp only [execOp, e0]
                first
                | rfl
                | (go_simp; done)
                | (go_simp; simp; done)
              · refine owes_pvc (fun E vs a W_ hI hE hp => ?_)
                have e0 : a.eval (.tmp 90) = .agg #[.int .i64 r0, .int .i64 r1] := hI.pv 0 rfl rfl (pred_of hp 0 rfl) rfl
                have e1 : a.eval (.tmp 91) = .slice Ab bk.length cb := hI.pv 1 rfl rfl (pred_of hp 1 rfl) rfl
                refine ⟨rfl, 19, #[.agg #[.int .i64 r0, .int .i64 r1], .slice Ab bk.length cb], ?_, ?_⟩
                · simp only [execOp, resolve, List.map_toArray, List.map_cons, List.map_nil, e0, e1]
                  rfl
                · refine (load_First.calls r0 r1 Ab cb bk fj _ (Kd.C_below CB9.out hI.world.2) LB.out HG.out).mono ?_
                  rintro e W1_ ⟨rfl, hb⟩
                  exact ⟨_, rfl, hb, rfl⟩
              · refine owes_pv0 (fun E vs a W_ hI hE hp => ?_)
                have e0 : a.eval (.tmp 92) = .int .i64 fj := hI.pv 2 rfl rfl (pred_of hp 2 rfl) rfl
                refine ⟨rfl, _, ?_, rfl⟩
                simp only [execOp, e0]
                have hg_ := Hgb.out HJ.out
                first | (go_simp; done) | (go_simp; first | exact hg_ | simpa using hg_)
              · refine owes_pv0 (fun E vs a W_ hI hE hp => ?_)
                have e0 : a.eval (.tmp 13) = .bool true := hI.outer (d := 13) (by rfl) rfl
                refine ⟨rfl, _, ?_, rfl⟩
                simp only [execOp, e0]
                first
                | rfl
                | (go_simp; done)
                | (go_simp; simp; done)
              · refine owes_pv0 (fun E vs a W_ hI hE hp => ?_)
                have e0 : a.eval (.tmp 93) = .bool true := hI.pv 3 rfl rfl (pred_of hp 3 rfl) rfl
                have e1 : a.eval (.tmp 94) = .bool true := hI.pv 4 rfl rfl (pred_of hp 4 rfl) rfl
                refine ⟨rfl, _, ?_, rfl⟩
                simp only [execOp, e0, e1]
                first
                | rfl
                | (go_simp; done)
                | (go_simp; simp; done)
              · refine owes_pv0 (fun E vs a W_ hI hE hp => ?_)
                have e0 : a.eval (.tmp 95) = .bool true := hI.pv 5 rfl rfl (pred_of hp 5 rfl) rfl
                refine ⟨rfl, _, ?_, rfl⟩
                simp only [execOp, e0]
                first
                | rfl
                | (go_simp; done)
                | (go_simp; simp; done)
              · refine owes_pv0 (fun E vs a W_ hI hE hp => ?_)
                have e0 : a.eval (.tmp 13) = .bool true := hI.outer (d := 13) (by rfl) rfl
                refine ⟨wanted_of hI 6 rfl rfl rfl rfl (show a.eval (.tmp 96) = .bool true from hI.pv 6 rfl rfl (pred_of hp 6 rfl) rfl), _, ?_, rfl⟩
                simp only [execOp, e0]
                first
                | rfl
                | (go_simp; done)
                | (go_simp; simp; done)
              · refine owes_pv0 (fun E vs a W_ hI hE hp => ?_)
                have e0 : a.eval (.tmp 97) = .bool true := hI.pv 7 rfl rfl (pred_of hp 7 rfl) rfl
                refine ⟨wanted_of hI 6 rfl rfl rfl rfl (show a.eval (.tmp 96) = .bool true from hI.pv 6 rfl rfl (pred_of hp 6 rfl) rfl), _, ?_, rfl⟩
                simp only [execOp, e0]
                first
                | rfl
                | (go_simp; done)
                | (go_simp; simp; done)
              · refine owes_pv0 (fun E vs a W_ hI hE hp => ?_)
                have e0 : a.eval (.tmp 98) = .bool false := hI.pv 8 rfl rfl (pred_of hp 8 rfl) rfl
                refine ⟨wanted_of hI 6 rfl rfl rfl rfl (show a.eval (.tmp 96) = .bool true from hI.pv 6 rfl rfl (pred_of hp 6 rfl) rfl), _, ?_, rfl⟩
                simp only [execOp, e0]
                first
                | rfl
                | (go_simp; done)
                | (go_simp; simp; done)
              · refine owes_pv0 (fun E vs a W_ hI hE hp => ?_)
                have e0 : a.eval (.tmp 14) = .pointer (some ⟨w8.heap.size, 0, none⟩) := hI.outer (d := 14) (by rfl) rfl
                have hb := blk_below B14.out hI.world.2
                have q0 := (blk_cell hb 0).trans rfl
                have q1 := (blk_cell hb 1).trans rfl
                clear hb
                refine ⟨wanted_of hI 9 rfl rfl rfl rfl (show a.eval (.tmp 99) = .bool false from hI.pv 9 rfl rfl (pred_of hp 9 rfl) rfl), _, ?_, rfl⟩
                simp only [execOp, e0]
                go_simp
              · refine owes_pv0 (fun E vs a W_ hI hE hp => ?_)
                have e0 : a.eval (.tmp 7) = .slice Ab bk.length cb := hI.outer (d := 7) (by rfl) rfl
                refine ⟨wanted_of hI 9 rfl rfl rfl rfl (show a.eval (.tmp 99) = .bool false from hI.pv 9 rfl rfl (pred_of hp 9 rfl) rfl), _, ?_, rfl⟩
                simp only [execOp, e0]
                first
                | rfl
                | (go_simp; done)
                | (go_simp; simp; done)
              · refine owes_pvc (fun E vs a W_ hI hE hp => ?_)
                have e0 : a.eval (.tmp 100) = .agg #[.int .i64 (wrap64 (r0 + Go.bits .and .i64 more 1023)), .int .i64 (wrap64 (r1 + Go.bits .and .i64 more 1023))] := hI.pv 10 rfl rfl (pred_of hp 10 rfl) rfl
                have e1 : a.eval (.tmp 101) = .slice Ab bk.length cb := hI.pv 11 rfl rfl (pred_of hp 11 rfl) rfl
                refine ⟨wanted_of hI 9 rfl rfl rfl rfl (show a.eval (.tmp 99) = .bool false from hI.pv 9 rfl rfl (pred_of hp 9 rfl) rfl), 19, #[.agg #[.int .i64 (wrap64 (r0 + Go.bits .and .i64 more 1023)), .int .i64 (wrap64 (r1 + Go.bits .and .i64 more 1023))], .slice Ab bk.length cb], ?_, ?_⟩
                · simp only [execOp, resolve, List.map_toArray, List.map_cons, List.map_nil, e0, e1]
                  rfl
                · refine (load_First.calls (wrap64 (r0 + Go.bits .and .i64 more 1023)) (wrap64 (r1 + Go.bits .and .i64 more 1023)) Ab cb bk fk _ (Kd.C_below CB9.out hI.world.2) LB.out HH.out).mono ?_
                  rintro e W1_ ⟨rfl, hb⟩
                  exact ⟨_, rfl, hb, rfl⟩
              · refine owes_pv0 (fun E vs a W_ hI hE hp => ?_)
                have e0 : a.eval (.tmp 102) = .int .i64 fk := hI.pv 12 rfl rfl (pred_of hp 12 rfl) rfl
                refine ⟨wanted_of hI 9 rfl rfl rfl rfl (show a.eval (.tmp 99) = .bool false from hI.pv 9 rfl rfl (pred_of hp 9 rfl) rfl), _, ?_, rfl⟩
                simp only [execOp, e0]
                have hg_ := Hkb.out HJ.out
                first | (go_simp; done) | (go_simp; first | exact hg_ | simpa using hg_)
              · refine owes_pv0 (fun E vs a W_ hI hE hp => ?_)
                have e0 : a.eval (.tmp 99) = .bool false := hI.pv 9 rfl rfl (pred_of hp 9 rfl) rfl
                have e1 : a.eval (.tmp 103) = .bool true := hI.pv 13 rfl rfl (pred_of hp 13 rfl) rfl
                refine ⟨wanted_of hI 6 rfl rfl rfl rfl (show a.eval (.tmp 96) = .bool true from hI.pv 6 rfl rfl (pred_of hp 6 rfl) rfl), _, ?_, rfl⟩
                simp only [execOp, e0, e1]
                first
                | rfl
                | (go_simp; done)
                | (go_simp; simp; done)
              · refine owes_pv0 (fun E vs a W_ hI hE hp => ?_)
                have e0 : a.eval (.tmp 96) = .bool true := hI.pv 6 rfl rfl (pred_of hp 6 rfl) rfl
                have e1 : a.eval (.tmp 104) = .bool true := hI.pv 14 rfl rfl (pred_of hp 14 rfl) rfl
                refine ⟨rfl, _, ?_, rfl⟩
                simp only [execOp, e0, e1]
                first
                | rfl
                | (go_simp; done)
                | (go_simp; simp; done)
              · refine owes_pv0 (fun E vs a W_ hI hE hp => ?_)
                have e0 : a.eval (.tmp 105) = .bool true := hI.pv 15 rfl rfl (pred_of hp 15 rfl) rfl
                refine ⟨rfl, _, ?_, rfl⟩
                simp only [execOp, e0]
                first
                | rfl
                | (go_simp; done)
                | (go_simp; simp; done)
              · refine owes_pv0 (fun E vs a W_ hI hE hp => ?_)
                have e0 : a.eval (.tmp 13) = .bool true := hI.outer (d := 13) (by rfl) rfl
                refine ⟨wanted_of hI 16 rfl rfl rfl rfl (show a.eval (.tmp 106) = .bool true from hI.pv 16 rfl rfl (pred_of hp 16 rfl) rfl), _, ?_, rfl⟩
                simp only [execOp, e0]
                first
                | rfl
                | (go_simp; done)
                | (go_simp; simp; done)
              · refine owes_pv0 (fun E vs a W_ hI hE hp => ?_)
                have e0 : a.eval (.tmp 107) = .bool true := hI.pv 17 rfl rfl (pred_of hp 17 rfl) rfl
                refine ⟨wanted_of hI 16 rfl rfl rfl rfl (show a.eval (.tmp 106) = .bool true from hI.pv 16 rfl rfl (pred_of hp 16 rfl) rfl), _, ?_, rfl⟩
                simp only [execOp, e0]
                first
                | rfl
                | (go_simp; done)
                | (go_simp; simp; done)
              · refine owes_pv0 (fun E vs a W_ hI hE hp => ?_)
                have e0 : a.eval (.tmp 108) = .bool false := hI.pv 18 rfl rfl (pred_of hp 18 rfl) rfl
                refine ⟨wanted_of hI 16 rfl rfl rfl rfl (show a.eval (.tmp 106) = .bool true from hI.pv 16 rfl rfl (pred_of hp 16 rfl) rfl), _, ?_, rfl⟩
                simp only [execOp, e0]
                first
                | rfl
                | (go_simp; done)
                | (go_simp; simp; done)
              · refine owes_pv0 (fun E vs a W_ hI hE hp => ?_)
                have e0 : a.eval (.tmp 3) = .pointer (some ⟨w.heap.size, 0, none⟩) := hI.outer (d := 3) (by rfl) rfl
                have hb := blk_below B3.out hI.world.2
                have q0 := (blk_cell hb 0).trans rfl
                have q1 := (blk_cell hb 1).trans rfl
                clear hb
                refine ⟨wanted_of hI 19 rfl rfl rfl rfl (show a.eval (.tmp 109) = .bool false from hI.pv 19 rfl rfl (pred_of hp 19 rfl) rfl), _, ?_, rfl⟩
                simp only [execOp, e0]
                go_simp
              · refine owes_pv0 (fun E vs a W_ hI hE hp => ?_)
                have e0 : a.eval (.tmp 1) = .slice A1 xs.length c1 := hI.outer (d := 1) (by rfl) rfl
                refine ⟨wanted_of hI 19 rfl rfl rfl rfl (show a.eval (.tmp 109) = .bool false from hI.pv 19 rfl rfl (pred_of hp 19 rfl) rfl), _, ?_, rfl⟩
                simp only [execOp, e0]
                first
                | rfl
                | (go_simp; done)
                | (go_simp; simp; done)
              · refine owes_pvc (fun E vs a W_ hI hE hp => ?_)
                have e0 : a.eval (.tmp 111) = .slice A1 xs.length c1 := hI.pv 21 rfl rfl (pred_of hp 21 rfl) rfl
                refine ⟨wanted_of hI 19 rfl rfl rfl rfl (show a.eval (.tmp 109) = .bool false from hI.pv 19 rfl rfl (pred_of hp 19 rfl) rfl), 21, #[.slice A1 xs.length c1], ?_, ?_⟩
                · simp only [execOp, resolve, List.map_toArray, List.map_cons, List.map_nil, e0]
                  rfl
                · refine (load_Peak.calls k A1 c1 xs p0 p1 _ (Kd.C_below HR.out (below_step BW9.out hI.world.2)) HC.out HK.out).mono ?_
                  rintro e W1_ ⟨rfl, hb⟩
                  exact ⟨_, rfl, hb, rfl⟩
              · refine owes_pvc (fun E vs a W_ hI hE hp => ?_)
                have e0 : a.eval (.tmp 110) = .agg #[.int .i64 r0, .int .i64 r1] := hI.pv 20 rfl rfl (pred_of hp 20 rfl) rfl
                have e1 : a.eval (.tmp 112) = .agg #[.int .i64 p0, .int .i64 p1] := hI.pv 22 rfl rfl (pred_of hp 22 rfl) rfl
                refine ⟨wanted_of hI 19 rfl rfl rfl rfl (show a.eval (.tmp 109) = .bool false from hI.pv 19 rfl rfl (pred_of hp 19 rfl) rfl), 15, #[.agg #[.int .i64 r0, .int .i64 r1], .agg #[.int .i64 p0, .int .i64 p1]], ?_, ?_⟩
                · simp only [execOp, resolve, List.map_toArray, List.map_cons, List.map_nil, e0, e1]
                  rfl
                · refine (load_Fits.calls r0 r1 p0 p1 true _ (HL.out HJ.out)).mono ?_
                  rintro e W1_ ⟨rfl, hb⟩
                  exact ⟨_, rfl, hb, rfl⟩
              · refine owes_pv0 (fun E vs a W_ hI hE hp => ?_)
                have e0 : a.eval (.tmp 109) = .bool false := hI.pv 19 rfl rfl (pred_of hp 19 rfl) rfl
                have e1 : a.eval (.tmp 113) = .bool true := hI.pv 23 rfl rfl (pred_of hp 23 rfl) rfl
                refine ⟨wanted_of hI 16 rfl rfl rfl rfl (show a.eval (.tmp 106) = .bool true from hI.pv 16 rfl rfl (pred_of hp 16 rfl) rfl), _, ?_, rfl⟩
                simp only [execOp, e0, e1]
                first
                | rfl
                | (go_simp; done)
                | (go_simp; simp; done)
              · refine owes_pv0 (fun E vs a W_ hI hE hp => ?_)
                have e0 : a.eval (.tmp 106) = .bool true := hI.pv 16 rfl rfl (pred_of hp 16 rfl) rfl
                have e1 : a.eval (.tmp 114) = .bool true := hI.pv 24 rfl rfl (pred_of hp 24 rfl) rfl
                refine ⟨rfl, _, ?_, rfl⟩
                simp only [execOp, e0, e1]
                first
                | rfl
                | (go_simp; done)
                | (go_simp; simp; done)
              · refine owes_pv0 (fun E vs a W_ hI hE hp => ?_)
                have e0 : a.eval (.tmp 115) = .bool true := hI.pv 25 rfl rfl (pred_of hp 25 rfl) rfl
                refine ⟨rfl, _, ?_, rfl⟩
                simp only [execOp, e0]
                first
                | rfl
                | (go_simp; done)
                | (go_simp; simp; done)
            case hendZ1 =>
              intro E vs a W hI hall
              have e1 : a.tmps.getD 6 undef = .bool true := hI.pv 26 rfl rfl (hall 26 (by decide)) rfl
              have e2 : a.defers = [] := hI.defers
              have hb := hI.world.2
              clear hI hall
              go_wp2
              refine bodyPost_ret (v := .bool true) ((results_tmp (t := 6) rfl _ _ _).trans (by rw [e1])) e2 ⟨rfl, below_step BW9.out hb⟩
          · skip
            have hp0 : 0 < ps.length := by have := Hpl.out; omega
            have hpb : ps.length ≤ 120 := by have := Hpl.out; have := HN.out; omega
            have hp1 : decide ((0 : Int) < (ps.length : Int)) = true := by simp; omega
            have hqz : rd_T23 ps ((ps.length - 1 : Nat) : Int) = ⟨0, 0⟩ := by have h := Hpz.out HJ.out (by omega); have e := Hpl.out; rw [← e] at h; exact h
            have QZ := Aside0.mk hqz
            clear hqz hn
            have hfb := Hfb.out
            go_wp2_with (first | (go_at_call 17; (with_reducible refine (load_Profile.calls k Ab cb bk ps true _ CB.out LB.out HPx.out).mono ?_); rintro e w6 ⟨v0, rfl, hR, hb⟩; obtain ⟨Ap, cp, rfl, hCp, hAp⟩ := own_reads_base (w := w) hR; have CP := Aside0.mk hCp; have CB6 := Aside0.mk (Kd.C_below CB.out hb); have BB6 := Aside0.mk (below_step BB2.out hb); obtain ⟨adp, ep, y0, y1⟩ := at_T23 hCp ((ps.length - 1 : Nat) : Int) (by omega) (by omega); cases ep; rw [QZ.out] at y0 y1; simp only [Int.toNat_natCast] at y0 y1; clear hR hCp hAp; have b1_ := blk_below (g := w.heap.size) (o := .cells #[.int .i64 r0, .int .i64 r1] 23 (0, 0)) (by (with_reducible repeat (first | refine blk_drewN ?_ _ | refine blk_drew ?_ | refine blk_alloc ?_ _)); exact BX2.out) hb; have F1_ := Aside0.mk b1_; have cb1_0 := (blk_cell b1_ 0).trans rfl; have zb1_0 := blk_frozen b1_ 0; have cb1_1 := (blk_cell b1_ 1).trans rfl; have zb1_1 := blk_frozen b1_ 1; have lb1_ := blk_lt b1_; clear b1_; clear hb) | (go_at_call 19; (with_reducible refine (load_First.calls r0 r1 A1 c1 xs fi _ (Kd.C_below HR.out BB6.out) HC.out HF.out).mono ?_); rintro e w7 ⟨rfl, hb⟩; clear cb1_0 zb1_0 cb1_1 zb1_1 lb1_; have b2_ := blk_below (g := w.heap.size) (o := .cells #[.int .i64 r0, .int .i64 r1] 23 (0, 0)) (by (with_reducible repeat (first | refine blk_drewN ?_ _ | refine blk_drew ?_ | refine blk_alloc ?_ _)); exact F1_.out) hb; have HB_w7 := Aside0.mk hb; have F2_ := Aside0.mk b2_; have cb2_0 := (blk_cell b2_ 0).trans rfl; have zb2_0 := blk_frozen b2_ 0; have cb2_1 := (blk_cell b2_ 1).trans rfl; have zb2_1 := blk_frozen b2_ 1; have lb2_ := blk_lt b2_; clear b2_; clear hb) | (go_at_call 13; (with_reducible refine (load_Right.calls r0 r1 true _ HRr.out).mono ?_); rintro e w8 ⟨rfl, hb⟩; clear cb2_0 zb2_0 cb2_1 zb2_1 lb2_; have b3_ := blk_below (g := w.heap.size) (o := .cells #[.int .i64 r0, .int .i64 r1] 23 (0, 0)) (by (with_reducible repeat (first | refine blk_drewN ?_ _ | refine blk_drew ?_ | refine blk_alloc ?_ _)); exact F2_.out) hb; have HB_w8 := Aside0.mk hb; have F3_ := Aside0.mk b3_; have cb3_0 := (blk_cell b3_ 0).trans rfl; have zb3_0 := blk_frozen b3_ 0; have cb3_1 := (blk_cell b3_ 1).trans rfl; have zb3_1 := blk_frozen b3_ 1; have lb3_ := blk_lt b3_; clear b3_; clear hb))
            clear cb3_0 zb3_0 cb3_1 zb3_1 lb3_
            obtain ⟨w9, hw9⟩ : ∃ w9, w9 = w8.alloc (.cells #[.int .i64 (wrap64 (r0 + Go.bits .and .i64 more 1023)), .int .i64 (wrap64 (r1 + Go.bits .and .i64 more 1023))] 23 (0, 0)) := ⟨_, rfl⟩
            rw [← hw9]
            have B14 := Aside0.mk (show w9.heap[w8.heap.size]? = some (.cells #[.int .i64 (wrap64 (r0 + Go.bits .and .i64 more 1023)), .int .i64 (wrap64 (r1 + Go.bits .and .i64 more 1023))] 23 (0, 0)) by rw [hw9]; exact blk_new _ _)
            have B3 := Aside0.mk (show w9.heap[w.heap.size]? = some (.cells #[.int .i64 r0, .int .i64 r1] 23 (0, 0)) by rw [hw9]; exact blk_alloc F3_.out _)
            have BW9 := Aside0.mk (show Below w.heap.size w w9 by rw [hw9]; exact below_alloc (below_step (below_step BB6.out HB_w7.out) HB_w8.out) _)
            have CB9 := Aside0.mk (show Kd.C k23 w9 Ab bk.length bk by rw [hw9]; exact Kd.C_alloc (Kd.C_below (Kd.C_below CB6.out HB_w7.out) HB_w8.out) _)
            clear hw9
            refine wp_region_pv [.val (.agg #[.int .i64 r0, .int .i64 r1]), .val (.slice Ab bk.length cb), .val (.int .i64 fj), .val (.bool true), .val (.bool true), .val (.bool true), .val (.bool true), .val (.bool true), .val (.bool false), .val (.bool false), .val (.agg #[.int .i64 (wrap64 (r0 + Go.bits .and .i64 more 1023)), .int .i64 (wrap64 (r1 + Go.bits .and .i64 more 1023))]), .val (.slice Ab bk.length cb), .val (.int .i64 fk), .val (.bool true), .val (.bool true), .val (.bool true), .val (.bool true), .val (.bool true), .val (.bool false), .val (.bool false), .val (.agg #[.int .i64 r0, .int .i64 r1]), .val (.slice A1 xs.length c1), .val (.agg #[.int .i64 p0, .int .i64 p1]), .val (.bool true), .val (.bool true), .val (.bool true), .val (.bool true)] rfl (by kernel_rfl) ?howesZ0 ?hendZ0
            case howesZ0 =>
              refine ⟨?_, ?_, ?_, ?_, ?_, ?_, ?_, ?_, ?_, ?_, ?_, ?_, ?_, ?_, ?_, ?_, ?_, ?_, ?_, ?_, ?_, ?_, ?_, ?_, ?_, ?_, ?_, trivial⟩
              · refine owes_pv0 (fun E vs a W_ hI hE hp => ?_)
                have e0 : a.eval (.tmp 3) = .pointer (some ⟨w.heap.size, 0, none⟩) := hI.outer (d := 3) (by rfl) rfl
                have hb := blk_below B3.out hI.world.2
                have q0 := (blk_cell hb 0).trans rfl
                have q1 := (blk_cell hb 1).trans rfl
                clear hb
                refine ⟨rfl, _, ?_, rfl⟩
                simp only [execOp, e0]
                go_simp
              · refine owes_pv0 (fun E vs a W_ hI hE hp => ?_)
                have e0 : a.eval (.tmp 7) = .slice Ab bk.length cb := hI.outer (d := 7) (by rfl) rfl
                refine ⟨rfl, _, ?_, rfl⟩
                simp only [execOp, e0]
                first
                | rfl
                | (go_simp; done)
                | (go_simp; simp; done)
              · refine owes_pvc (fun E vs a W_ hI hE hp => ?_)
                have e0 : a.eval (.tmp 90) = .agg #[.int .i64 r0, .int .i64 r1] := hI.pv 0 rfl rfl (pred_of hp 0 rfl) rfl
                have e1 : a.eval (.tmp 91) = .slice Ab bk.length cb := hI.pv 1 rfl rfl (pred_of hp 1 rfl) rfl
                refine ⟨rfl, 19, #[.agg #[.int .i64 r0, .int .i64 r1], .slice Ab bk.length cb], ?_, ?_⟩
                · simp only [execOp, resolve, List.map_toArray, List.map_cons, List.map_nil, e0, e1]
                  rfl
                · refine (load_First.calls r0 r1 Ab cb bk fj _ (Kd.C_below CB9.out hI.world.2) LB.out HG.out).mono ?_
                  rintro e W1_ ⟨rfl, hb⟩
                  exact ⟨_, rfl, hb, rfl⟩
              · refine owes_pv0 (fun E vs a W_ hI hE hp => ?_)
                have e0 : a.eval (.tmp 92) = .int .i64 fj := hI.pv 2 rfl rfl (pred_of hp 2 rfl) rfl
                refine ⟨rfl, _, ?_, rfl⟩
                simp only [execOp, e0]
                have hg_ := Hgb.out HJ.out
                first | (go_simp; done) | (go_simp; first | exact hg_ | simpa using hg_)
              · refine owes_pv0 (fun E vs a W_ hI hE hp => ?_)
                have e0 : a.eval (.tmp 13) = .bool true := hI.outer (d := 13) (by rfl) rfl
                refine ⟨rfl, _, ?_, rfl⟩
                simp only [execOp, e0]
                first
                | rfl
                | (go_simp; done)
                | (go_simp; simp; done)
              · refine owes_pv0 (fun E vs a W_ hI hE hp => ?_)
                have e0 : a.eval (.tmp 93) = .bool true := hI.pv 3 rfl rfl (pred_of hp 3 rfl) rfl
                have e1 : a.eval (.tmp 94) = .bool true := hI.pv 4 rfl rfl (pred_of hp 4 rfl) rfl
                refine ⟨rfl, _, ?_, rfl⟩
                simp only [execOp, e0, e1]
                first
                | rfl
                | (go_simp; done)
                | (go_simp; simp; done)
              · refine owes_pv0 (fun E vs a W_ hI hE hp => ?_)
                have e0 : a.eval (.tmp 95) = .bool true := hI.pv 5 rfl rfl (pred_of hp 5 rfl) rfl
                refine ⟨rfl, _, ?_, rfl⟩
                simp only [execOp, e0]
                first
                | rfl
                | (go_simp; done)
                | (go_simp; simp; done)
              · refine owes_pv0 (fun E vs a W_ hI hE hp => ?_)
                have e0 : a.eval (.tmp 13) = .bool true := hI.outer (d := 13) (by rfl) rfl
                refine ⟨wanted_of hI 6 rfl rfl rfl rfl (show a.eval (.tmp 96) = .bool true from hI.pv 6 rfl rfl (pred_of hp 6 rfl) rfl), _, ?_, rfl⟩
                simp only [execOp, e0]
                first
                | rfl
                | (go_simp; done)
                | (go_simp; simp; done)
              · refine owes_pv0 (fun E vs a W_ hI hE hp => ?_)
                have e0 : a.eval (.tmp 97) = .bool true := hI.pv 7 rfl rfl (pred_of hp 7 rfl) rfl
                refine ⟨wanted_of hI 6 rfl rfl rfl rfl (show a.eval (.tmp 96) = .bool true from hI.pv 6 rfl rfl (pred_of hp 6 rfl) rfl), _, ?_, rfl⟩
                simp only [execOp, e0]
                first
                | rfl
                | (go_simp; done)
                | (go_simp; simp; done)
              · refine owes_pv0 (fun E vs a W_ hI hE hp => ?_)
                have e0 : a.eval (.tmp 98) = .bool false := hI.pv 8 rfl rfl (pred_of hp 8 rfl) rfl
                refine ⟨wanted_of hI 6 rfl rfl rfl rfl (show a.eval (.tmp 96) = .bool true from hI.pv 6 rfl rfl (pred_of hp 6 rfl) rfl), _, ?_, rfl⟩
                simp only [execOp, e0]
                first
                | rfl
                | (go_simp; done)
                | (go_simp; simp; done)
              · refine owes_pv0 (fun E vs a W_ hI hE hp => ?_)
                have e0 : a.eval (.tmp 14) = .pointer (some ⟨w8.heap.size, 0, none⟩) := hI.outer (d := 14) (by rfl) rfl
                have hb := blk_below B14.out hI.world.2
                have q0 := (blk_cell hb 0).trans rfl
                have q1 := (blk_cell hb 1).trans rfl
                clear hb
                refine ⟨wanted_of hI 9 rfl rfl rfl rfl (show a.eval (.tmp 99) = .bool false from hI.pv 9 rfl rfl (pred_of hp 9 rfl) rfl), _, ?_, rfl⟩
                simp only [execOp, e0]
                go_simp
              · refine owes_pv0 (fun E vs a W_ hI hE hp => ?_)
                have e0 : a.eval (.tmp 7) = .slice Ab bk.length cb := hI.outer (d := 7) (by rfl) rfl
                refine ⟨wanted_of hI 9 rfl rfl rfl rfl (show a.eval (.tmp 99) = .bool false from hI.pv 9 rfl rfl (pred_of hp 9 rfl) rfl), _, ?_, rfl⟩
                simp only [execOp, e0]
                first
                | rfl
                | (go_simp; done)
                | (go_simp; simp; done)
              · refine owes_pvc (fun E vs a W_ hI hE hp => ?_)
                have e0 : a.eval (.tmp 100) = .agg #[.int .i64 (wrap64 (r0 + Go.bits .and .i64 more 1023)), .int .i64 (wrap64 (r1 + Go.bits .and .i64 more 1023))] := hI.pv 10 rfl rfl (pred_of hp 10 rfl) rfl
                have e1 : a.eval (.tmp 101) = .slice Ab bk.length cb := hI.pv 11 rfl rfl (pred_of hp 11 rfl) rfl
                refine ⟨wanted_of hI 9 rfl rfl rfl rfl (show a.eval (.tmp 99) = .bool false from hI.pv 9 rfl rfl (pred_of hp 9 rfl) rfl), 19, #[.agg #[.int .i64 (wrap64 (r0 + Go.bits .and .i64 more 1023)), .int .i64 (wrap64 (r1 + Go.bits .and .i64 more 1023))], .slice Ab bk.length cb], ?_, ?_⟩
                · simp only [execOp, resolve, List.map_toArray, List.map_cons, List.map_nil, e0, e1]
                  rfl
                · refine (load_First.calls (wrap64 (r0 + Go.bits .and .i64 more 1023)) (wrap64 (r1 + Go.bits .and .i64 more 1023)) Ab cb bk fk _ (Kd.C_below CB9.out hI.world.2) LB.out HH.out).mono ?_
                  rintro e W1_ ⟨rfl, hb⟩
                  exact ⟨_, rfl, hb, rfl⟩
              · refine owes_pv0 (fun E vs a W_ hI hE hp => ?_)
                have e0 : a.eval (.tmp 102) = .int .i64 fk := hI.pv 12 rfl rfl (pred_of hp 12 rfl) rfl
                refine ⟨wanted_of hI 9 rfl rfl rfl rfl (show a.eval (.tmp 99) = .bool false from hI.pv 9 rfl rfl (pred_of hp 9 rfl) rfl), _, ?_, rfl⟩
                simp only [execOp, e0]
                have hg_ := Hkb.out HJ.out
                first | (go_simp; done) | (go_simp; first | exact hg_ | simpa using hg_)
              · refine owes_pv0 (fun E vs a W_ hI hE hp => ?_)
                have e0 : a.eval (.tmp 99) = .bool false := hI.pv 9 rfl rfl (pred_of hp 9 rfl) rfl
                have e1 : a.eval (.tmp 103) = .bool true := hI.pv 13 rfl rfl (pred_of hp 13 rfl) rfl
                refine ⟨wanted_of hI 6 rfl rfl rfl rfl (show a.eval (.tmp 96) = .bool true from hI.pv 6 rfl rfl (pred_of hp 6 rfl) rfl), _, ?_, rfl⟩
                simp only [execOp, e0, e1]
                first
                | rfl
                | (go_simp; done)
                | (go_simp; simp; done)
              · refine owes_pv0 (fun E vs a W_ hI hE hp => ?_)
                have e0 : a.eval (.tmp 96) = .bool true := hI.pv 6 rfl rfl (pred_of hp 6 rfl) rfl
                have e1 : a.eval (.tmp 104) = .bool true := hI.pv 14 rfl rfl (pred_of hp 14 rfl) rfl
                refine ⟨rfl, _, ?_, rfl⟩
                simp only [execOp, e0, e1]
                first
                | rfl
                | (go_simp; done)
                | (go_simp; simp; done)
              · refine owes_pv0 (fun E vs a W_ hI hE hp => ?_)
                have e0 : a.eval (.tmp 105) = .bool true := hI.pv 15 rfl rfl (pred_of hp 15 rfl) rfl
                refine ⟨rfl, _, ?_, rfl⟩
                simp only [execOp, e0]
                first
                | rfl
                | (go_simp; done)
                | (go_simp; simp; done)
              · refine owes_pv0 (fun E vs a W_ hI hE hp => ?_)
                have e0 : a.eval (.tmp 13) = .bool true := hI.outer (d := 13) (by rfl) rfl
                refine ⟨wanted_of hI 16 rfl rfl rfl rfl (show a.eval (.tmp 106) = .bool true from hI.pv 16 rfl rfl (pred_of hp 16 rfl) rfl), _, ?_, rfl⟩
                simp only [execOp, e0]
                first
                | rfl
                | (go_simp; done)
                | (go_simp; simp; done)
              · refine owes_pv0 (fun E vs a W_ hI hE hp => ?_)
                have e0 : a.eval (.tmp 107) = .bool true := hI.pv 17 rfl rfl (pred_of hp 17 rfl) rfl
                refine ⟨wanted_of hI 16 rfl rfl rfl rfl (show a.eval (.tmp 106) = .bool true from hI.pv 16 rfl rfl (pred_of hp 16 rfl) rfl), _, ?_, rfl⟩
                simp only [execOp, e0]
                first
                | rfl
                | (go_simp; done)
                | (go_simp; simp; done)
              · refine owes_pv0 (fun E vs a W_ hI hE hp => ?_)
                have e0 : a.eval (.tmp 108) = .bool false := hI.pv 18 rfl rfl (pred_of hp 18 rfl) rfl
                refine ⟨wanted_of hI 16 rfl rfl rfl rfl (show a.eval (.tmp 106) = .bool true from hI.pv 16 rfl rfl (pred_of hp 16 rfl) rfl), _, ?_, rfl⟩
                simp only [execOp, e0]
                first
                | rfl
                | (go_simp; done)
                | (go_simp; simp; done)
              · refine owes_pv0 (fun E vs a W_ hI hE hp => ?_)
                have e0 : a.eval (.tmp 3) = .pointer (some ⟨w.heap.size, 0, none⟩) := hI.outer (d := 3) (by rfl) rfl
                have hb := blk_below B3.out hI.world.2
                have q0 := (blk_cell hb 0).trans rfl
                have q1 := (blk_cell hb 1).trans rfl
                clear hb
                refine ⟨wanted_of hI 19 rfl rfl rfl rfl (show a.eval (.tmp 109) = .bool false from hI.pv 19 rfl rfl (pred_of hp 19 rfl) rfl), _, ?_, rfl⟩
                simp only [execOp, e0]
                go_simp
              · refine owes_pv0 (fun E vs a W_ hI hE hp => ?_)
                have e0 : a.eval (.tmp 1) = .slice A1 xs.length c1 := hI.outer (d := 1) (by rfl) rfl
                refine ⟨wanted_of hI 19 rfl rfl rfl rfl (show a.eval (.tmp 109) = .bool false from hI.pv 19 rfl rfl (pred_of hp 19 rfl) rfl), _, ?_, rfl⟩
                simp only [execOp, e0]
                first
                | rfl
                | (go_simp; done)
                | (go_simp; simp; done)
              · refine owes_pvc (fun E vs a W_ hI hE hp => ?_)
                have e0 : a.eval (.tmp 111) = .slice A1 xs.length c1 := hI.pv 21 rfl rfl (pred_of hp 21 rfl) rfl
                refine ⟨wanted_of hI 19 rfl rfl rfl rfl (show a.eval (.tmp 109) = .bool false from hI.pv 19 rfl rfl (pred_of hp 19 rfl) rfl), 21, #[.slice A1 xs.length c1], ?_, ?_⟩
                · simp only [execOp, resolve, List.map_toArray, List.map_cons, List.map_nil, e0]
                  rfl
                · refine (load_Peak.calls k A1 c1 xs p0 p1 _ (Kd.C_below HR.out (below_step BW9.out hI.world.2)) HC.out HK.out).mono ?_
                  rintro e W1_ ⟨rfl, hb⟩
                  exact ⟨_, rfl, hb, rfl⟩
              · refine owes_pvc (fun E vs a W_ hI hE hp => ?_)
                have e0 : a.eval (.tmp 110) = .agg #[.int .i64 r0, .int .i64 r1] := hI.pv 20 rfl rfl (pred_of hp 20 rfl) rfl
                have e1 : a.eval (.tmp 112) = .agg #[.int .i64 p0, .int .i64 p1] := hI.pv 22 rfl rfl (pred_of hp 22 rfl) rfl
                refine ⟨wanted_of hI 19 rfl rfl rfl rfl (show a.eval (.tmp 109) = .bool false from hI.pv 19 rfl rfl (pred_of hp 19 rfl) rfl), 15, #[.agg #[.int .i64 r0, .int .i64 r1], .agg #[.int .i64 p0, .int .i64 p1]], ?_, ?_⟩
                · simp only [execOp, resolve, List.map_toArray, List.map_cons, List.map_nil, e0, e1]
                  rfl
                · refine (load_Fits.calls r0 r1 p0 p1 true _ (HL.out HJ.out)).mono ?_
                  rintro e W1_ ⟨rfl, hb⟩
                  exact ⟨_, rfl, hb, rfl⟩
              · refine owes_pv0 (fun E vs a W_ hI hE hp => ?_)
                have e0 : a.eval (.tmp 109) = .bool false := hI.pv 19 rfl rfl (pred_of hp 19 rfl) rfl
                have e1 : a.eval (.tmp 113) = .bool true := hI.pv 23 rfl rfl (pred_of hp 23 rfl) rfl
                refine ⟨wanted_of hI 16 rfl rfl rfl rfl (show a.eval (.tmp 106) = .bool true from hI.pv 16 rfl rfl (pred_of hp 16 rfl) rfl), _, ?_, rfl⟩
                simp only [execOp, e0, e1]
                first
                | rfl
                | (go_simp; done)
                | (go_simp; simp; done)
              · refine owes_pv0 (fun E vs a W_ hI hE hp => ?_)
                have e0 : a.eval (.tmp 106) = .bool true := hI.pv 16 rfl rfl (pred_of hp 16 rfl) rfl
                have e1 : a.eval (.tmp 114) = .bool true := hI.pv 24 rfl rfl (pred_of hp 24 rfl) rfl
                refine ⟨rfl, _, ?_, rfl⟩
                simp only [execOp, e0, e1]
                first
                | rfl
                | (go_simp; done)
                | (go_simp; simp; done)
              · refine owes_pv0 (fun E vs a W_ hI hE hp => ?_)
                have e0 : a.eval (.tmp 115) = .bool true := hI.pv 25 rfl rfl (pred_of hp 25 rfl) rfl
                refine ⟨rfl, _, ?_, rfl⟩
                simp only [execOp, e0]
                first
                | rfl
                | (go_simp; done)
                | (go_simp; simp; done)
            case hendZ0 =>
              intro E vs a W hI hall
              have e1 : a.tmps.getD 6 undef = .bool true := hI.pv 26 rfl rfl (hall 26 (by decide)) rfl
              have e2 : a.defers = [] := hI.defers
              have hb := hI.world.2
              clear hI hall
              go_wp2
              refine bodyPost_ret (v := .bool true) ((results_tmp (t := 6) rfl _ _ _).trans (by rw [e1])) e2 ⟨rfl, below_step BW9.out hb⟩

set_option maxHeartbeats 8000000 in
set_option maxRecDepth 100000 in
theorem loadBack_walk01 (k : Nat) (r0 r1 more : Int) (bk : List S23) (A1 : Option Addr) (c1 : Nat) (xs ps : List S23) (fi fj fk p0 p1 : Int) (w : World) (hr : Kd.C k23 w A1 xs.length xs) (hc : xs.length ≤ c1) (hlen : xs.length ≤ 60) (hbk : bk = xs ++ backTail xs 0)
    (hP : (∀ j, j < xs.length → rightB (rd_T23 xs j) = true) → load_Profile.f k bk = some (ps, true)) (hpl : ps.length = 2 * xs.length) (hpz : (∀ j, j < xs.length → rightB (rd_T23 xs j) = true) → 0 < xs.length → rd_T23 ps (2 * xs.length - 1 : Nat) = ⟨0, 0⟩)
    (hF : load_First.f r0 r1 xs = some fi) (hfb : decide (fi < 0) = false) (hRr : load_Right.f r0 r1 = some true)
    (hG : load_First.f r0 r1 bk = some fj) (hgb : (∀ j, j < xs.length → rightB (rd_T23 xs j) = true) → decide (fj < 0) = false) :
    Calls Try.prog 5 #[.agg #[.int .i64 r0, .int .i64 r1], .slice A1 xs.length c1, .int .i64 more] w fun e w' => e = .returned (.bool true) ∧ Below w.heap.size w w' := by
  have hu23 := Try.underlying23
  have HR := Aside0.mk hr
  have HC := Aside0.mk hc
  have h1 : decide ((60 : Int) < (xs.length : Int)) = false := by simp; omega
  have HN := Aside0.mk hlen
  have Hbk := Aside0.mk hbk
  have HP := Aside0.mk hP
  have Hpl := Aside0.mk hpl
  have Hpz := Aside0.mk hpz
  have HF := Aside0.mk hF
  have Hfb := Aside0.mk hfb
  have HRr := Aside0.mk hRr
  have HG := Aside0.mk hG
  have Hgb := Aside0.mk hgb
  clear hr hc hlen hbk hP hpl hpz hF hfb hRr hG hgb
  go_enter Try.func5, Try.ntmps5
  go_wp2_with (first | (go_at_call 8; (with_reducible refine (jitneylaw04_alive.calls true _ rfl).mono ?_); rintro e w0 ⟨rfl, hb⟩; have b1_ := blk_below (g := w.heap.size) (o := .cells #[.int .i64 r0, .int .i64 r1] 23 (0, 0)) (blk_new w _) hb; have HB_w0 := Aside0.mk hb; have F1_ := Aside0.mk b1_; have cb1_0 := (blk_cell b1_ 0).trans rfl; have zb1_0 := blk_frozen b1_ 0; have cb1_1 := (blk_cell b1_ 1).trans rfl; have zb1_1 := blk_frozen b1_ 1; have lb1_ := blk_lt b1_; clear b1_; clear hb))
  clear cb1_0 zb1_0 cb1_1 zb1_1 lb1_
  have BW := Aside0.mk (below_step (below_alloc (Below.refl _ _) _) HB_w0.out)
  obtain ⟨w1, hw1⟩ : ∃ w1, w1 = w0.alloc (.cells #[] 23 (0, 0)) := ⟨_, rfl⟩
  rw [← hw1]
  have R0 := Aside0.mk (show Kd.R k23 23 w1 w.heap.size (fun k_ => k_ ≠ w.heap.size) (.slice (some ⟨w0.heap.size, 0, none⟩) 0 0) (xs.take 0) by rw [hw1]; exact R_empty k23 23 (below_size BW.out) (Nat.ne_of_gt (blk_lt F1_.out)) w0)
  have B0 := Aside0.mk (show w1.heap[w.heap.size]? = some (.cells #[.int .i64 r0, .int .i64 r1] 23 (0, 0)) by rw [hw1]; exact blk_alloc F1_.out _)
  have BB0 := Aside0.mk (show Below w.heap.size w w1 by rw [hw1]; exact below_alloc BW.out _)
  clear hw1
  go_loopg [7, 23] xs.length (fun gg v7 v23 wr => ∃ kk : Nat, kk ≤ xs.length ∧ xs.length - kk ≤ gg ∧ v23 = .int .i64 kk ∧ Aside0 (Kd.R k23 23 wr w.heap.size (fun k_ => k_ ≠ w.heap.size) v7 (xs.take kk)) ∧ Aside0 (wr.heap[w.heap.size]? = some (.cells #[.int .i64 r0, .int .i64 r1] 23 (0, 0))) ∧ Aside0 (Below w.heap.size w wr) ∧ Aside0 (∀ j, j < kk → rightB (rd_T23 xs j) = true))
  case atStart => exact ⟨0, Nat.zero_le _, by omega, rfl, R0, B0, BB0, ⟨fun j hj => absurd hj (Nat.not_lt_zero _)⟩⟩
  case round =>
    clear R0 B0 BB0
    obtain ⟨kk, hkk, hg, rfl, RW, BX0, BB1, HJ⟩ := hrel
    by_cases hlt : kk < xs.length
    · have hltz : decide ((kk : Int) < (xs.length : Int)) = true := by simp; omega
      obtain ⟨ad, e1, x0, x1⟩ := at_T23 (Kd.C_below HR.out BB1.out) (kk : Int) (by omega) (by omega)
      cases e1
      simp only [Int.toNat_natCast] at x0 x1
      have hml := HN.out
      have HRk := Aside0.mk (right_is (rd_T23 xs (kk : Int)))
      cases hq : rightB (rd_T23 xs (kk : Int)) with
      | false =>
        rw [hq] at HRk
        go_wp2_with (go_at_call 13; (with_reducible refine (load_Right.calls (rd_T23 xs (kk : Int)).f0 (rd_T23 xs (kk : Int)).f1 false _ HRk.out).mono ?_); rintro e w5 ⟨rfl, hb⟩; have RR := Aside0.mk (Kd.R_below (Kd.R_alloc RW.out _) hb); have BX := Aside0.mk (blk_below (blk_alloc BX0.out _) hb); have BT := blk_below (blk_new wr _) hb; have BB := Aside0.mk (below_step (below_alloc BB1.out _) hb); have t0 := (blk_cell BT 0).trans rfl; have t1 := (blk_cell BT 1).trans rfl; have tl := blk_lt BT; clear BT hb)
        go_ret
        exact ⟨rfl, BB.out⟩
      | true =>
        rw [hq] at HRk
        have HQ := Aside0.mk hq
        clear hq
        go_wp2_with (first | (go_at_call 13; (with_reducible refine (load_Right.calls (rd_T23 xs (kk : Int)).f0 (rd_T23 xs (kk : Int)).f1 true _ HRk.out).mono ?_); rintro e w5 ⟨rfl, hb⟩; have RR := Aside0.mk (Kd.R_below (Kd.R_alloc RW.out _) hb); have BX := Aside0.mk (blk_below (blk_alloc BX0.out _) hb); have BT := blk_below (blk_new wr _) hb; have BB := Aside0.mk (below_step (below_alloc BB1.out _) hb); have t0 := (blk_cell BT 0).trans rfl; have t1 := (blk_cell BT 1).trans rfl; have tl := blk_lt BT; clear BT hb) | ((with_reducible refine gate_builtin (b := .append) (xs := #[.tmp 30, .tmp 32]) rfl ?_); at_builtin; refine Kd.R_append k23 (w0 := w) w.heap.size rfl (.tmp 30) (.tmp 32) 30 23 (.agg #[(.int .i64 0), (.int .i64 0)]) 16 rfl Try.underlying30 info23 rfl (by decide) (by omega) u7 (xs.take kk) (rd_T23 xs (kk : Int)) [.int .i64 (rd_T23 xs (kk : Int)).f0, .int .i64 (rd_T23 xs (kk : Int)).f1] (fun k_ => k_ ≠ w.heap.size) (fun _ => False) rfl rfl ?aP (fun _ hk => hk.elim) ?aF ?aO ?aB ?aS ?aL ?_; (case aP => exact k23_mkM _ _ _ (rd_T23 xs (kk : Int))); (case aB => exact (by repeat (first | exact BB.out | apply below_alloc))); (case aF => exact (fun k_ hk => Kd.freshB (g := w.heap.size) (o := .cells #[.int .i64 r0, .int .i64 r1] 23 (0, 0)) (by (with_reducible repeat (first | refine blk_drewN ?_ _ | refine blk_drew ?_ | refine blk_alloc ?_ _)); exact BX.out) k_ hk)); (case aO => exact (by (with_reducible repeat (first | apply Kd.R_alloc | apply Kd.R_drewN | apply Kd.R_drew)); exact RR.out)); (case aS => exact (below_size (by repeat (first | exact BB.out | apply below_alloc)))); (case aL => have := HN.out; rw [List.length_take]; omega); intro v9 w9 ho hb hg hat; have BX := Aside0.mk (blk_grown (g := w.heap.size) (o := .cells #[.int .i64 r0, .int .i64 r1] 23 (0, 0)) (by (with_reducible repeat (first | refine blk_drewN ?_ _ | refine blk_drew ?_ | refine blk_alloc ?_ _)); exact BX.out) hg (Kd.R_away RR.out (fun _ hk => hk))); have BB := Aside0.mk hb; have RR := Aside0.mk ho; clear ho hb hg hat))
        go_roundg (xs.length - (kk + 1))
        case measure => omega
        case rel =>
          refine ⟨kk + 1, by omega, by omega, by go_num, ⟨by rw [take_succ_rd xs kk hlt]; exact RR.out⟩, BX, BB, ⟨fun j hj => ?_⟩⟩
          by_cases e : j = kk
          · subst e; exact HQ.out
          · exact HJ.out j (by omega)
    · have hltz : decide ((kk : Int) < (xs.length : Int)) = false := by simp; omega
      have : kk = xs.length := by omega
      subst this
      have hml := HN.out
      obtain ⟨wo, hwo⟩ : ∃ wo : World, wo = wr := ⟨_, rfl⟩
      rw [← hwo] at RW BX0 BB1
      have RW0 := Aside0.mk (show Kd.R k23 23 wo w.heap.size (fun k_ => k_ ≠ w.heap.size) u7 (xs ++ backTail xs xs.length) by have h := RW.out; rw [List.take_length] at h; simpa [backTail] using h)
      go_wp2
      rw [← hwo]
      clear hwo RW
      go_loopg [7, 10] xs.length (fun gg v7 v10 wr => ∃ j : Nat, j ≤ xs.length ∧ j ≤ gg ∧ v10 = .int .i64 ((j : Int) - 1) ∧ Aside0 (Kd.R k23 23 wr w.heap.size (fun k_ => k_ ≠ w.heap.size) v7 (xs ++ backTail xs j)) ∧ Aside0 (wr.heap[w.heap.size]? = some (.cells #[.int .i64 r0, .int .i64 r1] 23 (0, 0))) ∧ Aside0 (Below w.heap.size w wr))
      case atStart => exact ⟨xs.length, Nat.le_refl _, Nat.le_refl _, rfl, RW0, BX0, BB1⟩
      case round =>
        clear RW0 BX0 BB1
        obtain ⟨j, hj, hgj, rfl, RW2, BX2, BB2⟩ := hrel
        cases j with
        | succ i =>
          have e : ((i + 1 : Nat) : Int) - 1 = (i : Int) := by omega
          rw [e]
          clear e
          have hlt : i < xs.length := by omega
          have hltz : decide ((i : Int) < (xs.length : Int)) = true := by simp; omega
          obtain ⟨ad, e1, x0, x1⟩ := at_T23 (Kd.C_below HR.out BB2.out) (i : Int) (by omega) (by omega)
          cases e1
          simp only [Int.toNat_natCast] at x0 x1
          have HNk := Aside0.mk (neg_isV (rd_T23 xs (i : Int)))
          go_wp2_with (first | (go_at_call 11; (with_reducible refine (load_Neg.calls (rd_T23 xs (i : Int)).f0 (rd_T23 xs (i : Int)).f1 (negV (rd_T23 xs (i : Int))).f0 (negV (rd_T23 xs (i : Int))).f1 _ HNk.out).mono ?_); rintro e w5 ⟨rfl, hb⟩; have RR := Aside0.mk (Kd.R_below RW2.out hb); have BX := Aside0.mk (blk_below BX2.out hb); have BB := Aside0.mk (below_step BB2.out hb); clear hb) | ((with_reducible refine gate_builtin (b := .append) (xs := #[.tmp 42, .tmp 48]) rfl ?_); at_builtin; refine Kd.R_append k23 (w0 := w) w.heap.size rfl (.tmp 42) (.tmp 48) 30 23 (.agg #[(.int .i64 0), (.int .i64 0)]) 16 rfl Try.underlying30 info23 rfl (by decide) (by omega) u7 (xs ++ backTail xs (i + 1)) (negV (rd_T23 xs (i : Int))) [.int .i64 (negV (rd_T23 xs (i : Int))).f0, .int .i64 (negV (rd_T23 xs (i : Int))).f1] (fun k_ => k_ ≠ w.heap.size) (fun _ => False) rfl rfl ?aP (fun _ hk => hk.elim) ?aF ?aO ?aB ?aS ?aL ?_; (case aP => exact k23_mkM _ _ _ (negV (rd_T23 xs (i : Int)))); (case aB => exact (by repeat (first | exact BB.out | apply below_alloc))); (case aF => exact (fun k_ hk => Kd.freshB (g := w.heap.size) (o := .cells #[.int .i64 r0, .int .i64 r1] 23 (0, 0)) (by (with_reducible repeat (first | refine blk_drewN ?_ _ | refine blk_drew ?_ | refine blk_alloc ?_ _)); exact BX.out) k_ hk)); (case aO => exact (by (with_reducible repeat (first | apply Kd.R_alloc | apply Kd.R_drewN | apply Kd.R_drew)); exact RR.out)); (case aS => exact (below_size (by repeat (first | exact BB.out | apply below_alloc)))); (case aL => have := HN.out; simp only [List.length_append, backTail, List.length_map, List.length_reverse, List.length_drop]; omega); intro v9 w9 ho hb hg hat; have BX := Aside0.mk (blk_grown (g := w.heap.size) (o := .cells #[.int .i64 r0, .int .i64 r1] 23 (0, 0)) (by (with_reducible repeat (first | refine blk_drewN ?_ _ | refine blk_drew ?_ | refine blk_alloc ?_ _)); exact BX.out) hg (Kd.R_away RR.out (fun _ hk => hk))); have BB := Aside0.mk hb; have RR := Aside0.mk ho; clear ho hb hg hat))
          go_roundg i
          case measure => omega
          case rel => exact ⟨i, by omega, Nat.le_refl _, rfl, ⟨by rw [backTail_succ xs i hlt, ← List.append_assoc]; exact RR.out⟩, BX, BB⟩
        | zero =>
          have e : ((0 : Nat) : Int) - 1 = -1 := rfl
          rw [e]
          clear e hj hgj
          rw [← Hbk.out] at RW2
          obtain ⟨Ab, cb, hub, hlb, hCb⟩ := Kd.R_reads RW2.out
          subst hub
          have CB := Aside0.mk hCb
          have LB := Aside0.mk hlb
          clear hCb hlb
          have HPx := Aside0.mk (HP.out HJ.out)
          by_cases hn : xs.length = 0
          · skip
            obtain rfl : ps = [] := List.eq_nil_of_length_eq_zero (by have := Hpl.out; omega)
            clear hn
            have hfb := Hfb.out
            go_wp2_with (first | (go_at_call 17; (with_reducible refine (load_Profile.calls k Ab cb bk [] true _ CB.out LB.out HPx.out).mono ?_); rintro e w6 ⟨v0, rfl, hR, hb⟩; obtain ⟨Ap, cp, rfl, hCp, hAp⟩ := own_reads_base (w := w) hR; have CP := Aside0.mk hCp; have CB6 := Aside0.mk (Kd.C_below CB.out hb); have BB6 := Aside0.mk (below_step BB2.out hb); clear hR hCp hAp; have b1_ := blk_below (g := w.heap.size) (o := .cells #[.int .i64 r0, .int .i64 r1] 23 (0, 0)) (by (with_reducible repeat (first | refine blk_drewN ?_ _ | refine blk_drew ?_ | refine blk_alloc ?_ _)); exact BX2.out) hb; have F1_ := Aside0.mk b1_; have cb1_0 := (blk_cell b1_ 0).trans rfl; have zb1_0 := blk_frozen b1_ 0; have cb1_1 := (blk_cell b1_ 1).trans rfl; have zb1_1 := blk_frozen b1_ 1; have lb1_ := blk_lt b1_; clear b1_; clear hb) | (go_at_call 19; (with_reducible refine (load_First.calls r0 r1 A1 c1 xs fi _ (Kd.C_below HR.out BB6.out) HC.out HF.out).mono ?_); rintro e w7 ⟨rfl, hb⟩; clear cb1_0 zb1_0 cb1_1 zb1_1 lb1_; have b2_ := blk_below (g := w.heap.size) (o := .cells #[.int .i64 r0, .int .i64 r1] 23 (0, 0)) (by (with_reducible repeat (first | refine blk_drewN ?_ _ | refine blk_drew ?_ | refine blk_alloc ?_ _)); exact F1_.out) hb; have HB_w7 := Aside0.mk hb; have F2_ := Aside0.mk b2_; have cb2_0 := (blk_cell b2_ 0).trans rfl; have zb2_0 := blk_frozen b2_ 0; have cb2_1 := (blk_cell b2_ 1).trans rfl; have zb2_1 := blk_frozen b2_ 1; have lb2_ := blk_lt b2_; clear b2_; clear hb) | (go_at_call 13; (with_reducible refine (load_Right.calls r0 r1 true _ HRr.out).mono ?_); rintro e w8 ⟨rfl, hb⟩; clear cb2_0 zb2_0 cb2_1 zb2_1 lb2_; have b3_ := blk_below (g := w.heap.size) (o := .cells #[.int .i64 r0, .int .i64 r1] 23 (0, 0)) (by (with_reducible repeat (first | refine blk_drewN ?_ _ | refine blk_drew ?_ | refine blk_alloc ?_ _)); exact F2_.out) hb; have HB_w8 := Aside0.mk hb; have F3_ := Aside0.mk b3_; have cb3_0 := (blk_cell b3_ 0).trans rfl; have zb3_0 := blk_frozen b3_ 0; have cb3_1 := (blk_cell b3_ 1).trans rfl; have zb3_1 := blk_frozen b3_ 1; have lb3_ := blk_lt b3_; clear b3_; clear hb))
            clear cb3_0 zb3_0 cb3_1 zb3_1 lb3_
            obtain ⟨w9, hw9⟩ : ∃ w9, w9 = w8.alloc (.cells #[.int .i64 (wrap64 (r0 + Go.bits .and .i64 more 1023)), .int .i64 (wrap64 (r1 + Go.bits .and .i64 more 1023))] 23 (0, 0)) := ⟨_, rfl⟩
            rw [← hw9]
            have B14 := Aside0.mk (show w9.heap[w8.heap.size]? = some (.cells #[.int .i64 (wrap64 (r0 + Go.bits .and .i64 more 1023)), .int .i64 (wrap64 (r1 + Go.bits .and .i64 more 1023))] 23 (0, 0)) by rw [hw9]; exact blk_new _ _)
            have B3 := Aside0.mk (show w9.heap[w.heap.size]? = some (.cells #[.int .i64 r0, .int .i64 r1] 23 (0, 0)) by rw [hw9]; exact blk_alloc F3_.out _)
            have BW9 := Aside0.mk (show Below w.heap.size w w9 by rw [hw9]; exact below_alloc (below_step (below_step BB6.out HB_w7.out) HB_w8.out) _)
            have CB9 := Aside0.mk (show Kd.C k23 w9 Ab bk.length bk by rw [hw9]; exact Kd.C_alloc (Kd.C_below (Kd.C_below CB6.out HB_w7.out) HB_w8.out) _)
            clear hw9
            refine wp_region_pv [.val (.agg #[.int .i64 r0, .int .i64 r1]), .val (.slice Ab bk.length cb), .val (.int .i64 fj), .val (.bool false), .val (.bool false), .val (.bool true), .val (.bool true), .val (.bool false), .val (.bool true), .val (.bool true), .val (undef), .val (undef), .val (undef), .val (undef), .val (.bool true), .val (.bool true), .val (.bool true), .val (.bool false), .val (.bool true), .val (.bool true), .val (undef), .val (undef), .val (undef), .val (undef), .val (.bool true), .val (.bool true), .val (.bool true)] rfl (by kernel_rfl) ?howesZ1 ?hendZ1
            case howesZ1 =>
              refine ⟨?_, ?_, ?_, ?_, ?_, ?_, ?_, ?_, ?_, ?_, ?_, ?_, ?_, ?_, ?_, ?_, ?_, ?_, ?_, ?_, ?_, ?_, ?_, ?_, ?_, ?_, ?_, trivial⟩
              · refine owes_pv0 (fun E vs a W_ hI hE hp => ?_)
                have e0 : a.eval (.tmp 3) = .pointer (some ⟨w.heap.size, 0, none⟩) := hI.outer (d := 3) (by rfl) rfl
                have hb := blk_below B3.out hI.world.2
                have q0 := (blk_cell hb 0).trans rfl
                have q1 := (blk_cell hb 1).trans rfl
                clear hb
                refine ⟨rfl, _, ?_, rfl⟩
                simp only [execOp, e0]
                go_simp
              · refine owes_pv0 (fun E vs a W_ hI hE hp => ?_)
                have e0 : a.eval (.tmp 7) = .slice Ab bk.length cb := hI.outer (d := 7) (by rfl) rfl
                refine ⟨rfl, _, ?_, rfl⟩
                simp only [execOp, e0]
                first
                | rfl
                | (go_simp; done)
                | (go_simp; simp; done)
              · refine owes_pvc (fun E vs a W_ hI hE hp => ?_)
                have e0 : a.eval (.tmp 90) = .agg #[.int .i64 r0, .int .i64 r1] := hI.pv 0 rfl rfl (pred_of hp 0 rfl) rfl
                have e1 : a.eval (.tmp 91) = .slice Ab bk.length cb := hI.pv 1 rfl rfl (pred_of hp 1 rfl) rfl
                refine ⟨rfl, 19, #[.agg #[.int .i64 r0, .int .i64 r1], .slice Ab bk.length cb], ?_, ?_⟩
                · simp only [execOp, resolve, List.map_toArray, List.map_cons, List.map_nil, e0, e1]
                  rfl
                · refine (load_First.calls r0 r1 Ab cb bk fj _ (Kd.C_below CB9.out hI.world.2) LB.out HG.out).mono ?_
                  rintro e W1_ ⟨rfl, hb⟩
                  exact ⟨_, rfl, hb, rfl⟩
              · refine owes_pv0 (fun E vs a W_ hI hE hp => ?_)
                have e0 : a.eval (.tmp 92) = .int .i64 fj := hI.pv 2 rfl rfl (pred_of hp 2 rfl) rfl
                refine ⟨rfl, _, ?_, rfl⟩
                simp only [execOp, e0]
                have hg_ := Hgb.out HJ.out
                first | (go_simp; done) | (go_simp; first | exact hg_ | simpa using hg_)
              · refine owes_pv0 (fun E vs a W_ hI hE hp => ?_)
                have e0 : a.eval (.tmp 13) = .bool false := hI.outer (d := 13) (by rfl) rfl
                refine ⟨rfl, _, ?_, rfl⟩
                simp only [execOp, e0]
                first
                | rfl
                | (go_simp; done)
                | (go_simp; simp; done)
              · refine owes_pv0 (fun E vs a W_ hI hE hp => ?_)
                have e0 : a.eval (.tmp 93) = .bool false := hI.pv 3 rfl rfl (pred_of hp 3 rfl) rfl
                have e1 : a.eval (.tmp 94) = .bool false := hI.pv 4 rfl rfl (pred_of hp 4 rfl) rfl
                refine ⟨rfl, _, ?_, rfl⟩
                simp only [execOp, e0, e1]
                first
                | rfl
                | (go_simp; done)
                | (go_simp; simp; done)
              · refine owes_pv0 (fun E vs a W_ hI hE hp => ?_)
                have e0 : a.eval (.tmp 95) = .bool true := hI.pv 5 rfl rfl (pred_of hp 5 rfl) rfl
                refine ⟨rfl, _, ?_, rfl⟩
                simp only [execOp, e0]
                first
                | rfl
                | (go_simp; done)
                | (go_simp; simp; done)
              · refine owes_pv0 (fun E vs a W_ hI hE hp => ?_)
                have e0 : a.eval (.tmp 13) = .bool false := hI.outer (d := 13) (by rfl) rfl
                refine ⟨wanted_of hI 6 rfl rfl rfl rfl (show a.eval (.tmp 96) = .bool true from hI.pv 6 rfl rfl (pred_of hp 6 rfl) rfl), _, ?_, rfl⟩
                simp only [execOp, e0]
                first
                | rfl
                | (go_simp; done)
                | (go_simp; simp; done)
              · refine owes_pv0 (fun E vs a W_ hI hE hp => ?_)
                have e0 : a.eval (.tmp 97) = .bool false := hI.pv 7 rfl rfl (pred_of hp 7 rfl) rfl
                refine ⟨wanted_of hI 6 rfl rfl rfl rfl (show a.eval (.tmp 96) = .bool true from hI.pv 6 rfl rfl (pred_of hp 6 rfl) rfl), _, ?_, rfl⟩
                simp only [execOp, e0]
                first
                | rfl
                | (go_simp; done)
                | (go_simp; simp; done)
              · refine owes_pv0 (fun E vs a W_ hI hE hp => ?_)
                have e0 : a.eval (.tmp 98) = .bool true := hI.pv 8 rfl rfl (pred_of hp 8 rfl) rfl
                refine ⟨wanted_of hI 6 rfl rfl rfl rfl (show a.eval (.tmp 96) = .bool true from hI.pv 6 rfl rfl (pred_of hp 6 rfl) rfl), _, ?_, rfl⟩
                simp only [execOp, e0]
                first
                | rfl
                | (go_simp; done)
                | (go_simp; simp; done)
              · exact owes_pvs (fun E vs a W_ hI hE hp => ⟨unwanted_of hI 9 rfl rfl rfl rfl (show a.eval (.tmp 99) = .bool true from hI.pv 9 rfl rfl (pred_of hp 9 rfl) rfl) (fun c hc => by first | (cases hc; decide) | cases hc), rfl⟩)
              · exact owes_pvs (fun E vs a W_ hI hE hp => ⟨unwanted_of hI 9 rfl rfl rfl rfl (show a.eval (.tmp 99) = .bool true from hI.pv 9 rfl rfl (pred_of hp 9 rfl) rfl) (fun c hc => by first | (cases hc; decide) | cases hc), rfl⟩)
              · exact owes_pvs (fun E vs a W_ hI hE hp => ⟨unwanted_of hI 9 rfl rfl rfl rfl (show a.eval (.tmp 99) = .bool true from hI.pv 9 rfl rfl (pred_of hp 9 rfl) rfl) (fun c hc => by first | (cases hc; decide) | cases hc), rfl⟩)
              · exact owes_pvs (fun E vs a W_ hI hE hp => ⟨unwanted_of hI 9 rfl rfl rfl rfl (show a.eval (.tmp 99) = .bool true from hI.pv 9 rfl rfl (pred_of hp 9 rfl) rfl) (fun c hc => by first | (cases hc; decide) | cases hc), rfl⟩)
              · refine owes_pv0 (fun E vs a W_ hI hE hp => ?_)
                have e0 : a.eval (.tmp 99) = .bool true := hI.pv 9 rfl rfl (pred_of hp 9 rfl) rfl
                have e1 : a.eval (.tmp 103) = undef := hI.pv 13 rfl rfl (pred_of hp 13 rfl) rfl
                refine ⟨wanted_of hI 6 rfl rfl rfl rfl (show a.eval (.tmp 96) = .bool true from hI.pv 6 rfl rfl (pred_of hp 6 rfl) rfl), _, ?_, rfl⟩
                simp only [execOp, e0, e1]
                first
                | rfl
                | (go_simp; done)
                | (go_simp; simp; done)
              · refine owes_pv0 (fun E vs a W_ hI hE hp => ?_)
                have e0 : a.eval (.tmp 96) = .bool true := hI.pv 6 rfl rfl (pred_of hp 6 rfl) rfl
                have e1 : a.eval (.tmp 104) = .bool true := hI.pv 14 rfl rfl (pred_of hp 14 rfl) rfl
                refine ⟨rfl, _, ?_, rfl⟩
                simp only [execOp, e0, e1]
                first
                | rfl
                | (go_simp; done)
                | (go_simp; simp; done)
              · refine owes_pv0 (fun E vs a W_ hI hE hp => ?_)
                have e0 : a.eval (.tmp 105) = .bool true := hI.pv 15 rfl rfl (pred_of hp 15 rfl) rfl
                refine ⟨rfl, _, ?_, rfl⟩
                simp only [execOp, e0]
                first
                | rfl
                | (go_simp; done)
                | (go_simp; simp; done)
              · refine owes_pv0 (fun E vs a W_ hI hE hp => ?_)
                have e0 : a.eval (.tmp 13) = .bool false := hI.outer (d := 13) (by rfl) rfl
                refine ⟨wanted_of hI 16 rfl rfl rfl rfl (show a.eval (.tmp 106) = .bool true from hI.pv 16 rfl rfl (pred_of hp 16 rfl) rfl), _, ?_, rfl⟩
                simp only [execOp, e0]
                first
                | rfl
                | (go_simp; done)
                | (go_simp; simp; done)
              · refine owes_pv0 (fun E vs a W_ hI hE hp => ?_)
                have e0 : a.eval (.tmp 107) = .bool false := hI.pv 17 rfl rfl (pred_of hp 17 rfl) rfl
                refine ⟨wanted_of hI 16 rfl rfl rfl rfl (show a.eval (.tmp 106) = .bool true from hI.pv 16 rfl rfl (pred_of hp 16 rfl) rfl), _, ?_, rfl⟩
                simp only [execOp, e0]
                first
                | rfl
                | (go_simp; done)
                | (go_simp; simp; done)
              · refine owes_pv0 (fun E vs a W_ hI hE hp => ?_)
                have e0 : a.eval (.tmp 108) = .bool true := hI.pv 18 rfl rfl (pred_of hp 18 rfl) rfl
                refine ⟨wanted_of hI 16 rfl rfl rfl rfl (show a.eval (.tmp 106) = .bool true from hI.pv 16 rfl rfl (pred_of hp 16 rfl) rfl), _, ?_, rfl⟩
                simp only [execOp, e0]
                first
                | rfl
                | (go_simp; done)
                | (go_simp; simp; done)
              · exact owes_pvs (fun E vs a W_ hI hE hp => ⟨unwanted_of hI 19 rfl rfl rfl rfl (show a.eval (.tmp 109) = .bool true from hI.pv 19 rfl rfl (pred_of hp 19 rfl) rfl) (fun c hc => by first | (cases hc; decide) | cases hc), rfl⟩)
              · exact owes_pvs (fun E vs a W_ hI hE hp => ⟨unwanted_of hI 19 rfl rfl rfl rfl (show a.eval (.tmp 109) = .bool true from hI.pv 19 rfl rfl (pred_of hp 19 rfl) rfl) (fun c hc => by first | (cases hc; decide) | cases hc), rfl⟩)
              · exact owes_pvs (fun E vs a W_ hI hE hp => ⟨unwanted_of hI 19 rfl rfl rfl rfl (show a.eval (.tmp 109) = .bool true from hI.pv 19 rfl rfl (pred_of hp 19 rfl) rfl) (fun c hc => by first | (cases hc; decide) | cases hc), rfl⟩)
              · exact owes_pvs (fun E vs a W_ hI hE hp => ⟨unwanted_of hI 19 rfl rfl rfl rfl (show a.eval (.tmp 109) = .bool true from hI.pv 19 rfl rfl (pred_of hp 19 rfl) rfl) (fun c hc => by first | (cases hc; decide) | cases hc), rfl⟩)
              · refine owes_pv0 (fun E vs a W_ hI hE hp => ?_)
                have e0 : a.eval (.tmp 109) = .bool true := hI.pv 19 rfl rfl (pred_of hp 19 rfl) rfl
                have e1 : a.eval (.tmp 113) = undef := hI.pv 23 rfl rfl (pred_of hp 23 rfl) rfl
                refine ⟨wanted_of hI 16 rfl rfl rfl rfl (show a.eval (.tmp 106) = .bool true from hI.pv 16 rfl rfl (pred_of hp 16 rfl) rfl), _, ?_, rfl⟩
                simp only [execOp, e0, e1]
                first
                | rfl
                | (go_simp; done)
                | (go_simp; simp; done)
              · refine owes_pv0 (fun E vs a W_ hI hE hp => ?_)
                have e0 : a.eval (.tmp 106) = .bool true := hI.pv 16 rfl rfl (pred_of hp 16 rfl) rfl
                have e1 : a.eval (.tmp 114) = .bool true := hI.pv 24 rfl rfl (pred_of hp 24 rfl) rfl
                refine ⟨rfl, _, ?_, rfl⟩
                simp only [execOp, e0, e1]
                first
                | rfl
                | (go_simp; done)
                | (go_simp; simp; done)
              · refine owes_pv0 (fun E vs a W_ hI hE hp => ?_)
                have e0 : a.eval (.tmp 115) = .bool true := hI.pv 25 rfl rfl (pred_of hp 25 rfl) rfl
                refine ⟨rfl, _, ?_, rfl⟩
                simp only [execOp, e0]
                first
                | rfl
                | (go_simp; done)
                | (go_simp; simp; done)
            case hendZ1 =>
              intro E vs a W hI hall
              have e1 : a.tmps.getD 6 undef = .bool true := hI.pv 26 rfl rfl (hall 26 (by decide)) rfl
              have e2 : a.defers = [] := hI.defers
              have hb := hI.world.2
              clear hI hall
              go_wp2
              refine bodyPost_ret (v := .bool true) ((results_tmp (t := 6) rfl _ _ _).trans (by rw [e1])) e2 ⟨rfl, below_step BW9.out hb⟩
          · skip
            have hp0 : 0 < ps.length := by have := Hpl.out; omega
            have hpb : ps.length ≤ 120 := by have := Hpl.out; have := HN.out; omega
            have hp1 : decide ((0 : Int) < (ps.length : Int)) = true := by simp; omega
            have hqz : rd_T23 ps ((ps.length - 1 : Nat) : Int) = ⟨0, 0⟩ := by have h := Hpz.out HJ.out (by omega); have e := Hpl.out; rw [← e] at h; exact h
            have QZ := Aside0.mk hqz
            clear hqz hn
            have hfb := Hfb.out
            go_wp2_with (first | (go_at_call 17; (with_reducible refine (load_Profile.calls k Ab cb bk ps true _ CB.out LB.out HPx.out).mono ?_); rintro e w6 ⟨v0, rfl, hR, hb⟩; obtain ⟨Ap, cp, rfl, hCp, hAp⟩ := own_reads_base (w := w) hR; have CP := Aside0.mk hCp; have CB6 := Aside0.mk (Kd.C_below CB.out hb); have BB6 := Aside0.mk (below_step BB2.out hb); obtain ⟨adp, ep, y0, y1⟩ := at_T23 hCp ((ps.length - 1 : Nat) : Int) (by omega) (by omega); cases ep; rw [QZ.out] at y0 y1; simp only [Int.toNat_natCast] at y0 y1; clear hR hCp hAp; have b1_ := blk_below (g := w.heap.size) (o := .cells #[.int .i64 r0, .int .i64 r1] 23 (0, 0)) (by (with_reducible repeat (first | refine blk_drewN ?_ _ | refine blk_drew ?_ | refine blk_alloc ?_ _)); exact BX2.out) hb; have F1_ := Aside0.mk b1_; have cb1_0 := (blk_cell b1_ 0).trans rfl; have zb1_0 := blk_frozen b1_ 0; have cb1_1 := (blk_cell b1_ 1).trans rfl; have zb1_1 := blk_frozen b1_ 1; have lb1_ := blk_lt b1_; clear b1_; clear hb) | (go_at_call 19; (with_reducible refine (load_First.calls r0 r1 A1 c1 xs fi _ (Kd.C_below HR.out BB6.out) HC.out HF.out).mono ?_); rintro e w7 ⟨rfl, hb⟩; clear cb1_0 zb1_0 cb1_1 zb1_1 lb1_; have b2_ := blk_below (g := w.heap.size) (o := .cells #[.int .i64 r0, .int .i64 r1] 23 (0, 0)) (by (with_reducible repeat (first | refine blk_drewN ?_ _ | refine blk_drew ?_ | refine blk_alloc ?_ _)); exact F1_.out) hb; have HB_w7 := Aside0.mk hb; have F2_ := Aside0.mk b2_; have cb2_0 := (blk_cell b2_ 0).trans rfl; have zb2_0 := blk_frozen b2_ 0; have cb2_1 := (blk_cell b2_ 1).trans rfl; have zb2_1 := blk_frozen b2_ 1; have lb2_ := blk_lt b2_; clear b2_; clear hb) | (go_at_call 13; (with_reducible refine (load_Right.calls r0 r1 true _ HRr.out).mono ?_); rintro e w8 ⟨rfl, hb⟩; clear cb2_0 zb2_0 cb2_1 zb2_1 lb2_; have b3_ := blk_below (g := w.heap.size) (o := .cells #[.int .i64 r0, .int .i64 r1] 23 (0, 0)) (by (with_reducible repeat (first | refine blk_drewN ?_ _ | refine blk_drew ?_ | refine blk_alloc ?_ _)); exact F2_.out) hb; have HB_w8 := Aside0.mk hb; have F3_ := Aside0.mk b3_; have cb3_0 := (blk_cell b3_ 0).trans rfl; have zb3_0 := blk_frozen b3_ 0; have cb3_1 := (blk_cell b3_ 1).trans rfl; have zb3_1 := blk_frozen b3_ 1; have lb3_ := blk_lt b3_; clear b3_; clear hb))
            clear cb3_0 zb3_0 cb3_1 zb3_1 lb3_
            obtain ⟨w9, hw9⟩ : ∃ w9, w9 = w8.alloc (.cells #[.int .i64 (wrap64 (r0 + Go.bits .and .i64 more 1023)), .int .i64 (wrap64 (r1 + Go.bits .and .i64 more 1023))] 23 (0, 0)) := ⟨_, rfl⟩
            rw [← hw9]
            have B14 := Aside0.mk (show w9.heap[w8.heap.size]? = some (.cells #[.int .i64 (wrap64 (r0 + Go.bits .and .i64 more 1023)), .int .i64 (wrap64 (r1 + Go.bits .and .i64 more 1023))] 23 (0, 0)) by rw [hw9]; exact blk_new _ _)
            have B3 := Aside0.mk (show w9.heap[w.heap.size]? = some (.cells #[.int .i64 r0, .int .i64 r1] 23 (0, 0)) by rw [hw9]; exact blk_alloc F3_.out _)
            have BW9 := Aside0.mk (show Below w.heap.size w w9 by rw [hw9]; exact below_alloc (below_step (below_step BB6.out HB_w7.out) HB_w8.out) _)
            have CB9 := Aside0.mk (show Kd.C k23 w9 Ab bk.length bk by rw [hw9]; exact Kd.C_alloc (Kd.C_below (Kd.C_below CB6.out HB_w7.out) HB_w8.out) _)
            clear hw9
            refine wp_region_pv [.val (.agg #[.int .i64 r0, .int .i64 r1]), .val (.slice Ab bk.length cb), .val (.int .i64 fj), .val (.bool false), .val (.bool false), .val (.bool true), .val (.bool true), .val (.bool false), .val (.bool true), .val (.bool true), .val (undef), .val (undef), .val (undef), .val (undef), .val (.bool true), .val (.bool true), .val (.bool true), .val (.bool false), .val (.bool true), .val (.bool true), .val (undef), .val (undef), .val (undef), .val (undef), .val (.bool true), .val (.bool true), .val (.bool true)] rfl (by kernel_rfl) ?howesZ0 ?hendZ0
            case howesZ0 =>
              refine ⟨?_, ?_, ?_, ?_, ?_, ?_, ?_, ?_, ?_, ?_, ?_, ?_, ?_, ?_, ?_, ?_, ?_, ?_, ?_, ?_, ?_, ?_, ?_, ?_, ?_, ?_, ?_, trivial⟩
              · refine owes_pv0 (fun E vs a W_ hI hE hp => ?_)
                have e0 : a.eval (.tmp 3) = .pointer (some ⟨w.heap.size, 0, none⟩) := hI.outer (d := 3) (by rfl) rfl
                have hb := blk_below B3.out hI.world.2
                have q0 := (blk_cell hb 0).trans rfl
                have q1 := (blk_cell hb 1).trans rfl
                clear hb
                refine ⟨rfl, _, ?_, rfl⟩
                simp only [execOp, e0]
                go_simp
              · refine owes_pv0 (fun E vs a W_ hI hE hp => ?_)
                have e0 : a.eval (.tmp 7) = .slice Ab bk.length cb := hI.outer (d := 7) (by rfl) rfl
                refine ⟨rfl, _, ?_, rfl⟩
                simp only [execOp, e0]
                first
                | rfl
                | (go_simp; done)
                | (go_simp; simp; done)
              · refine owes_pvc (fun E vs a W_ hI hE hp => ?_)
                have e0 : a.eval (.tmp 90) = .agg #[.int .i64 r0, .int .i64 r1] := hI.pv 0 rfl rfl (pred_of hp 0 rfl) rfl
                have e1 : a.eval (.tmp 91) = .slice Ab bk.length cb := hI.pv 1 rfl rfl (pred_of hp 1 rfl) rfl
                refine ⟨rfl, 19, #[.agg #[.int .i64 r0, .int .i64 r1], .slice Ab bk.length cb], ?_, ?_⟩
                · simp only [execOp, resolve, List.map_toArray, List.map_cons, List.map_nil, e0, e1]
                  rfl
                · refine (load_First.calls r0 r1 Ab cb bk fj _ (Kd.C_below CB9.out hI.world.2) LB.out HG.out).mono ?_
                  rintro e W1_ ⟨rfl, hb⟩
                  exact ⟨_, rfl, hb, rfl⟩
              · refine owes_pv0 (fun E vs a W_ hI hE hp => ?_)
                have e0 : a.eval (.tmp 92) = .int .i64 fj := hI.pv 2 rfl rfl (pred_of hp 2 rfl) rfl
                refine ⟨rfl, _, ?_, rfl⟩
                simp only [execOp, e0]
                have hg_ := Hgb.out HJ.out
                first | (go_simp; done) | (go_simp; first | exact hg_ | simpa using hg_)
              · refine owes_pv0 (fun E vs a W_ hI hE hp => ?_)
                have e0 : a.eval (.tmp 13) = .bool false := hI.outer (d := 13) (by rfl) rfl
                refine ⟨rfl, _, ?_, rfl⟩
                simp only [execOp, e0]
                first
                | rfl
                | (go_simp; done)
                | (go_simp; simp; done)
              · refine owes_pv0 (fun E vs a W_ hI hE hp => ?_)
                have e0 : a.eval (.tmp 93) = .bool false := hI.pv 3 rfl rfl (pred_of hp 3 rfl) rfl
                have e1 : a.eval (.tmp 94) = .bool false := hI.pv 4 rfl rfl (pred_of hp 4 rfl) rfl
                refine ⟨rfl, _, ?_, rfl⟩
                simp only [execOp, e0, e1]
                first
                | rfl
                | (go_simp; done)
                | (go_simp; simp; done)
              · refine owes_pv0 (fun E vs a W_ hI hE hp => ?_)
                have e0 : a.eval (.tmp 95) = .bool true := hI.pv 5 rfl rfl (pred_of hp 5 rfl) rfl
                refine ⟨rfl, _, ?_, rfl⟩
                simp only [execOp, e0]
                first
                | rfl
                | (go_simp; done)
                | (go_simp; simp; done)
              · refine owes_pv0 (fun E vs a W_ hI hE hp => ?_)
                have e0 : a.eval (.tmp 13) = .bool false := hI.outer (d := 13) (by rfl) rfl
                refine ⟨wanted_of hI 6 rfl rfl rfl rfl (show a.eval (.tmp 96) = .bool true from hI.pv 6 rfl rfl (pred_of hp 6 rfl) rfl), _, ?_, rfl⟩
                simp only [execOp, e0]
                first
                | rfl
                | (go_simp; done)
                | (go_simp; simp; done)
              · refine owes_pv0 (fun E vs a W_ hI hE hp => ?_)
                have e0 : a.eval (.tmp 97) = .bool false := hI.pv 7 rfl rfl (pred_of hp 7 rfl) rfl
                refine ⟨wanted_of hI 6 rfl rfl rfl rfl (show a.eval (.tmp 96) = .bool true from hI.pv 6 rfl rfl (pred_of hp 6 rfl) rfl), _, ?_, rfl⟩
                simp only [execOp, e0]
                first
                | rfl
                | (go_simp; done)
                | (go_simp; simp; done)
              · refine owes_pv0 (fun E vs a W_ hI hE hp => ?_)
                have e0 : a.eval (.tmp 98) = .bool true := hI.pv 8 rfl rfl (pred_of hp 8 rfl) rfl
                refine ⟨wanted_of hI 6 rfl rfl rfl rfl (show a.eval (.tmp 96) = .bool true from hI.pv 6 rfl rfl (pred_of hp 6 rfl) rfl), _, ?_, rfl⟩
                simp only [execOp, e0]
                first
                | rfl
                | (go_simp; done)
                | (go_simp; simp; done)
              · exact owes_pvs (fun E vs a W_ hI hE hp => ⟨unwanted_of hI 9 rfl rfl rfl rfl (show a.eval (.tmp 99) = .bool true from hI.pv 9 rfl rfl (pred_of hp 9 rfl) rfl) (fun c hc => by first | (cases hc; decide) | cases hc), rfl⟩)
              · exact owes_pvs (fun E vs a W_ hI hE hp => ⟨unwanted_of hI 9 rfl rfl rfl rfl (show a.eval (.tmp 99) = .bool true from hI.pv 9 rfl rfl (pred_of hp 9 rfl) rfl) (fun c hc => by first | (cases hc; decide) | cases hc), rfl⟩)
              · exact owes_pvs (fun E vs a W_ hI hE hp => ⟨unwanted_of hI 9 rfl rfl rfl rfl (show a.eval (.tmp 99) = .bool true from hI.pv 9 rfl rfl (pred_of hp 9 rfl) rfl) (fun c hc => by first | (cases hc; decide) | cases hc), rfl⟩)
              · exact owes_pvs (fun E vs a W_ hI hE hp => ⟨unwanted_of hI 9 rfl rfl rfl rfl (show a.eval (.tmp 99) = .bool true from hI.pv 9 rfl rfl (pred_of hp 9 rfl) rfl) (fun c hc => by first | (cases hc; decide) | cases hc), rfl⟩)
              · refine owes_pv0 (fun E vs a W_ hI hE hp => ?_)
                have e0 : a.eval (.tmp 99) = .bool true := hI.pv 9 rfl rfl (pred_of hp 9 rfl) rfl
                have e1 : a.eval (.tmp 103) = undef := hI.pv 13 rfl rfl (pred_of hp 13 rfl) rfl
                refine ⟨wanted_of hI 6 rfl rfl rfl rfl (show a.eval (.tmp 96) = .bool true from hI.pv 6 rfl rfl (pred_of hp 6 rfl) rfl), _, ?_, rfl⟩
                simp only [execOp, e0, e1]
                first
                | rfl
                | (go_simp; done)
                | (go_simp; simp; done)
              · refine owes_pv0 (fun E vs a W_ hI hE hp => ?_)
                have e0 : a.eval (.tmp 96) = .bool true := hI.pv 6 rfl rfl (pred_of hp 6 rfl) rfl
                have e1 : a.eval (.tmp 104) = .bool true := hI.pv 14 rfl rfl (pred_of hp 14 rfl) rfl
                refine ⟨rfl, _, ?_, rfl⟩
                simp only [execOp, e0, e1]
                first
                | rfl
                | (go_simp; done)
                | (go_simp; simp; done)
              · refine owes_pv0 (fun E vs a W_ hI hE hp => ?_)
                have e0 : a.eval (.tmp 105) = .bool true := hI.pv 15 rfl rfl (pred_of hp 15 rfl) rfl
                refine ⟨rfl, _, ?_, rfl⟩
                simp only [execOp, e0]
                first
                | rfl
                | (go_simp; done)
                | (go_simp; simp; done)
              · refine owes_pv0 (fun E vs a W_ hI hE hp => ?_)
                have e0 : a.eval (.tmp 13) = .bool false := hI.outer (d := 13) (by rfl) rfl
                refine ⟨wanted_of hI 16 rfl rfl rfl rfl (show a.eval (.tmp 106) = .bool true from hI.pv 16 rfl rfl (pred_of hp 16 rfl) rfl), _, ?_, rfl⟩
                simp only [execOp, e0]
                first
                | rfl
                | (go_simp; done)
                | (go_simp; simp; done)
              · refine owes_pv0 (fun E vs a W_ hI hE hp => ?_)
                have e0 : a.eval (.tmp 107) = .bool false := hI.pv 17 rfl rfl (pred_of hp 17 rfl) rfl
                refine ⟨wanted_of hI 16 rfl rfl rfl rfl (show a.eval (.tmp 106) = .bool true from hI.pv 16 rfl rfl (pred_of hp 16 rfl) rfl), _, ?_, rfl⟩
                simp only [execOp, e0]
                first
                | rfl
                | (go_simp; done)
                | (go_simp; simp; done)
              · refine owes_pv0 (fun E vs a W_ hI hE hp => ?_)
                have e0 : a.eval (.tmp 108) = .bool true := hI.pv 18 rfl rfl (pred_of hp 18 rfl) rfl
                refine ⟨wanted_of hI 16 rfl rfl rfl rfl (show a.eval (.tmp 106) = .bool true from hI.pv 16 rfl rfl (pred_of hp 16 rfl) rfl), _, ?_, rfl⟩
                simp only [execOp, e0]
                first
                | rfl
                | (go_simp; done)
                | (go_simp; simp; done)
              · exact owes_pvs (fun E vs a W_ hI hE hp => ⟨unwanted_of hI 19 rfl rfl rfl rfl (show a.eval (.tmp 109) = .bool true from hI.pv 19 rfl rfl (pred_of hp 19 rfl) rfl) (fun c hc => by first | (cases hc; decide) | cases hc), rfl⟩)
              · exact owes_pvs (fun E vs a W_ hI hE hp => ⟨unwanted_of hI 19 rfl rfl rfl rfl (show a.eval (.tmp 109) = .bool true from hI.pv 19 rfl rfl (pred_of hp 19 rfl) rfl) (fun c hc => by first | (cases hc; decide) | cases hc), rfl⟩)
              · exact owes_pvs (fun E vs a W_ hI hE hp => ⟨unwanted_of hI 19 rfl rfl rfl rfl (show a.eval (.tmp 109) = .bool true from hI.pv 19 rfl rfl (pred_of hp 19 rfl) rfl) (fun c hc => by first | (cases hc; decide) | cases hc), rfl⟩)
              · exact owes_pvs (fun E vs a W_ hI hE hp => ⟨unwanted_of hI 19 rfl rfl rfl rfl (show a.eval (.tmp 109) = .bool true from hI.pv 19 rfl rfl (pred_of hp 19 rfl) rfl) (fun c hc => by first | (cases hc; decide) | cases hc), rfl⟩)
              · refine owes_pv0 (fun E vs a W_ hI hE hp => ?_)
                have e0 : a.eval (.tmp 109) = .bool true := hI.pv 19 rfl rfl (pred_of hp 19 rfl) rfl
                have e1 : a.eval (.tmp 113) = undef := hI.pv 23 rfl rfl (pred_of hp 23 rfl) rfl
                refine ⟨wanted_of hI 16 rfl rfl rfl rfl (show a.eval (.tmp 106) = .bool true from hI.pv 16 rfl rfl (pred_of hp 16 rfl) rfl), _, ?_, rfl⟩
                simp only [execOp, e0, e1]
                first
                | rfl
                | (go_simp; done)
                | (go_simp; simp; done)
              · refine owes_pv0 (fun E vs a W_ hI hE hp => ?_)
                have e0 : a.eval (.tmp 106) = .bool true := hI.pv 16 rfl rfl (pred_of hp 16 rfl) rfl
                have e1 : a.eval (.tmp 114) = .bool true := hI.pv 24 rfl rfl (pred_of hp 24 rfl) rfl
                refine ⟨rfl, _, ?_, rfl⟩
                simp only [execOp, e0, e1]
                first
                | rfl
                | (go_simp; done)
                | (go_simp; simp; done)
              · refine owes_pv0 (fun E vs a W_ hI hE hp => ?_)
                have e0 : a.eval (.tmp 115) = .bool true := hI.pv 25 rfl rfl (pred_of hp 25 rfl) rfl
                refine ⟨rfl, _, ?_, rfl⟩
                simp only [execOp, e0]
                first
                | rfl
                | (go_simp; done)
                | (go_simp; simp; done)
            case hendZ0 =>
              intro E vs a W hI hall
              have e1 : a.tmps.getD 6 undef = .bool true := hI.pv 26 rfl rfl (hall 26 (by decide)) rfl
              have e2 : a.defers = [] := hI.defers
              have hb := hI.world.2
              clear hI hall
              go_wp2
              refine bodyPost_ret (v := .bool true) ((results_tmp (t := 6) rfl _ _ _).trans (by rw [e1])) e2 ⟨rfl, below_step BW9.out hb⟩

set_option maxHeartbeats 8000000 in
set_option maxRecDepth 100000 in
theorem loadBack_walk10 (k : Nat) (r0 r1 more : Int) (bk : List S23) (A1 : Option Addr) (c1 : Nat) (xs ps : List S23) (fi fj fk p0 p1 : Int) (w : World) (hr : Kd.C k23 w A1 xs.length xs) (hc : xs.length ≤ c1) (hlen : xs.length ≤ 60) (hbk : bk = xs ++ backTail xs 0)
    (hP : (∀ j, j < xs.length → rightB (rd_T23 xs j) = true) → load_Profile.f k bk = some (ps, true)) (hpl : ps.length = 2 * xs.length) (hpz : (∀ j, j < xs.length → rightB (rd_T23 xs j) = true) → 0 < xs.length → rd_T23 ps (2 * xs.length - 1 : Nat) = ⟨0, 0⟩)
    (hF : load_First.f r0 r1 xs = some fi) (hfb : decide (fi < 0) = true) (hRr : load_Right.f r0 r1 = some false) :
    Calls Try.prog 5 #[.agg #[.int .i64 r0, .int .i64 r1], .slice A1 xs.length c1, .int .i64 more] w fun e w' => e = .returned (.bool true) ∧ Below w.heap.size w w' := by
  have hu23 := Try.underlying23
  have HR := Aside0.mk hr
  have HC := Aside0.mk hc
  have h1 : decide ((60 : Int) < (xs.length : Int)) = false := by simp; omega
  have HN := Aside0.mk hlen
  have Hbk := Aside0.mk hbk
  have HP := Aside0.mk hP
  have Hpl := Aside0.mk hpl
  have Hpz := Aside0.mk hpz
  have HF := Aside0.mk hF
  have Hfb := Aside0.mk hfb
  have HRr := Aside0.mk hRr
  clear hr hc hlen hbk hP hpl hpz hF hfb hRr
  go_enter Try.func5, Try.ntmps5
  go_wp2_with (first | (go_at_call 8; (with_reducible refine (jitneylaw04_alive.calls true _ rfl).mono ?_); rintro e w0 ⟨rfl, hb⟩; have b1_ := blk_below (g := w.heap.size) (o := .cells #[.int .i64 r0, .int .i64 r1] 23 (0, 0)) (blk_new w _) hb; have HB_w0 := Aside0.mk hb; have F1_ := Aside0.mk b1_; have cb1_0 := (blk_cell b1_ 0).trans rfl; have zb1_0 := blk_frozen b1_ 0; have cb1_1 := (blk_cell b1_ 1).trans rfl; have zb1_1 := blk_frozen b1_ 1; have lb1_ := blk_lt b1_; clear b1_; clear hb))
  clear cb1_0 zb1_0 cb1_1 zb1_1 lb1_
  have BW := Aside0.mk (below_step (below_alloc (Below.refl _ _) _) HB_w0.out)
  obtain ⟨w1, hw1⟩ : ∃ w1, w1 = w0.alloc (.cells #[] 23 (0, 0)) := ⟨_, rfl⟩
  rw [← hw1]
  have R0 := Aside0.mk (show Kd.R k23 23 w1 w.heap.size (fun k_ => k_ ≠ w.heap.size) (.slice (some ⟨w0.heap.size, 0, none⟩) 0 0) (xs.take 0) by rw [hw1]; exact R_empty k23 23 (below_size BW.out) (Nat.ne_of_gt (blk_lt F1_.out)) w0)
  have B0 := Aside0.mk (show w1.heap[w.heap.size]? = some (.cells #[.int .i64 r0, .int .i64 r1] 23 (0, 0)) by rw [hw1]; exact blk_alloc F1_.out _)
  have BB0 := Aside0.mk (show Below w.heap.size w w1 by rw [hw1]; exact below_alloc BW.out _)
  clear hw1
  go_loopg [7, 23] xs.length (fun gg v7 v23 wr => ∃ kk : Nat, kk ≤ xs.length ∧ xs.length - kk ≤ gg ∧ v23 = .int .i64 kk ∧ Aside0 (Kd.R k23 23 wr w.heap.size (fun k_ => k_ ≠ w.heap.size) v7 (xs.take kk)) ∧ Aside0 (wr.heap[w.heap.size]? = some (.cells #[.int .i64 r0, .int .i64 r1] 23 (0, 0))) ∧ Aside0 (Below w.heap.size w wr) ∧ Aside0 (∀ j, j < kk → rightB (rd_T23 xs j) = true))
  case atStart => exact ⟨0, Nat.zero_le _, by omega, rfl, R0, B0, BB0, ⟨fun j hj => absurd hj (Nat.not_lt_zero _)⟩⟩
  case round =>
    clear R0 B0 BB0
    obtain ⟨kk, hkk, hg, rfl, RW, BX0, BB1, HJ⟩ := hrel
    by_cases hlt : kk < xs.length
    · have hltz : decide ((kk : Int) < (xs.length : Int)) = true := by simp; omega
      obtain ⟨ad, e1, x0, x1⟩ := at_T23 (Kd.C_below HR.out BB1.out) (kk : Int) (by omega) (by omega)
      cases e1
      simp only [Int.toNat_natCast] at x0 x1
      have hml := HN.out
      have HRk := Aside0.mk (right_is (rd_T23 xs (kk : Int)))
      cases hq : rightB (rd_T23 xs (kk : Int)) with
      | false =>
        rw [hq] at HRk
        go_wp2_with (go_at_call 13; (with_reducible refine (load_Right.calls (rd_T23 xs (kk : Int)).f0 (rd_T23 xs (kk : Int)).f1 false _ HRk.out).mono ?_); rintro e w5 ⟨rfl, hb⟩; have RR := Aside0.mk (Kd.R_below (Kd.R_alloc RW.out _) hb); have BX := Aside0.mk (blk_below (blk_alloc BX0.out _) hb); have BT := blk_below (blk_new wr _) hb; have BB := Aside0.mk (below_step (below_alloc BB1.out _) hb); have t0 := (blk_cell BT 0).trans rfl; have t1 := (blk_cell BT 1).trans rfl; have tl := blk_lt BT; clear BT hb)
        go_ret
        exact ⟨rfl, BB.out⟩
      | true =>
        rw [hq] at HRk
        have HQ := Aside0.mk hq
        clear hq
        go_wp2_with (first | (go_at_call 13; (with_reducible refine (load_Right.calls (rd_T23 xs (kk : Int)).f0 (rd_T23 xs (kk : Int)).f1 true _ HRk.out).mono ?_); rintro e w5 ⟨rfl, hb⟩; have RR := Aside0.mk (Kd.R_below (Kd.R_alloc RW.out _) hb); have BX := Aside0.mk (blk_below (blk_alloc BX0.out _) hb); have BT := blk_below (blk_new wr _) hb; have BB := Aside0.mk (below_step (below_alloc BB1.out _) hb); have t0 := (blk_cell BT 0).trans rfl; have t1 := (blk_cell BT 1).trans rfl; have tl := blk_lt BT; clear BT hb) | ((with_reducible refine gate_builtin (b := .append) (xs := #[.tmp 30, .tmp 32]) rfl ?_); at_builtin; refine Kd.R_append k23 (w0 := w) w.heap.size rfl (.tmp 30) (.tmp 32) 30 23 (.agg #[(.int .i64 0), (.int .i64 0)]) 16 rfl Try.underlying30 info23 rfl (by decide) (by omega) u7 (xs.take kk) (rd_T23 xs (kk : Int)) [.int .i64 (rd_T23 xs (kk : Int)).f0, .int .i64 (rd_T23 xs (kk : Int)).f1] (fun k_ => k_ ≠ w.heap.size) (fun _ => False) rfl rfl ?aP (fun _ hk => hk.elim) ?aF ?aO ?aB ?aS ?aL ?_; (case aP => exact k23_mkM _ _ _ (rd_T23 xs (kk : Int))); (case aB => exact (by repeat (first | exact BB.out | apply below_alloc))); (case aF => exact (fun k_ hk => Kd.freshB (g := w.heap.size) (o := .cells #[.int .i64 r0, .int .i64 r1] 23 (0, 0)) (by (with_reducible repeat (first | refine blk_drewN ?_ _ | refine blk_drew ?_ | refine blk_alloc ?_ _)); exact BX.out) k_ hk)); (case aO => exact (by (with_reducible repeat (first | apply Kd.R_alloc | apply Kd.R_drewN | apply Kd.R_drew)); exact RR.out)); (case aS => exact (below_size (by repeat (first | exact BB.out | apply below_alloc)))); (case aL => have := HN.out; rw [List.length_take]; omega); intro v9 w9 ho hb hg hat; have BX := Aside0.mk (blk_grown (g := w.heap.size) (o := .cells #[.int .i64 r0, .int .i64 r1] 23 (0, 0)) (by (with_reducible repeat (first | refine blk_drewN ?_ _ | refine blk_drew ?_ | refine blk_alloc ?_ _)); exact BX.out) hg (Kd.R_away RR.out (fun _ hk => hk))); have BB := Aside0.mk hb; have RR := Aside0.mk ho; clear ho hb hg hat))
        go_roundg (xs.length - (kk + 1))
        case measure => omega
        case rel =>
          refine ⟨kk + 1, by omega, by omega, by go_num, ⟨by rw [take_succ_rd xs kk hlt]; exact RR.out⟩, BX, BB, ⟨fun j hj => ?_⟩⟩
          by_cases e : j = kk
          · subst e; exact HQ.out
          · exact HJ.out j (by omega)
    · have hltz : decide ((kk : Int) < (xs.length : Int)) = false := by simp; omega
      have : kk = xs.length := by omega
      subst this
      have hml := HN.out
      obtain ⟨wo, hwo⟩ : ∃ wo : World, wo = wr := ⟨_, rfl⟩
      rw [← hwo] at RW BX0 BB1
      have RW0 := Aside0.mk (show Kd.R k23 23 wo w.heap.size (fun k_ => k_ ≠ w.heap.size) u7 (xs ++ backTail xs xs.length) by have h := RW.out; rw [List.take_length] at h; simpa [backTail] using h)
      go_wp2
      rw [← hwo]
      clear hwo RW
      go_loopg [7, 10] xs.length (fun gg v7 v10 wr => ∃ j : Nat, j ≤ xs.length ∧ j ≤ gg ∧ v10 = .int .i64 ((j : Int) - 1) ∧ Aside0 (Kd.R k23 23 wr w.heap.size (fun k_ => k_ ≠ w.heap.size) v7 (xs ++ backTail xs j)) ∧ Aside0 (wr.heap[w.heap.size]? = some (.cells #[.int .i64 r0, .int .i64 r1] 23 (0, 0))) ∧ Aside0 (Below w.heap.size w wr))
      case atStart => exact ⟨xs.length, Nat.le_refl _, Nat.le_refl _, rfl, RW0, BX0, BB1⟩
      case round =>
        clear RW0 BX0 BB1
        obtain ⟨j, hj, hgj, rfl, RW2, BX2, BB2⟩ := hrel
        cases j with
        | succ i =>
          have e : ((i + 1 : Nat) : Int) - 1 = (i : Int) := by omega
          rw [e]
          clear e
          have hlt : i < xs.length := by omega
          have hltz : decide ((i : Int) < (xs.length : Int)) = true := by simp; omega
          obtain ⟨ad, e1, x0, x1⟩ := at_T23 (Kd.C_below HR.out BB2.out) (i : Int) (by omega) (by omega)
          cases e1
          simp only [Int.toNat_natCast] at x0 x1
          have HNk := Aside0.mk (neg_isV (rd_T23 xs (i : Int)))
          go_wp2_with (first | (go_at_call 11; (with_reducible refine (load_Neg.calls (rd_T23 xs (i : Int)).f0 (rd_T23 xs (i : Int)).f1 (negV (rd_T23 xs (i : Int))).f0 (negV (rd_T23 xs (i : Int))).f1 _ HNk.out).mono ?_); rintro e w5 ⟨rfl, hb⟩; have RR := Aside0.mk (Kd.R_below RW2.out hb); have BX := Aside0.mk (blk_below BX2.out hb); have BB := Aside0.mk (below_step BB2.out hb); clear hb) | ((with_reducible refine gate_builtin (b := .append) (xs := #[.tmp 42, .tmp 48]) rfl ?_); at_builtin; refine Kd.R_append k23 (w0 := w) w.heap.size rfl (.tmp 42) (.tmp 48) 30 23 (.agg #[(.int .i64 0), (.int .i64 0)]) 16 rfl Try.underlying30 info23 rfl (by decide) (by omega) u7 (xs ++ backTail xs (i + 1)) (negV (rd_T23 xs (i : Int))) [.int .i64 (negV (rd_T23 xs (i : Int))).f0, .int .i64 (negV (rd_T23 xs (i : Int))).f1] (fun k_ => k_ ≠ w.heap.size) (fun _ => False) rfl rfl ?aP (fun _ hk => hk.elim) ?aF ?aO ?aB ?aS ?aL ?_; (case aP => exact k23_mkM _ _ _ (negV (rd_T23 xs (i : Int)))); (case aB => exact (by repeat (first | exact BB.out | apply below_alloc))); (case aF => exact (fun k_ hk => Kd.freshB (g := w.heap.size) (o := .cells #[.int .i64 r0, .int .i64 r1] 23 (0, 0)) (by (with_reducible repeat (first | refine blk_drewN ?_ _ | refine blk_drew ?_ | refine blk_alloc ?_ _)); exact BX.out) k_ hk)); (case aO => exact (by (with_reducible repeat (first | apply Kd.R_alloc | apply Kd.R_drewN | apply Kd.R_drew)); exact RR.out)); (case aS => exact (below_size (by repeat (first | exact BB.out | apply below_alloc)))); (case aL => have := HN.out; simp only [List.length_append, backTail, List.length_map, List.length_reverse, List.length_drop]; omega); intro v9 w9 ho hb hg hat; have BX := Aside0.mk (blk_grown (g := w.heap.size) (o := .cells #[.int .i64 r0, .int .i64 r1] 23 (0, 0)) (by (with_reducible repeat (first | refine blk_drewN ?_ _ | refine blk_drew ?_ | refine blk_alloc ?_ _)); exact BX.out) hg (Kd.R_away RR.out (fun _ hk => hk))); have BB := Aside0.mk hb; have RR := Aside0.mk ho; clear ho hb hg hat))
          go_roundg i
          case measure => omega
          case rel => exact ⟨i, by omega, Nat.le_refl _, rfl, ⟨by rw [backTail_succ xs i hlt, ← List.append_assoc]; exact RR.out⟩, BX, BB⟩
        | zero =>
          have e : ((0 : Nat) : Int) - 1 = -1 := rfl
          rw [e]
          clear e hj hgj
          rw [← Hbk.out] at RW2
          obtain ⟨Ab, cb, hub, hlb, hCb⟩ := Kd.R_reads RW2.out
          subst hub
          have CB := Aside0.mk hCb
          have LB := Aside0.mk hlb
          clear hCb hlb
          have HPx := Aside0.mk (HP.out HJ.out)
          by_cases hn : xs.length = 0
          · skip
            obtain rfl : ps = [] := List.eq_nil_of_length_eq_zero (by have := Hpl.out; omega)
            clear hn
            have hfb := Hfb.out
            go_wp2_with (first | (go_at_call 17; (with_reducible refine (load_Profile.calls k Ab cb bk [] true _ CB.out LB.out HPx.out).mono ?_); rintro e w6 ⟨v0, rfl, hR, hb⟩; obtain ⟨Ap, cp, rfl, hCp, hAp⟩ := own_reads_base (w := w) hR; have CP := Aside0.mk hCp; have CB6 := Aside0.mk (Kd.C_below CB.out hb); have BB6 := Aside0.mk (below_step BB2.out hb); clear hR hCp hAp; have b1_ := blk_below (g := w.heap.size) (o := .cells #[.int .i64 r0, .int .i64 r1] 23 (0, 0)) (by (with_reducible repeat (first | refine blk_drewN ?_ _ | refine blk_drew ?_ | refine blk_alloc ?_ _)); exact BX2.out) hb; have F1_ := Aside0.mk b1_; have cb1_0 := (blk_cell b1_ 0).trans rfl; have zb1_0 := blk_frozen b1_ 0; have cb1_1 := (blk_cell b1_ 1).trans rfl; have zb1_1 := blk_frozen b1_ 1; have lb1_ := blk_lt b1_; clear b1_; clear hb) | (go_at_call 19; (with_reducible refine (load_First.calls r0 r1 A1 c1 xs fi _ (Kd.C_below HR.out BB6.out) HC.out HF.out).mono ?_); rintro e w7 ⟨rfl, hb⟩; clear cb1_0 zb1_0 cb1_1 zb1_1 lb1_; have b2_ := blk_below (g := w.heap.size) (o := .cells #[.int .i64 r0, .int .i64 r1] 23 (0, 0)) (by (with_reducible repeat (first | refine blk_drewN ?_ _ | refine blk_drew ?_ | refine blk_alloc ?_ _)); exact F1_.out) hb; have HB_w7 := Aside0.mk hb; have F2_ := Aside0.mk b2_; have cb2_0 := (blk_cell b2_ 0).trans rfl; have zb2_0 := blk_frozen b2_ 0; have cb2_1 := (blk_cell b2_ 1).trans rfl; have zb2_1 := blk_frozen b2_ 1; have lb2_ := blk_lt b2_; clear b2_; clear hb) | (go_at_call 13; (with_reducible refine (load_Right.calls r0 r1 false _ HRr.out).mono ?_); rintro e w8 ⟨rfl, hb⟩; clear cb2_0 zb2_0 cb2_1 zb2_1 lb2_; have b3_ := blk_below (g := w.heap.size) (o := .cells #[.int .i64 r0, .int .i64 r1] 23 (0, 0)) (by (with_reducible repeat (first | refine blk_drewN ?_ _ | refine blk_drew ?_ | refine blk_alloc ?_ _)); exact F2_.out) hb; have HB_w8 := Aside0.mk hb; have F3_ := Aside0.mk b3_; have cb3_0 := (blk_cell b3_ 0).trans rfl; have zb3_0 := blk_frozen b3_ 0; have cb3_1 := (blk_cell b3_ 1).trans rfl; have zb3_1 := blk_frozen b3_ 1; have lb3_ := blk_lt b3_; clear b3_; clear hb))
            go_ret
            exact ⟨rfl, below_step (below_step BB6.out HB_w7.out) HB_w8.out⟩
          · skip
            have hp0 : 0 < ps.length := by have := Hpl.out; omega
            have hpb : ps.length ≤ 120 := by have := Hpl.out; have := HN.out; omega
            have hp1 : decide ((0 : Int) < (ps.length : Int)) = true := by simp; omega
            have hqz : rd_T23 ps ((ps.length - 1 : Nat) : Int) = ⟨0, 0⟩ := by have h := Hpz.out HJ.out (by omega); have e := Hpl.out; rw [← e] at h; exact h
            have QZ := Aside0.mk hqz
            clear hqz hn
            have hfb := Hfb.out
            go_wp2_with (first | (go_at_call 17; (with_reducible refine (load_Profile.calls k Ab cb bk ps true _ CB.out LB.out HPx.out).mono ?_); rintro e w6 ⟨v0, rfl, hR, hb⟩; obtain ⟨Ap, cp, rfl, hCp, hAp⟩ := own_reads_base (w := w) hR; have CP := Aside0.mk hCp; have CB6 := Aside0.mk (Kd.C_below CB.out hb); have BB6 := Aside0.mk (below_step BB2.out hb); obtain ⟨adp, ep, y0, y1⟩ := at_T23 hCp ((ps.length - 1 : Nat) : Int) (by omega) (by omega); cases ep; rw [QZ.out] at y0 y1; simp only [Int.toNat_natCast] at y0 y1; clear hR hCp hAp; have b1_ := blk_below (g := w.heap.size) (o := .cells #[.int .i64 r0, .int .i64 r1] 23 (0, 0)) (by (with_reducible repeat (first | refine blk_drewN ?_ _ | refine blk_drew ?_ | refine blk_alloc ?_ _)); exact BX2.out) hb; have F1_ := Aside0.mk b1_; have cb1_0 := (blk_cell b1_ 0).trans rfl; have zb1_0 := blk_frozen b1_ 0; have cb1_1 := (blk_cell b1_ 1).trans rfl; have zb1_1 := blk_frozen b1_ 1; have lb1_ := blk_lt b1_; clear b1_; clear hb) | (go_at_call 19; (with_reducible refine (load_First.calls r0 r1 A1 c1 xs fi _ (Kd.C_below HR.out BB6.out) HC.out HF.out).mono ?_); rintro e w7 ⟨rfl, hb⟩; clear cb1_0 zb1_0 cb1_1 zb1_1 lb1_; have b2_ := blk_below (g := w.heap.size) (o := .cells #[.int .i64 r0, .int .i64 r1] 23 (0, 0)) (by (with_reducible repeat (first | refine blk_drewN ?_ _ | refine blk_drew ?_ | refine blk_alloc ?_ _)); exact F1_.out) hb; have HB_w7 := Aside0.mk hb; have F2_ := Aside0.mk b2_; have cb2_0 := (blk_cell b2_ 0).trans rfl; have zb2_0 := blk_frozen b2_ 0; have cb2_1 := (blk_cell b2_ 1).trans rfl; have zb2_1 := blk_frozen b2_ 1; have lb2_ := blk_lt b2_; clear b2_; clear hb) | (go_at_call 13; (with_reducible refine (load_Right.calls r0 r1 false _ HRr.out).mono ?_); rintro e w8 ⟨rfl, hb⟩; clear cb2_0 zb2_0 cb2_1 zb2_1 lb2_; have b3_ := blk_below (g := w.heap.size) (o := .cells #[.int .i64 r0, .int .i64 r1] 23 (0, 0)) (by (with_reducible repeat (first | refine blk_drewN ?_ _ | refine blk_drew ?_ | refine blk_alloc ?_ _)); exact F2_.out) hb; have HB_w8 := Aside0.mk hb; have F3_ := Aside0.mk b3_; have cb3_0 := (blk_cell b3_ 0).trans rfl; have zb3_0 := blk_frozen b3_ 0; have cb3_1 := (blk_cell b3_ 1).trans rfl; have zb3_1 := blk_frozen b3_ 1; have lb3_ := blk_lt b3_; clear b3_; clear hb))
            go_ret
            exact ⟨rfl, below_step (below_step BB6.out HB_w7.out) HB_w8.out⟩

set_option maxHeartbeats 8000000 in
set_option maxRecDepth 100000 in
theorem loadBack_walk00 (k : Nat) (r0 r1 more : Int) (bk : List S23) (A1 : Option Addr) (c1 : Nat) (xs ps : List S23) (fi fj fk p0 p1 : Int) (w : World) (hr : Kd.C k23 w A1 xs.length xs) (hc : xs.length ≤ c1) (hlen : xs.length ≤ 60) (hbk : bk = xs ++ backTail xs 0)
    (hP : (∀ j, j < xs.length → rightB (rd_T23 xs j) = true) → load_Profile.f k bk = some (ps, true)) (hpl : ps.length = 2 * xs.length) (hpz : (∀ j, j < xs.length → rightB (rd_T23 xs j) = true) → 0 < xs.length → rd_T23 ps (2 * xs.length - 1 : Nat) = ⟨0, 0⟩)
    (hF : load_First.f r0 r1 xs = some fi) (hfb : decide (fi < 0) = false) (hRr : load_Right.f r0 r1 = some false) :
    Calls Try.prog 5 #[.agg #[.int .i64 r0, .int .i64 r1], .slice A1 xs.length c1, .int .i64 more] w fun e w' => e = .returned (.bool true) ∧ Below w.heap.size w w' := by
  have hu23 := Try.underlying23
  have HR := Aside0.mk hr
  have HC := Aside0.mk hc
  have h1 : decide ((60 : Int) < (xs.length : Int)) = false := by simp; omega
  have HN := Aside0.mk hlen
  have Hbk := Aside0.mk hbk
  have HP := Aside0.mk hP
  have Hpl := Aside0.mk hpl
  have Hpz := Aside0.mk hpz
  have HF := Aside0.mk hF
  have Hfb := Aside0.mk hfb
  have HRr := Aside0.mk hRr
  clear hr hc hlen hbk hP hpl hpz hF hfb hRr
  go_enter Try.func5, Try.ntmps5
  go_wp2_with (first | (go_at_call 8; (with_reducible refine (jitneylaw04_alive.calls true _ rfl).mono ?_); rintro e w0 ⟨rfl, hb⟩; have b1_ := blk_below (g := w.heap.size) (o := .cells #[.int .i64 r0, .int .i64 r1] 23 (0, 0)) (blk_new w _) hb; have HB_w0 := Aside0.mk hb; have F1_ := Aside0.mk b1_; have cb1_0 := (blk_cell b1_ 0).trans rfl; have zb1_0 := blk_frozen b1_ 0; have cb1_1 := (blk_cell b1_ 1).trans rfl; have zb1_1 := blk_frozen b1_ 1; have lb1_ := blk_lt b1_; clear b1_; clear hb))
  clear cb1_0 zb1_0 cb1_1 zb1_1 lb1_
  have BW := Aside0.mk (below_step (below_alloc (Below.refl _ _) _) HB_w0.out)
  obtain ⟨w1, hw1⟩ : ∃ w1, w1 = w0.alloc (.cells #[] 23 (0, 0)) := ⟨_, rfl⟩
  rw [← hw1]
  have R0 := Aside0.mk (show Kd.R k23 23 w1 w.heap.size (fun k_ => k_ ≠ w.heap.size) (.slice (some ⟨w0.heap.size, 0, none⟩) 0 0) (xs.take 0) by rw [hw1]; exact R_empty k23 23 (below_size BW.out) (Nat.ne_of_gt (blk_lt F1_.out)) w0)
  have B0 := Aside0.mk (show w1.heap[w.heap.size]? = some (.cells #[.int .i64 r0, .int .i64 r1] 23 (0, 0)) by rw [hw1]; exact blk_alloc F1_.out _)
  have BB0 := Aside0.mk (show Below w.heap.size w w1 by rw [hw1]; exact below_alloc BW.out _)
  clear hw1
  go_loopg [7, 23] xs.length (fun gg v7 v23 wr => ∃ kk : Nat, kk ≤ xs.length ∧ xs.length - kk ≤ gg ∧ v23 = .int .i64 kk ∧ Aside0 (Kd.R k23 23 wr w.heap.size (fun k_ => k_ ≠ w.heap.size) v7 (xs.take kk)) ∧ Aside0 (wr.heap[w.heap.size]? = some (.cells #[.int .i64 r0, .int .i64 r1] 23 (0, 0))) ∧ Aside0 (Below w.heap.size w wr) ∧ Aside0 (∀ j, j < kk → rightB (rd_T23 xs j) = true))
  case atStart => exact ⟨0, Nat.zero_le _, by omega, rfl, R0, B0, BB0, ⟨fun j hj => absurd hj (Nat.not_lt_zero _)⟩⟩
  case round =>
    clear R0 B0 BB0
    obtain ⟨kk, hkk, hg, rfl, RW, BX0, BB1, HJ⟩ := hrel
    by_cases hlt : kk < xs.length
    · have hltz : decide ((kk : Int) < (xs.length : Int)) = true := by simp; omega
      obtain ⟨ad, e1, x0, x1⟩ := at_T23 (Kd.C_below HR.out BB1.out) (kk : Int) (by omega) (by omega)
      cases e1
      simp only [Int.toNat_natCast] at x0 x1
      have hml := HN.out
      have HRk := Aside0.mk (right_is (rd_T23 xs (kk : Int)))
      cases hq : rightB (rd_T23 xs (kk : Int)) with
      | false =>
        rw [hq] at HRk
        go_wp2_with (go_at_call 13; (with_reducible refine (load_Right.calls (rd_T23 xs (kk : Int)).f0 (rd_T23 xs (kk : Int)).f1 false _ HRk.out).mono ?_); rintro e w5 ⟨rfl, hb⟩; have RR := Aside0.mk (Kd.R_below (Kd.R_alloc RW.out _) hb); have BX := Aside0.mk (blk_below (blk_alloc BX0.out _) hb); have BT := blk_below (blk_new wr _) hb; have BB := Aside0.mk (below_step (below_alloc BB1.out _) hb); have t0 := (blk_cell BT 0).trans rfl; have t1 := (blk_cell BT 1).trans rfl; have tl := blk_lt BT; clear BT hb)
        go_ret
        exact ⟨rfl, BB.out⟩
      | true =>
        rw [hq] at HRk
        have HQ := Aside0.mk hq
        clear hq
        go_wp2_with (first | (go_at_call 13; (with_reducible refine (load_Right.calls (rd_T23 xs (kk : Int)).f0 (rd_T23 xs (kk : Int)).f1 true _ HRk.out).mono ?_); rintro e w5 ⟨rfl, hb⟩; have RR := Aside0.mk (Kd.R_below (Kd.R_alloc RW.out _) hb); have BX := Aside0.mk (blk_below (blk_alloc BX0.out _) hb); have BT := blk_below (blk_new wr _) hb; have BB := Aside0.mk (below_step (below_alloc BB1.out _) hb); have t0 := (blk_cell BT 0).trans rfl; have t1 := (blk_cell BT 1).trans rfl; have tl := blk_lt BT; clear BT hb) | ((with_reducible refine gate_builtin (b := .append) (xs := #[.tmp 30, .tmp 32]) rfl ?_); at_builtin; refine Kd.R_append k23 (w0 := w) w.heap.size rfl (.tmp 30) (.tmp 32) 30 23 (.agg #[(.int .i64 0), (.int .i64 0)]) 16 rfl Try.underlying30 info23 rfl (by decide) (by omega) u7 (xs.take kk) (rd_T23 xs (kk : Int)) [.int .i64 (rd_T23 xs (kk : Int)).f0, .int .i64 (rd_T23 xs (kk : Int)).f1] (fun k_ => k_ ≠ w.heap.size) (fun _ => False) rfl rfl ?aP (fun _ hk => hk.elim) ?aF ?aO ?aB ?aS ?aL ?_; (case aP => exact k23_mkM _ _ _ (rd_T23 xs (kk : Int))); (case aB => exact (by repeat (first | exact BB.out | apply below_alloc))); (case aF => exact (fun k_ hk => Kd.freshB (g := w.heap.size) (o := .cells #[.int .i64 r0, .int .i64 r1] 23 (0, 0)) (by (with_reducible repeat (first | refine blk_drewN ?_ _ | refine blk_drew ?_ | refine blk_alloc ?_ _)); exact BX.out) k_ hk)); (case aO => exact (by (with_reducible repeat (first | apply Kd.R_alloc | apply Kd.R_drewN | apply Kd.R_drew)); exact RR.out)); (case aS => exact (below_size (by repeat (first | exact BB.out | apply below_alloc)))); (case aL => have := HN.out; rw [List.length_take]; omega); intro v9 w9 ho hb hg hat; have BX := Aside0.mk (blk_grown (g := w.heap.size) (o := .cells #[.int .i64 r0, .int .i64 r1] 23 (0, 0)) (by (with_reducible repeat (first | refine blk_drewN ?_ _ | refine blk_drew ?_ | refine blk_alloc ?_ _)); exact BX.out) hg (Kd.R_away RR.out (fun _ hk => hk))); have BB := Aside0.mk hb; have RR := Aside0.mk ho; clear ho hb hg hat))
        go_roundg (xs.length - (kk + 1))
        case measure => omega
        case rel =>
          refine ⟨kk + 1, by omega, by omega, by go_num, ⟨by rw [take_succ_rd xs kk hlt]; exact RR.out⟩, BX, BB, ⟨fun j hj => ?_⟩⟩
          by_cases e : j = kk
          · subst e; exact HQ.out
          · exact HJ.out j (by omega)
    · have hltz : decide ((kk : Int) < (xs.length : Int)) = false := by simp; omega
      have : kk = xs.length := by omega
      subst this
      have hml := HN.out
      obtain ⟨wo, hwo⟩ : ∃ wo : World, wo = wr := ⟨_, rfl⟩
      rw [← hwo] at RW BX0 BB1
      have RW0 := Aside0.mk (show Kd.R k23 23 wo w.heap.size (fun k_ => k_ ≠ w.heap.size) u7 (xs ++ backTail xs xs.length) by have h := RW.out; rw [List.take_length] at h; simpa [backTail] using h)
      go_wp2
      rw [← hwo]
      clear hwo RW
      go_loopg [7, 10] xs.length (fun gg v7 v10 wr => ∃ j : Nat, j ≤ xs.length ∧ j ≤ gg ∧ v10 = .int .i64 ((j : Int) - 1) ∧ Aside0 (Kd.R k23 23 wr w.heap.size (fun k_ => k_ ≠ w.heap.size) v7 (xs ++ backTail xs j)) ∧ Aside0 (wr.heap[w.heap.size]? = some (.cells #[.int .i64 r0, .int .i64 r1] 23 (0, 0))) ∧ Aside0 (Below w.heap.size w wr))
      case atStart => exact ⟨xs.length, Nat.le_refl _, Nat.le_refl _, rfl, RW0, BX0, BB1⟩
      case round =>
        clear RW0 BX0 BB1
        obtain ⟨j, hj, hgj, rfl, RW2, BX2, BB2⟩ := hrel
        cases j with
        | succ i =>
          have e : ((i + 1 : Nat) : Int) - 1 = (i : Int) := by omega
          rw [e]
          clear e
          have hlt : i < xs.length := by omega
          have hltz : decide ((i : Int) < (xs.length : Int)) = true := by simp; omega
          obtain ⟨ad, e1, x0, x1⟩ := at_T23 (Kd.C_below HR.out BB2.out) (i : Int) (by omega) (by omega)
          cases e1
          simp only [Int.toNat_natCast] at x0 x1
          have HNk := Aside0.mk (neg_isV (rd_T23 xs (i : Int)))
          go_wp2_with (first | (go_at_call 11; (with_reducible refine (load_Neg.calls (rd_T23 xs (i : Int)).f0 (rd_T23 xs (i : Int)).f1 (negV (rd_T23 xs (i : Int))).f0 (negV (rd_T23 xs (i : Int))).f1 _ HNk.out).mono ?_); rintro e w5 ⟨rfl, hb⟩; have RR := Aside0.mk (Kd.R_below RW2.out hb); have BX := Aside0.mk (blk_below BX2.out hb); have BB := Aside0.mk (below_step BB2.out hb); clear hb) | ((with_reducible refine gate_builtin (b := .append) (xs := #[.tmp 42, .tmp 48]) rfl ?_); at_builtin; refine Kd.R_append k23 (w0 := w) w.heap.size rfl (.tmp 42) (.tmp 48) 30 23 (.agg #[(.int .i64 0), (.int .i64 0)]) 16 rfl Try.underlying30 info23 rfl (by decide) (by omega) u7 (xs ++ backTail xs (i + 1)) (negV (rd_T23 xs (i : Int))) [.int .i64 (negV (rd_T23 xs (i : Int))).f0, .int .i64 (negV (rd_T23 xs (i : Int))).f1] (fun k_ => k_ ≠ w.heap.size) (fun _ => False) rfl rfl ?aP (fun _ hk => hk.elim) ?aF ?aO ?aB ?aS ?aL ?_; (case aP => exact k23_mkM _ _ _ (negV (rd_T23 xs (i : Int)))); (case aB => exact (by repeat (first | exact BB.out | apply below_alloc))); (case aF => exact (fun k_ hk => Kd.freshB (g := w.heap.size) (o := .cells #[.int .i64 r0, .int .i64 r1] 23 (0, 0)) (by (with_reducible repeat (first | refine blk_drewN ?_ _ | refine blk_drew ?_ | refine blk_alloc ?_ _)); exact BX.out) k_ hk)); (case aO => exact (by (with_reducible repeat (first | apply Kd.R_alloc | apply Kd.R_drewN | apply Kd.R_drew)); exact RR.out)); (case aS => exact (below_size (by repeat (first | exact BB.out | apply below_alloc)))); (case aL => have := HN.out; simp only [List.length_append, backTail, List.length_map, List.length_reverse, List.length_drop]; omega); intro v9 w9 ho hb hg hat; have BX := Aside0.mk (blk_grown (g := w.heap.size) (o := .cells #[.int .i64 r0, .int .i64 r1] 23 (0, 0)) (by (with_reducible repeat (first | refine blk_drewN ?_ _ | refine blk_drew ?_ | refine blk_alloc ?_ _)); exact BX.out) hg (Kd.R_away RR.out (fun _ hk => hk))); have BB := Aside0.mk hb; have RR := Aside0.mk ho; clear ho hb hg hat))
          go_roundg i
          case measure => omega
          case rel => exact ⟨i, by omega, Nat.le_refl _, rfl, ⟨by rw [backTail_succ xs i hlt, ← List.append_assoc]; exact RR.out⟩, BX, BB⟩
        | zero =>
          have e : ((0 : Nat) : Int) - 1 = -1 := rfl
          rw [e]
          clear e hj hgj
          rw [← Hbk.out] at RW2
          obtain ⟨Ab, cb, hub, hlb, hCb⟩ := Kd.R_reads RW2.out
          subst hub
          have CB := Aside0.mk hCb
          have LB := Aside0.mk hlb
          clear hCb hlb
          have HPx := Aside0.mk (HP.out HJ.out)
          by_cases hn : xs.length = 0
          · skip
            obtain rfl : ps = [] := List.eq_nil_of_length_eq_zero (by have := Hpl.out; omega)
            clear hn
            have hfb := Hfb.out
            go_wp2_with (first | (go_at_call 17; (with_reducible refine (load_Profile.calls k Ab cb bk [] true _ CB.out LB.out HPx.out).mono ?_); rintro e w6 ⟨v0, rfl, hR, hb⟩; obtain ⟨Ap, cp, rfl, hCp, hAp⟩ := own_reads_base (w := w) hR; have CP := Aside0.mk hCp; have CB6 := Aside0.mk (Kd.C_below CB.out hb); have BB6 := Aside0.mk (below_step BB2.out hb); clear hR hCp hAp; have b1_ := blk_below (g := w.heap.size) (o := .cells #[.int .i64 r0, .int .i64 r1] 23 (0, 0)) (by (with_reducible repeat (first | refine blk_drewN ?_ _ | refine blk_drew ?_ | refine blk_alloc ?_ _)); exact BX2.out) hb; have F1_ := Aside0.mk b1_; have cb1_0 := (blk_cell b1_ 0).trans rfl; have zb1_0 := blk_frozen b1_ 0; have cb1_1 := (blk_cell b1_ 1).trans rfl; have zb1_1 := blk_frozen b1_ 1; have lb1_ := blk_lt b1_; clear b1_; clear hb) | (go_at_call 19; (with_reducible refine (load_First.calls r0 r1 A1 c1 xs fi _ (Kd.C_below HR.out BB6.out) HC.out HF.out).mono ?_); rintro e w7 ⟨rfl, hb⟩; clear cb1_0 zb1_0 cb1_1 zb1_1 lb1_; have b2_ := blk_below (g := w.heap.size) (o := .cells #[.int .i64 r0, .int .i64 r1] 23 (0, 0)) (by (with_reducible repeat (first | refine blk_drewN ?_ _ | refine blk_drew ?_ | refine blk_alloc ?_ _)); exact F1_.out) hb; have HB_w7 := Aside0.mk hb; have F2_ := Aside0.mk b2_; have cb2_0 := (blk_cell b2_ 0).trans rfl; have zb2_0 := blk_frozen b2_ 0; have cb2_1 := (blk_cell b2_ 1).trans rfl; have zb2_1 := blk_frozen b2_ 1; have lb2_ := blk_lt b2_; clear b2_; clear hb) | (go_at_call 13; (with_reducible refine (load_Right.calls r0 r1 false _ HRr.out).mono ?_); rintro e w8 ⟨rfl, hb⟩; clear cb2_0 zb2_0 cb2_1 zb2_1 lb2_; have b3_ := blk_below (g := w.heap.size) (o := .cells #[.int .i64 r0, .int .i64 r1] 23 (0, 0)) (by (with_reducible repeat (first | refine blk_drewN ?_ _ | refine blk_drew ?_ | refine blk_alloc ?_ _)); exact F2_.out) hb; have HB_w8 := Aside0.mk hb; have F3_ := Aside0.mk b3_; have cb3_0 := (blk_cell b3_ 0).trans rfl; have zb3_0 := blk_frozen b3_ 0; have cb3_1 := (blk_cell b3_ 1).trans rfl; have zb3_1 := blk_frozen b3_ 1; have lb3_ := blk_lt b3_; clear b3_; clear hb))
            go_ret
            exact ⟨rfl, below_step (below_step BB6.out HB_w7.out) HB_w8.out⟩
          · skip
            have hp0 : 0 < ps.length := by have := Hpl.out; omega
            have hpb : ps.length ≤ 120 := by have := Hpl.out; have := HN.out; omega
            have hp1 : decide ((0 : Int) < (ps.length : Int)) = true := by simp; omega
            have hqz : rd_T23 ps ((ps.length - 1 : Nat) : Int) = ⟨0, 0⟩ := by have h := Hpz.out HJ.out (by omega); have e := Hpl.out; rw [← e] at h; exact h
            have QZ := Aside0.mk hqz
            clear hqz hn
            have hfb := Hfb.out
            go_wp2_with (first | (go_at_call 17; (with_reducible refine (load_Profile.calls k Ab cb bk ps true _ CB.out LB.out HPx.out).mono ?_); rintro e w6 ⟨v0, rfl, hR, hb⟩; obtain ⟨Ap, cp, rfl, hCp, hAp⟩ := own_reads_base (w := w) hR; have CP := Aside0.mk hCp; have CB6 := Aside0.mk (Kd.C_below CB.out hb); have BB6 := Aside0.mk (below_step BB2.out hb); obtain ⟨adp, ep, y0, y1⟩ := at_T23 hCp ((ps.length - 1 : Nat) : Int) (by omega) (by omega); cases ep; rw [QZ.out] at y0 y1; simp only [Int.toNat_natCast] at y0 y1; clear hR hCp hAp; have b1_ := blk_below (g := w.heap.size) (o := .cells #[.int .i64 r0, .int .i64 r1] 23 (0, 0)) (by (with_reducible repeat (first | refine blk_drewN ?_ _ | refine blk_drew ?_ | refine blk_alloc ?_ _)); exact BX2.out) hb; have F1_ := Aside0.mk b1_; have cb1_0 := (blk_cell b1_ 0).trans rfl; have zb1_0 := blk_frozen b1_ 0; have cb1_1 := (blk_cell b1_ 1).trans rfl; have zb1_1 := blk_frozen b1_ 1; have lb1_ := blk_lt b1_; clear b1_; clear hb) | (go_at_call 19; (with_reducible refine (load_First.calls r0 r1 A1 c1 xs fi _ (Kd.C_below HR.out BB6.out) HC.out HF.out).mono ?_); rintro e w7 ⟨rfl, hb⟩; clear cb1_0 zb1_0 cb1_1 zb1_1 lb1_; have b2_ := blk_below (g := w.heap.size) (o := .cells #[.int .i64 r0, .int .i64 r1] 23 (0, 0)) (by (with_reducible repeat (first | refine blk_drewN ?_ _ | refine blk_drew ?_ | refine blk_alloc ?_ _)); exact F1_.out) hb; have HB_w7 := Aside0.mk hb; have F2_ := Aside0.mk b2_; have cb2_0 := (blk_cell b2_ 0).trans rfl; have zb2_0 := blk_frozen b2_ 0; have cb2_1 := (blk_cell b2_ 1).trans rfl; have zb2_1 := blk_frozen b2_ 1; have lb2_ := blk_lt b2_; clear b2_; clear hb) | (go_at_call 13; (with_reducible refine (load_Right.calls r0 r1 false _ HRr.out).mono ?_); rintro e w8 ⟨rfl, hb⟩; clear cb2_0 zb2_0 cb2_1 zb2_1 lb2_; have b3_ := blk_below (g := w.heap.size) (o := .cells #[.int .i64 r0, .int .i64 r1] 23 (0, 0)) (by (with_reducible repeat (first | refine blk_drewN ?_ _ | refine blk_drew ?_ | refine blk_alloc ?_ _)); exact F2_.out) hb; have HB_w8 := Aside0.mk hb; have F3_ := Aside0.mk b3_; have cb3_0 := (blk_cell b3_ 0).trans rfl; have zb3_0 := blk_frozen b3_ 0; have cb3_1 := (blk_cell b3_ 1).trans rfl; have zb3_1 := blk_frozen b3_ 1; have lb3_ := blk_lt b3_; clear b3_; clear hb))
            go_ret
            exact ⟨rfl, below_step (below_step BB6.out HB_w7.out) HB_w8.out⟩
end Go.Proofs.Ytocoapfnkkmkiaa.P
