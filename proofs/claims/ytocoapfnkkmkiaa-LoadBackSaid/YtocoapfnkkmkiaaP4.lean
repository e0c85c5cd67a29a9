-- printed by the session's own program wip/xprint.py (over the kit's printer); nothing here is trusted: Lean checks it
import Derived.Test.YtocoapfnkkmkiaaP0
import Derived.Test.YtocoapfnkkmkiaaP2
namespace Go.Proofs.Ytocoapfnkkmkiaa.P
open Go.Proofs.YtocoapfnkkmkiaaR
open Go.RowKit Go.Proofs.YtocoapfnkkmkiaaW.PrintWords Go.Proofs.YtocoapfnkkmkiaaW.PrintLast Go.Proofs.YtocoapfnkkmkiaaW.PrintMore
attribute [local go_sem] max2_int min2_int max_two min_two max_three min_three max_four min_four   -- for this text's walks alone
set_option linter.unusedVariables false
set_option linter.unusedSimpArgs false

-- EXTERN 21 load_Peak: by hand
def load_Peak.top (m p : S23) : S23 := ⟨max m.f0 p.f0, max m.f1 p.f1⟩
def load_Peak.go (l : List S23) : Nat → S23
  | 0 => ⟨0, 0⟩
  | j + 1 => load_Peak.top (load_Peak.go l j) (rd_T23 l j)
def load_Peak.f (k : Nat) (l0 : List (S23)) : Option (Int × Int) := (load_Profile.f k l0).bind fun t => some ((load_Peak.go t.1 t.1.length).f0, (load_Peak.go t.1 t.1.length).f1)
theorem load_Peak.mono : ∀ a0 k, LeO (load_Peak.f k a0) (load_Peak.f (k + 1) a0) := by
  intro a0 k
  unfold load_Peak.f
  exact LeO.bind (load_Profile.mono _ _) (fun _ => LeO.refl _)

theorem own_reads_base {w w1 : World} {base : Nat} {v : Value} {xs : List S23} (h : Kd.R k23 23 w1 base (fun _ => True) v xs) : ∃ A c, v = .slice A xs.length c ∧ Kd.C k23 w1 A xs.length xs ∧ ∀ ad, A = some ad → base ≤ ad.block ∧ ad.block < w1.heap.size := by
  obtain ⟨A, c, rfl, _, hC⟩ := Kd.R_reads h
  obtain ⟨inner, ho⟩ := Kd.R_own h
  refine ⟨A, c, rfl, hC, ?_⟩
  rintro ad rfl
  have e : (Value.slice (some ad) xs.length c).ownBlock = some ad.block := rfl
  exact ⟨own_base ho _ e, own_lt ho _ e⟩

set_option maxHeartbeats 8000000 in
set_option maxRecDepth 100000 in
theorem load_Peak.calls (k : Nat) (A0 : Option Addr) (c0 : Nat) (l0 : List (S23)) (r1 : Int) (r2 : Int) (w : World) (hr0 : Kd.C k23 w A0 l0.length l0) (hc0 : l0.length ≤ c0) (h : load_Peak.f k l0 = some (r1, r2)) :
    Calls Try.prog 21 #[.slice A0 l0.length c0] w fun e w' => e = .returned (.agg #[.int .i64 r1, .int .i64 r2]) ∧ Below w.heap.size w w' := by
  have hu23 := Try.underlying23
  have HR0 := Aside0.mk hr0
  have HC0 := Aside0.mk hc0
  unfold load_Peak.f at h
  obtain ⟨⟨ps, ok⟩, hP, h⟩ := Option.bind_eq_some_iff.mp h
  simp only [Option.some.injEq, Prod.mk.injEq] at h
  obtain ⟨rfl, rfl⟩ := h
  have HP := Aside0.mk hP
  clear hr0 hc0 hP
  go_enter Try.func21, Try.ntmps21
  go_wp2_with (go_at_call 17; go_loud (refine (load_Profile.calls k A0 c0 l0 ps ok _ (Kd.C_below HR0.out (below_alloc (below_alloc (Below.refl _ _) _) _)) HC0.out HP.out).mono ?_; rintro e w1 ⟨v0, rfl, hR, hb⟩; obtain ⟨A, c, rfl, hC, hA⟩ := own_reads_base (w := w) hR; have HA := Aside0.mk hA; have HC := Aside0.mk hC; have HB := Aside0.mk hb; clear hR hA hC hb))
  have B3 := Aside0.mk (blk_below (heap_alloc2_new w _ _) HB.out)
  have LW := Aside0.mk (show w.heap.size + 2 ≤ w1.heap.size by have h1 := HB.out.size; simp at h1; omega)
  obtain ⟨w0, hw0⟩ : ∃ w0, w0 = w1 := ⟨_, rfl⟩
  have K0 := Aside0.mk (show KeepW w1 w0 (w.heap.size + 1) by rw [hw0]; exact KeepW.refl _ _)
  have B0 := Aside0.mk (show w0.heap[w.heap.size + 1]? = some (.cells #[.int .i64 0, .int .i64 0] 23 (0, 0)) by rw [hw0]; exact B3.out)
  rw [← hw0]
  clear hw0
  go_loopg [15] ps.length (fun gg v15 wr => ∃ kk : Nat, kk ≤ ps.length ∧ ps.length - kk ≤ gg ∧ v15 = .int .i64 kk ∧ Aside0 (wr.heap[w.heap.size + 1]? = some (.cells #[.int .i64 (load_Peak.go ps kk).f0, .int .i64 (load_Peak.go ps kk).f1] 23 (0, 0))) ∧ Aside0 (KeepW w1 wr (w.heap.size + 1)))
  case atStart => exact ⟨0, Nat.zero_le _, by omega, rfl, B0, K0⟩
  case round =>
    clear B0 K0 B3
    obtain ⟨kk, hkk, hg, rfl, B3, KW⟩ := hrel
    by_cases hlt : kk < ps.length
    · have hltz : decide ((kk : Int) < (ps.length : Int)) = true := by simp; omega
      obtain ⟨ad, e119, hx0, hx1⟩ := at_T23 HC.out (kk : Int) (by omega) (by omega)
      cases e119
      simp only [Int.toNat_natCast] at hx0 hx1
      have hbl := (HA.out ad rfl).1
      have hne : (ad.add (kk * 2)).block ≠ w.heap.size + 1 := by
        rw [add_block]
        have h1 : ((w.alloc (.cells #[.int .i64 0, .int .i64 0] 23)).alloc (.cells #[.int .i64 0, .int .i64 0] 23)).heap.size = w.heap.size + 2 := by simp
        omega
      have hy0 := KW.out.cell hx0 hne
      have hy1 := KW.out.cell hx1 hne
      clear hx0 hx1 hbl hne
      obtain ⟨c0, c1, f0, f1⟩ := two B3.out
      have L3 := blk_lt B3.out
      have L3s : w.heap.size + 1 < wr.heap.size + 1 := by omega
      have N3 : ¬ wr.heap.size = w.heap.size + 1 := by omega
      have N3' : ¬ w.heap.size + 1 = wr.heap.size := by omega
      go_wp2
      obtain ⟨m0, hm0⟩ : ∃ m0 : Int, m0 = max (load_Peak.go ps kk).f0 (rd_T23 ps kk).f0 := ⟨_, rfl⟩
      obtain ⟨m1, hm1⟩ : ∃ m1 : Int, m1 = max (load_Peak.go ps kk).f1 (rd_T23 ps kk).f1 := ⟨_, rfl⟩
      refine wp_region_told (phiC [.pointer (some ⟨w.heap.size + 1, 0, none⟩), .int .i64 (load_Peak.go ps kk).f0, .pointer (some ⟨wr.heap.size, 0, none⟩), .int .i64 (rd_T23 ps kk).f0, .int .i64 m0,
        .pointer (some ⟨w.heap.size + 1, 1, none⟩), .int .i64 (load_Peak.go ps kk).f1, .pointer (some ⟨wr.heap.size, 1, none⟩), .int .i64 (rd_T23 ps kk).f1, .int .i64 m1,
        .pointer (some ⟨w.heap.size + 1, 0, none⟩), undef, .pointer (some ⟨w.heap.size + 1, 1, none⟩)  , undef])
        (fun E _ W => W.heap[w.heap.size + 1]? = some (.cells #[.int .i64 (if E 11 then m0 else (load_Peak.go ps kk).f0), .int .i64 (if E 13 then m1 else (load_Peak.go ps kk).f1)] 23 (0, 0)) ∧ W.heap[wr.heap.size]? = some (.cells #[.int .i64 (rd_T23 ps kk).f0, .int .i64 (rd_T23 ps kk).f1] 23 (0, 0)) ∧ KeepW wr W (w.heap.size + 1))
        rfl (by kernel_rfl) ?hW ?howes ?hend
      case hW => exact ⟨by simpa using blk_alloc B3.out _, heap_alloc_new wr _, KeepW.of_below (below_drew (below_alloc (Below.refl _ _) _)) _⟩
      case howes =>
        refine ⟨?_, ?_, ?_, ?_, ?_, ?_, ?_, ?_, ?_, ?_, ?_, ?_, ?_, ?_, trivial⟩
        · refine owes_val rfl (fun E _ _ W hE hW => by simpa [upd] using hW) (fun E vs a W hI hE hp => ?_)
          have e := hI.outer (d := 3) (by rfl) rfl
          refine ⟨_, ?_, rfl⟩
          simp only [execOp, e]
          rfl
        · refine owes_val rfl (fun E _ _ W hE hW => by simpa [upd] using hW) (fun E vs a W hI hE hp => ?_)
          have e : a.eval (.tmp 19) = .pointer (some ⟨w.heap.size + 1, 0, none⟩) := hI.phi 0 rfl rfl (pred_of hp 0 rfl) rfl
          have n11 := hI.notYet hE 11 rfl rfl
          have n13 := hI.notYet hE 13 rfl rfl
          have hb := hI.world.2.1
          rw [n11, n13] at hb
          obtain ⟨c0, c1, f0, f1⟩ := two hb
          clear hb
          refine ⟨_, ?_, rfl⟩
          simp only [execOp, e]
          go_simp
        · refine owes_val rfl (fun E _ _ W hE hW => by simpa [upd] using hW) (fun E vs a W hI hE hp => ?_)
          have e := hI.outer (d := 7) (by rfl) rfl
          refine ⟨_, ?_, rfl⟩
          simp only [execOp, e]
          rfl
        · refine owes_val rfl (fun E _ _ W hE hW => by simpa [upd] using hW) (fun E vs a W hI hE hp => ?_)
          have e : a.eval (.tmp 21) = .pointer (some ⟨wr.heap.size, 0, none⟩) := hI.phi 2 rfl rfl (pred_of hp 2 rfl) rfl
          have hb := hI.world.2.2.1
          obtain ⟨c0, c1, f0, f1⟩ := two hb
          clear hb
          refine ⟨_, ?_, rfl⟩
          simp only [execOp, e]
          go_simp
        · refine owes_val rfl (fun E _ _ W hE hW => by simpa [upd] using hW) (fun E vs a W hI hE hp => ?_)
          have e1 : a.eval (.tmp 20) = .int .i64 (load_Peak.go ps kk).f0 := hI.phi 1 rfl rfl (pred_of hp 1 rfl) rfl
          have e2 : a.eval (.tmp 22) = .int .i64 (rd_T23 ps kk).f0 := hI.phi 3 rfl rfl (pred_of hp 3 rfl) rfl
          refine ⟨_, ?_, rfl⟩
          simp only [execOp, resolve, List.map_toArray, List.map_cons, List.map_nil, e1, e2, hm0]
          go_simp
          split <;> omega
        · refine owes_val rfl (fun E _ _ W hE hW => by simpa [upd] using hW) (fun E vs a W hI hE hp => ?_)
          have e := hI.outer (d := 3) (by rfl) rfl
          refine ⟨_, ?_, rfl⟩
          simp only [execOp, e]
          rfl
        · refine owes_val rfl (fun E _ _ W hE hW => by simpa [upd] using hW) (fun E vs a W hI hE hp => ?_)
          have e : a.eval (.tmp 24) = .pointer (some ⟨w.heap.size + 1, 1, none⟩) := hI.phi 5 rfl rfl (pred_of hp 5 rfl) rfl
          have n13 := hI.notYet hE 13 rfl rfl
          have hb := hI.world.2.1
          rw [n13] at hb
          obtain ⟨c0, c1, f0, f1⟩ := two hb
          clear hb
          refine ⟨_, ?_, rfl⟩
          simp only [execOp, e]
          go_simp
        · refine owes_val rfl (fun E _ _ W hE hW => by simpa [upd] using hW) (fun E vs a W hI hE hp => ?_)
          have e := hI.outer (d := 7) (by rfl) rfl
          refine ⟨_, ?_, rfl⟩
          simp only [execOp, e]
          rfl
        · refine owes_val rfl (fun E _ _ W hE hW => by simpa [upd] using hW) (fun E vs a W hI hE hp => ?_)
          have e : a.eval (.tmp 26) = .pointer (some ⟨wr.heap.size, 1, none⟩) := hI.phi 7 rfl rfl (pred_of hp 7 rfl) rfl
          have hb := hI.world.2.2.1
          obtain ⟨c0, c1, f0, f1⟩ := two hb
          clear hb
          refine ⟨_, ?_, rfl⟩
          simp only [execOp, e]
          go_simp
        · refine owes_val rfl (fun E _ _ W hE hW => by simpa [upd] using hW) (fun E vs a W hI hE hp => ?_)
          have e1 : a.eval (.tmp 25) = .int .i64 (load_Peak.go ps kk).f1 := hI.phi 6 rfl rfl (pred_of hp 6 rfl) rfl
          have e2 : a.eval (.tmp 27) = .int .i64 (rd_T23 ps kk).f1 := hI.phi 8 rfl rfl (pred_of hp 8 rfl) rfl
          refine ⟨_, ?_, rfl⟩
          simp only [execOp, resolve, List.map_toArray, List.map_cons, List.map_nil, e1, e2, hm1]
          go_simp
          split <;> omega
        · refine owes_val rfl (fun E _ _ W hE hW => by simpa [upd] using hW) (fun E vs a W hI hE hp => ?_)
          have e := hI.outer (d := 3) (by rfl) rfl
          refine ⟨_, ?_, rfl⟩
          simp only [execOp, e]
          rfl
        · refine owes_world rfl (fun E vs a W hI hE hp => ?_)
          have e1 : a.eval (.tmp 29) = .pointer (some ⟨w.heap.size + 1, 0, none⟩) := hI.phi 10 rfl rfl (pred_of hp 10 rfl) rfl
          have e2 : a.eval (.tmp 23) = .int .i64 m0 := hI.phi 4 rfl rfl (pred_of hp 4 rfl) rfl
          have hb := hI.world.2.1
          have n13 := hI.notYet hE 13 rfl rfl
          rw [hE, n13] at hb
          obtain ⟨c0, c1, f0, f1⟩ := two hb
          refine ⟨undef, W.setCell ⟨w.heap.size + 1, 0, none⟩ (.int .i64 m0), .inr ⟨rfl, ?_⟩, rfl, fun j v' _ hj => phiC_stable _ j v' _ hj, ?_⟩
          · simp only [execOp, e1, e2]
            go_simp
          · exact ⟨by simpa [upd, n13] using blk_put hb 0 (.int .i64 m0) rfl, blk_far hI.world.2.2.1 N3 _, hI.world.2.2.2.trans (KeepW.set _ _ _ _)⟩
        · refine owes_val rfl (fun E _ _ W hE hW => by simpa [upd] using hW) (fun E vs a W hI hE hp => ?_)
          have e := hI.outer (d := 3) (by rfl) rfl
          refine ⟨_, ?_, rfl⟩
          simp only [execOp, e]
          rfl
        · refine owes_world rfl (fun E vs a W hI hE hp => ?_)
          have e1 : a.eval (.tmp 30) = .pointer (some ⟨w.heap.size + 1, 1, none⟩) := hI.phi 12 rfl rfl (pred_of hp 12 rfl) rfl
          have e2 : a.eval (.tmp 28) = .int .i64 m1 := hI.phi 9 rfl rfl (pred_of hp 9 rfl) rfl
          have hb := hI.world.2.1
          have y11 : E 11 = true := pred_of hp 11 rfl
          rw [hE, y11] at hb
          obtain ⟨c0, c1, f0, f1⟩ := two hb
          refine ⟨undef, W.setCell ⟨w.heap.size + 1, 1, none⟩ (.int .i64 m1), .inr ⟨rfl, ?_⟩, rfl, fun j v' _ hj => phiC_stable _ j v' _ hj, ?_⟩
          · simp only [execOp, e1, e2]
            go_simp
          · exact ⟨by simpa [upd, y11] using blk_put hb 1 (.int .i64 m1) rfl, blk_far hI.world.2.2.1 N3 _, hI.world.2.2.2.trans (KeepW.set _ _ _ _)⟩
      case hend =>
        intro E vs a W hI hall
        obtain rfl := hI.frame (by kernel_rfl) hall
        have y11 := hall 11 (by decide)
        have y13 := hall 13 (by decide)
        have hb := hI.world.2.1
        rw [y11, y13] at hb
        have HB3 := Aside0.mk hb
        have KW3 := Aside0.mk ((KW.out.trans hI.world.2.2.2))
        clear hI hb hall
        have hML := HC.out.2.1
        simp only [putsFrom, List.setIfInBounds_toArray, List.set_cons_zero, List.set_cons_succ]
        go_wp2
        go_roundg (ps.length - (kk + 1))
        case measure => omega
        case rel => exact ⟨kk + 1, by omega, by omega, by go_num, ⟨by rw [HB3.out]; simp [load_Peak.go, load_Peak.top, hm0, hm1]⟩, KW3⟩
    · have hltz : decide ((kk : Int) < (ps.length : Int)) = false := by simp; omega
      have : kk = ps.length := by omega
      subst this
      have hX : w1.heap[w.heap.size]? = some (.cells #[.int .i64 0, .int .i64 0] 23 (0, 0)) := blk_below (heap_alloc2_old w _ _) HB.out
      have hX2 := (KW.out.block _ (by have := LW.out; omega) (by omega)).trans hX
      have B2 := Aside0.mk hX2
      obtain ⟨c0, c1, f0, f1⟩ := two B3.out
      obtain ⟨d0, d1, k0, k1⟩ := two hX2
      have L3 := blk_lt B3.out
      clear hX hX2
      go_wp2
      refine bodyPost_ret (results_cell_row rfl _ _ w.heap.size 23 #[.int .i64 (load_Peak.go ps ps.length).f0, .int .i64 (load_Peak.go ps ps.length).f1] (0, 0) _ rfl (blk_put (blk_put (cs' := #[.int .i64 (load_Peak.go ps ps.length).f0, .int .i64 0]) B2.out 0 _ rfl) 1 _ rfl) Try.underlying23 rfl (by kernel_rfl)) rfl ?_
      exact ⟨rfl, below_set (below_set (((below_alloc (below_alloc (Below.refl _ _) _) _).trans (by have h1 := HB.out; exact ⟨h1.os, h1.tape, h1.output, h1.size, fun i hi => h1.block i (by simp; omega)⟩)).trans (KW.out.below (by have := LW.out; omega) (by omega))) (Nat.le_refl _)) (Nat.le_refl _)⟩

end Go.Proofs.Ytocoapfnkkmkiaa.P
