-- printed by the session's own program wip/xprint.py (over the kit's printer); nothing here is trusted: Lean checks it
import Derived.Test.YtocoapfnkkmkiaaP0
import Derived.Test.YtocoapfnkkmkiaaP2
namespace Go.Proofs.Ytocoapfnkkmkiaa.P
open Go.Proofs.YtocoapfnkkmkiaaR
open Go.RowKit Go.Proofs.YtocoapfnkkmkiaaW.PrintWords Go.Proofs.YtocoapfnkkmkiaaW.PrintLast Go.Proofs.YtocoapfnkkmkiaaW.PrintMore
attribute [local go_sem] max2_int min2_int max_two min_two max_three min_three max_four min_four   -- for this text's walks alone
set_option linter.unusedVariables false
set_option linter.unusedSimpArgs false

-- EXTERN 19 load_First: by hand
set_option maxHeartbeats 2000000 in
theorem indexFunc25 (g : Nat) (lb : Array Value) (eg : ∀ args w, (callFunc g args).run Try.prog w = .ok (.enter g args) w) (A : Option Addr) (c : Nat) (l : List S23) (b : Nat → Bool) (Inv : Nat → World → Prop) (w : World)
    (hC : ∀ j W, Inv j W → Kd.C k23 W A l.length l) (hlen : l.length ≤ 9223372036854775807)
    (hcall : ∀ j W, j < l.length → Inv j W → Calls Try.prog g (#[.agg #[.int .i64 (rd_T23 l j).f0, .int .i64 (rd_T23 l j).f1]] ++ lb) W fun e w' => e = .returned (.bool (b j)) ∧ Inv (j + 1) w')
    (h0 : Inv 0 w) :
    Calls Try.prog 25 #[.slice A l.length c, .func (.func g) #[] lb] w fun e w' => e = .returned (.int .i64 (firstAt b l.length)) ∧ Aside0 (∃ j, Inv j w') := by
  have hu23 := Try.underlying23
  go_enter Try.func25, Try.ntmps25
  go_wp2
  go_loopg [5, 8] l.length (fun gg _ s8 wr => ∃ kk : Nat, kk ≤ l.length ∧ l.length - kk ≤ gg ∧ s8 = .int .i64 kk ∧ Aside0 (Inv kk wr) ∧ Aside0 (∀ j, j < kk → b j = false))
  case atStart => exact ⟨0, Nat.zero_le _, by omega, rfl, ⟨h0⟩, ⟨fun j hj => absurd hj (Nat.not_lt_zero _)⟩⟩
  case round =>
    obtain ⟨kk, hkk, hg, rfl, HI, HM⟩ := hrel
    by_cases hlt : kk < l.length
    · have hltz : decide ((kk : Int) < (l.length : Int)) = true := by simp; omega
      have hcall1 := hcall kk wr hlt HI.out
      obtain ⟨ad, e119, hx0, hx1⟩ := at_T23 (hC kk wr HI.out) (kk : Int) (by omega) (by omega)
      cases e119
      simp only [Int.toNat_natCast] at hx0 hx1
      clear hcall hC h0
      cases hq : b kk with
      | true =>
        rw [hq] at hcall1
        go_wp2_with (with_reducible refine hcall1.mono ?_; rintro e w' ⟨rfl, hb'⟩; have HB' := Aside0.mk hb'; clear hb')
        go_ret
        refine ⟨?_, ⟨_, HB'.out⟩⟩
        rw [firstAt_hit b l.length kk hlt hq HM.out]
        rfl
      | false =>
        rw [hq] at hcall1
        go_wp2_with (with_reducible refine hcall1.mono ?_; rintro e w' ⟨rfl, hb'⟩; have HB' := Aside0.mk hb'; clear hb')
        go_roundg (l.length - (kk + 1))
        case measure => omega
        case rel =>
          refine ⟨kk + 1, by omega, by omega, by go_num, HB', ⟨fun j hj => ?_⟩⟩
          by_cases e : j = kk
          · subst e
            exact hq
          · exact HM.out j (by omega)
    · have hltz : decide ((kk : Int) < (l.length : Int)) = false := by simp; omega
      have : kk = l.length := by omega
      subst this
      clear hC hcall h0
      go_wp2
      go_ret
      refine ⟨?_, ⟨_, HI.out⟩⟩
      rw [firstAt_miss b l.length HM.out]
      rfl

set_option maxHeartbeats 8000000 in
set_option maxRecDepth 100000 in
theorem first1_calls (l0 l1 n0 n1 r0 r1 : Int) (g1 g2 : Nat) (m0 m1 : Int) (ok fits : Bool) (w : World) (h1 : w.heap[g1]? = some (.cells #[.int .i64 n0, .int .i64 n1] 23 (0, 0))) (h2 : w.heap[g2]? = some (.cells #[.int .i64 r0, .int .i64 r1] 23 (0, 0)))
    (hne : g1 ≠ g2) (hA : load_Add.f 5 n0 n1 l0 l1 = some (m0, m1, ok)) (hF : load_Fits.f r0 r1 m0 m1 = some fits) :
    Calls Try.prog 26 #[.agg #[.int .i64 l0, .int .i64 l1], .pointer (some ⟨g1, 0, none⟩), .pointer (some ⟨g2, 0, none⟩)] w fun e w' => e = .returned (.bool (!ok || !fits)) ∧
      Aside0 (w'.heap[g1]? = some (.cells #[.int .i64 m0, .int .i64 m1] 23 (0, 0)) ∧ KeepW w w' g1) := by
  have hu23 := Try.underlying23
  have B1 := Aside0.mk h1
  have B2 := Aside0.mk h2
  obtain ⟨c10, c11, f10, f11⟩ := two h1
  obtain ⟨c20, c21, f20, f21⟩ := two h2
  have L1 := blk_lt h1
  have L2 := blk_lt h2
  have HNE := Aside0.mk hne
  have hne' := hne.symm
  have HA := Aside0.mk hA
  have HF := Aside0.mk hF
  clear h1 h2 hA hF
  have L1s : g1 < w.heap.size + 1 := by omega
  have L2s : g2 < w.heap.size + 1 := by omega
  have G1 : ¬ w.heap.size = g1 := by omega
  have G2 : ¬ w.heap.size = g2 := by omega
  cases ok with
  | true =>
    go_enter Try.func26, Try.ntmps26
    go_wp2_with (first | (go_at_call 9; go_loud (refine (load_Add.calls 5 n0 n1 l0 l1 m0 m1 true _ HA.out).mono ?_; rintro e w1 ⟨rfl, hb⟩; obtain ⟨hc, hf⟩ := bcell' hb; have hz := size_after hb; have M1 : g1 < w1.heap.size := (by omega); have M2 : g2 < w1.heap.size := (by omega); have M1s : g1 < w1.heap.size + 1 := (by omega); have M2s : g2 < w1.heap.size + 1 := (by omega); have N1 : ¬ w1.heap.size = g1 := (by omega); have N2 : ¬ w1.heap.size = g2 := (by omega); have HB1 := Aside0.mk hb; clear hb)) | (go_at_call 15; refine (load_Fits.calls r0 r1 m0 m1 fits _ HF.out).mono ?_; rintro e w2 ⟨rfl, hb⟩; have HB2 := Aside0.mk hb; clear hb))
    go_ret
    have b1 := blk_below (blk_alloc B1.out _) HB1.out
    have b3 := blk_put (cs' := #[.int .i64 m0, .int .i64 n1]) b1 0 (.int .i64 m0) rfl
    have b4 := blk_put (cs' := #[.int .i64 m0, .int .i64 m1]) b3 1 (.int .i64 m1) rfl
    exact ⟨by cases fits <;> rfl, ⟨blk_below (blk_alloc b4 _) HB2.out, (((((KeepW.alloc w _ g1).trans (KeepW.of_below HB1.out g1)).trans (KeepW.set _ g1 0 _)).trans (KeepW.set _ g1 1 _)).trans (KeepW.alloc _ _ g1)).trans (KeepW.of_below HB2.out g1)⟩⟩
  | false =>
    go_enter Try.func26, Try.ntmps26
    go_wp2_with (first | (go_at_call 9; go_loud (refine (load_Add.calls 5 n0 n1 l0 l1 m0 m1 false _ HA.out).mono ?_; rintro e w1 ⟨rfl, hb⟩; obtain ⟨hc, hf⟩ := bcell' hb; have hz := size_after hb; have M1 : g1 < w1.heap.size := (by omega); have M2 : g2 < w1.heap.size := (by omega); have M1s : g1 < w1.heap.size + 1 := (by omega); have M2s : g2 < w1.heap.size + 1 := (by omega); have N1 : ¬ w1.heap.size = g1 := (by omega); have N2 : ¬ w1.heap.size = g2 := (by omega); have HB1 := Aside0.mk hb; clear hb)) | (go_at_call 15; refine (load_Fits.calls r0 r1 m0 m1 fits _ HF.out).mono ?_; rintro e w2 ⟨rfl, hb⟩; have HB2 := Aside0.mk hb; clear hb))
    go_ret
    have b1 := blk_below (blk_alloc B1.out _) HB1.out
    have b3 := blk_put (cs' := #[.int .i64 m0, .int .i64 n1]) b1 0 (.int .i64 m0) rfl
    have b4 := blk_put (cs' := #[.int .i64 m0, .int .i64 m1]) b3 1 (.int .i64 m1) rfl
    exact ⟨rfl, ⟨blk_alloc b4 _, ((((KeepW.alloc w _ g1).trans (KeepW.of_below HB1.out g1)).trans (KeepW.set _ g1 0 _)).trans (KeepW.set _ g1 1 _)).trans (KeepW.alloc _ _ g1)⟩⟩
theorem load_Fits.total (a b c d : Int) : ∃ r, load_Fits.f a b c d = some r := by
  unfold load_Fits.f
  repeat' split
  all_goals exact ⟨_, rfl⟩
theorem load_within.total (a b c d : Int) : ∃ r, load_within.f a b c d = some r := by
  unfold load_within.f
  repeat' split
  all_goals exact ⟨_, rfl⟩
theorem load_may.total (a b : Int) : ∃ r, load_may.f a b = some r := by
  unfold load_may.f
  obtain ⟨r, h⟩ := load_within.total a b (-1073741824) 1073741824
  exact ⟨r, by rw [h]; rfl⟩
theorem load_Add.total (a b c d : Int) (k : Nat) : ∃ r, load_Add.f (k + 1) a b c d = some r := by
  unfold load_Add.f
  obtain ⟨r, h⟩ := load_may.total a b
  obtain ⟨r2, h2⟩ := load_may.total c d
  obtain ⟨r3, h3⟩ := load_may.total (wrap64 (a + c)) (wrap64 (b + d))
  simp only [h, h2, h3, Option.bind_some, load_Add.j0]
  repeat' split
  all_goals exact ⟨_, rfl⟩
def load_First.add (n l : S23) : Int × Int × Bool := (load_Add.f 5 n.f0 n.f1 l.f0 l.f1).getD (0, 0, false)
theorem load_First.add_some (n l : S23) : load_Add.f 5 n.f0 n.f1 l.f0 l.f1 = some (load_First.add n l) := by
  obtain ⟨r, h⟩ := load_Add.total n.f0 n.f1 l.f0 l.f1 4
  unfold load_First.add
  rw [h]
  rfl
def load_First.fits (r l : S23) : Bool := (load_Fits.f r.f0 r.f1 l.f0 l.f1).getD false
theorem load_First.fits_some (r l : S23) : load_Fits.f r.f0 r.f1 l.f0 l.f1 = some (load_First.fits r l) := by
  obtain ⟨b, h⟩ := load_Fits.total r.f0 r.f1 l.f0 l.f1
  unfold load_First.fits
  rw [h]
  rfl
def load_First.nowAt (l : List S23) : Nat → S23
  | 0 => ⟨0, 0⟩
  | j + 1 => ⟨(load_First.add (load_First.nowAt l j) (rd_T23 l j)).1, (load_First.add (load_First.nowAt l j) (rd_T23 l j)).2.1⟩
def load_First.stops (room : S23) (l : List S23) (j : Nat) : Bool := !(load_First.add (load_First.nowAt l j) (rd_T23 l j)).2.2 || !(load_First.fits room (load_First.nowAt l (j + 1)))
def load_First.f (a0_0 : Int) (a0_1 : Int) (l1 : List (S23)) : Option (Int) := some (firstAt (load_First.stops ⟨a0_0, a0_1⟩ l1) l1.length)

structure FirstInv (w : World) (room : S23) (l : List S23) (g1 g2 : Nat) (j : Nat) (W : World) : Prop where
  b1 : W.heap[g1]? = some (.cells #[.int .i64 (load_First.nowAt l j).f0, .int .i64 (load_First.nowAt l j).f1] 23 (0, 0))
  b2 : W.heap[g2]? = some (.cells #[.int .i64 room.f0, .int .i64 room.f1] 23 (0, 0))
  below : Below w.heap.size w W

set_option maxHeartbeats 8000000 in
set_option maxRecDepth 100000 in
theorem load_First.calls (a0_0 : Int) (a0_1 : Int) (A1 : Option Addr) (c1 : Nat) (l1 : List (S23)) (r : Int) (w : World) (hr1 : Kd.C k23 w A1 l1.length l1) (hc1 : l1.length ≤ c1) (h : load_First.f a0_0 a0_1 l1 = some r) :
    Calls Try.prog 19 #[.agg #[.int .i64 a0_0, .int .i64 a0_1], .slice A1 l1.length c1] w fun e w' => e = .returned (.int .i64 r) ∧ Below w.heap.size w w' := by
  have hu23 := Try.underlying23
  have HR1 := Aside0.mk hr1
  have HLEN := Aside0.mk hr1.2.1
  obtain rfl := Option.some.inj h
  clear hr1 hc1 h
  go_enter Try.func19, Try.ntmps19
  go_wp2_with (go_at_call 25; go_loud (refine (indexFunc25 26 #[.pointer (some ⟨w.heap.size + 1, 0, none⟩), .pointer (some ⟨w.heap.size, 0, none⟩)] (enters_of Try.func26 (by kernel_rfl) rfl) A1 c1 l1 (load_First.stops ⟨a0_0, a0_1⟩ l1) (FirstInv w ⟨a0_0, a0_1⟩ l1 (w.heap.size + 1) w.heap.size) _ ?hC HLEN.out ?hcall ?h0).mono ?_; (case hC => exact fun j W hW => Kd.C_below HR1.out hW.below); (case h0 => exact ⟨heap_alloc2_new w _ _, blk_alloc (blk_new w _) _, below_alloc (below_alloc (Below.refl _ _) _) _⟩); (case hcall => exact fun j W hj hW => (first1_calls (rd_T23 l1 j).f0 (rd_T23 l1 j).f1 _ _ _ _ _ _ _ _ _ _ W hW.b1 hW.b2 (by omega) (load_First.add_some _ _) (load_First.fits_some ⟨a0_0, a0_1⟩ (load_First.nowAt l1 (j + 1)))).mono (fun e w' he => ⟨he.1, ⟨he.2.out.1, (he.2.out.2.block _ (blk_lt hW.b2) (by omega)).trans hW.b2, hW.below.trans (he.2.out.2.below hW.below.size (by omega))⟩⟩)); rintro e w1 ⟨rfl, hI⟩))
  go_ret
  obtain ⟨j, hj⟩ := hI.out
  exact ⟨rfl, hj.below⟩

end Go.Proofs.Ytocoapfnkkmkiaa.P
