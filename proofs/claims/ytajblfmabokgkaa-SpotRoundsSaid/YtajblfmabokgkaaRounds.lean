/- The law SpotRounds: a sweep has each place once and goes round once; moved all together, it is the same. -/
import Derived.Test.YtajblfmabokgkaaRoundsA
import Derived.Deep.CutBlock
import Derived.Maps.Views
import Derived.WalkArith
import Derived.Deep.DeepCutAuto
namespace Go.Proofs.Ytajblfmabokgkaa.P
open Go.Proofs.YtajblfmabokgkaaR
open Go.Shelf Go.Sort
open Go.RowKit Go.Proofs.YtajblfmabokgkaaW.PrintWords Go.Proofs.YtajblfmabokgkaaW.PrintLast Go.Proofs.YtajblfmabokgkaaW.PrintMore
set_option linter.unusedVariables false
set_option linter.unusedSimpArgs false
set_option maxHeartbeats 8000000
set_option maxRecDepth 100000
/-- What stood in w3, stands where the map has grown. -/
theorem kept_cell {w3 Wm wr : World} {b g i : Nat} {v : Value} (h : b = w3.heap.size ∧ Wm = w3.alloc (.map #[] 0)) (hk : KeepW Wm wr b) (hc : w3.cell? ⟨g, i, none⟩ = some v) : wr.cell? ⟨g, i, none⟩ = some v := by
  have hlt := cell_lt hc
  have hne : g ≠ b := by rw [h.1]; omega
  refine hk.cell (p := ⟨g, i, none⟩) ?_ hne
  rw [h.2]
  exact ((below_alloc (Below.refl _ _) (.map #[] 0)).cell (p := ⟨g, i, none⟩) hlt).trans hc
theorem SpotsAt.below {w w1 : World} {g n : Nat} {X Y : Nat → Nat} {A B : Nat → Int} (h : SpotsAt w g n X Y A B) (hb : Below w.heap.size w w1) : SpotsAt w1 g n X Y A B :=
  ⟨Nat.lt_of_lt_of_le h.lt hb.size, fun i hi => (hb.cell (p := ⟨g, i, none⟩) h.lt).trans (h.cell i hi), h.spot⟩
theorem SpotsAt.kept {w3 Wm wr : World} {b g n : Nat} {X Y : Nat → Nat} {A B : Nat → Int} (h : SpotsAt w3 g n X Y A B) (h3 : b = w3.heap.size ∧ Wm = w3.alloc (.map #[] 0)) (hk : KeepW Wm wr b) : SpotsAt wr g n X Y A B := by
  refine ⟨?_, fun i hi => kept_cell h3 hk (h.cell i hi), h.spot⟩
  have h1 := h.lt
  have h2 := hk.size
  have h4 : Wm.heap.size = w3.heap.size + 1 := by rw [h3.2]; simp
  omega
/-- The step of the map: what is still to come has not been seen. -/
theorem seen_step {n j : Nat} [Inhabited (Fin n)] {A B : Nat → Int} {r : Array (Fin n)} (hr : r = sweptG 0 0 A B n) (hj : j < n) {D : DataW Unit} (hD : ∀ i, j ≤ i → i < n → ∀ z, D.atKey (.int .i64 ((r[i]!).val : Int)) z = z) (y : DataW Unit) :
    ∀ i, j + 1 ≤ i → i < n → ∀ z, (D.put (.int .i64 ((r[j]!).val : Int)) y).atKey (.int .i64 ((r[i]!).val : Int)) z = z := by
  intro i hi hin z
  rw [Maps.atKey_put_other]
  · exact hD i (by omega) hin z
  · intro he
    injection he with _ he
    have e1 : r[i]! = r[j]! := Fin.ext (by omega)
    rw [hr] at e1
    have := sweptG_once 0 0 A B n i j hin hj e1
    omega
theorem same_nil (w : World) : Calls Try.prog 14 #[.slice none 0 0, .slice none 0 0] w fun e w' => e = .returned (.bool true) ∧ Drawn0 w w' := by
  have hC : Kd.C (Kd.int .i64) w none 0 [] := by
    obtain ⟨A, c, hv, _, hC⟩ := Kd.R_reads (Kd.R_nil (Kd.int .i64) 3 w 0 (fun _ => True))
    injection hv with h1 _ _
    rw [← h1] at hC
    exact hC
  exact jitneyref01_SameInts.calls 1 none 0 [] none 0 [] true w hC (Nat.le_refl _) hC (Nat.le_refl _) (by decide +kernel)
theorem SpotRounds_walk (A0 : Option Addr) (c0 : Nat) (xs : List Int) (A1 : Option Addr) (c1 : Nat) (ys : List Int) (a2 a3 : Int) (w : World)
    (C0 : Kd.C (Kd.int .i64) w A0 xs.length xs) (hc0 : xs.length ≤ c0) (C1 : Kd.C (Kd.int .i64) w A1 ys.length ys) (hc1 : ys.length ≤ c1) :
    Calls Try.prog 4 #[.slice A0 xs.length c0, .slice A1 ys.length c1, .int .i64 a2, .int .i64 a3] w fun e w' => e = .returned (.bool true) ∧ Below w.heap.size w w' := by
  have mixed : Try.prog.follows .mixedOrders = true := by kernel_rfl
  obtain ⟨ox, oy, o1, o2, e1, e2, b1, b2, SO, co⟩ := off_spot a2 a3
  obtain ⟨Q, SQ, hQ⟩ := moved_all xs ys ox oy o1 o2 b1 b2 SO
  have CO := Aside0.mk co
  have SO' := Aside0.mk SO
  have SQ' := Aside0.mk SQ
  have HQ := Aside0.mk hQ
  have C0' := Aside0.mk C0
  have C1' := Aside0.mk C1
  clear e1 e2 b1 b2 co hQ SO SQ C0 C1
  obtain ⟨n, hn⟩ : ∃ n, n = xs.length := ⟨_, rfl⟩
  obtain ⟨m, hm⟩ : ∃ m, m = ys.length := ⟨_, rfl⟩
  rw [← hn, ← hm]
  have HN := Aside0.mk (And.intro hn hm)
  clear hn hm hc0 hc1
  have hmm := @run_makeMap Try.prog
  by_cases k1 : 60 < n
  · have k1z : (60 : Int) < (n : Int) := by omega
    go_enter Try.func4, Try.ntmps4
    go_wp2_with (first | (go_at_call 7; with_reducible refine (jitneylaw02_alive.calls _).mono ?_; rintro e w1 ⟨rfl, hb⟩; have B1 := Aside0.mk hb; clear hb))
    go_ret
    exact ⟨rfl, B1.out⟩
  have k1z : ¬ (60 : Int) < (n : Int) := by omega
  by_cases k2 : m < n
  · have k2z : (m : Int) < (n : Int) := by omega
    go_enter Try.func4, Try.ntmps4
    go_wp2_with (first | (go_at_call 7; with_reducible refine (jitneylaw02_alive.calls _).mono ?_; rintro e w1 ⟨rfl, hb⟩; have B1 := Aside0.mk hb; clear hb))
    go_ret
    exact ⟨rfl, B1.out⟩
  have k2z : ¬ (m : Int) < (n : Int) := by omega
  have hn60 : n ≤ 60 := by omega
  by_cases k0 : n = 0
  · subst k0
    clear k1z k2z k1 k2 HN mixed
    go_enter Try.func4, Try.ntmps4
    go_wp2_with (first
      | (go_at_call 7; with_reducible refine (jitneylaw02_alive.calls _).mono ?_; rintro e w1 ⟨rfl, hb⟩; have B1 := Aside0.mk hb; clear hb)
      | (go_at_call 8; with_reducible refine (CO.out _).mono ?_; rintro e w2 ⟨rfl, rfl⟩))
    obtain ⟨W, hW⟩ : ∃ W, W = (w2.alloc (.cells #[] 23)).alloc (.cells #[] 23) := ⟨_, rfl⟩
    rw [← hW]
    have HW := Aside0.mk hW
    clear hW
    go_loopg [11, 12, 44] 1 (fun gg v11 v12 v44 wr => v11 = .slice (some ⟨w2.heap.size, 0, none⟩) 0 0 ∧ v12 = .slice (some ⟨w2.heap.size + 1, 0, none⟩) 0 0 ∧ v44 = .int .i64 0 ∧ Aside0 (wr = W))
    case atStart => exact ⟨rfl, rfl, rfl, ⟨rfl⟩⟩
    case round =>
      obtain ⟨rfl, rfl, rfl, HW2⟩ := hrel
      go_wp2_with (first | (go_at_call 12; refine (spot_Sweep_nil _ _ _ _).mono ?_; rintro e w3 ⟨rfl, hb⟩; have B3 := Aside0.mk hb; clear hb))
      go_loopg [77] 1 (fun gg v77 wr2 => v77 = .int .i64 0 ∧ Aside0 (wr2 = w3.alloc (.map #[] 0)))
      case atStart => exact ⟨rfl, ⟨rfl⟩⟩
      case round =>
        obtain ⟨rfl, HW3⟩ := hrel
        go_wp2_with (first
          | (go_at_call 12; refine (spot_Sweep_nil _ _ _ _).mono ?_; rintro e w5 ⟨rfl, hb⟩; have B5 := Aside0.mk hb; clear hb)
          | (go_at_call 14; refine (same_nil _).mono ?_; rintro e w6 ⟨rfl, hd⟩; have D6 := Aside0.mk hd; clear hd))
        go_ret
        refine ⟨rfl, ?_⟩
        have h0 : RowKit.Below w2.heap.size w2 W := by rw [HW.out]; exact below_alloc (below_alloc (Below.refl _ _) _) _
        have h1 := h0.trans ((HW2.out ▸ B3.out : RowKit.Below W.heap.size W w3).mono h0.size)
        have h2 : RowKit.Below w2.heap.size w2 wr := by rw [HW3.out]; exact below_alloc h1 _
        have h4 := h2.trans (B5.out.mono h2.size)
        have h5 := h4.trans (D6.out.below.mono h4.size)
        exact B1.out.trans (h5.mono B1.out.size)
  have hpos : 0 < n := by omega
  clear k0
  have hmn : n ≤ m := by omega
  clear k1 k2
  go_enter Try.func4, Try.ntmps4
  go_upto_block 0 with (first
    | (go_at_call 7; with_reducible refine (jitneylaw02_alive.calls _).mono ?_; rintro e w1 ⟨rfl, hb⟩; have B1 := Aside0.mk hb; clear hb)
    | (go_at_call 8; with_reducible refine (CO.out _).mono ?_; rintro e w2 ⟨rfl, rfl⟩))
  go_cut [11, 12] (fun v11 v12 wx => Aside0 (TwoR wx w2.heap.size v11 v12 (rowL (rP xs ys) n) (rowL Q n)) ∧ Aside0 (Below w2.heap.size w2 wx))
  case first =>
    go_wp2_with fail
    go_loopg [11, 12, 44] n (fun gg v11 v12 v44 wr => ∃ j : Nat, v44 = .int .i64 (j : Int) ∧ j ≤ n ∧ n - j ≤ gg ∧ Aside0 (TwoR wr w2.heap.size v11 v12 (rowL (rP xs ys) j) (rowL Q j)) ∧ Aside0 (Below w2.heap.size w2 wr))
    case atStart => exact ⟨0, rfl, Nat.zero_le _, Nat.le_refl _, ⟨TwoR.made w2⟩, ⟨below_alloc (below_alloc (Below.refl _ _) _) _⟩⟩
    case round =>
      obtain ⟨j, rfl, hj, hg1, HT, HB⟩ := hrel
      by_cases hjn : j < n
      · have c1 : decide ((j : Int) < (n : Int)) = true := by simp; omega
        have hjz : (j : Int) < (n : Int) := by omega
        have hjm : (j : Int) < (m : Int) := by omega
        have p1 : (0 : Int) ≤ (j : Int) := by omega
        have w1 : wrap64 ((j : Int) + 1) = (j : Int) + 1 := by unfold wrap64; omega
        have D0 := Kd.C_below (Kd.C_below C0'.out B1.out) (HB.out)
        have D1 := Kd.C_below (Kd.C_below C1'.out B1.out) (HB.out)
        rw [← HN.out.1] at D0
        rw [← HN.out.2] at D1
        obtain ⟨ad0, rfl, l0⟩ := Kd.at_int D0 (j : Int) p1 hjz
        obtain ⟨ad1, rfl, l1⟩ := Kd.at_int D1 (j : Int) p1 hjm
        rw [Int.toNat_natCast] at l0 l1
        have CP := Aside0.mk (call_P xs ys j)
        have hq := HQ.out j
        have ex : Int.tmod (rd xs (j : Int)) 1000000 = rA xs j := rfl
        have ey : Int.tmod (rd ys (j : Int)) 1000000 = rA ys j := rfl
        generalize rA xs j = x at CP ex
        generalize rA ys j = y at CP ey
        have HP := Aside0.mk (show rP xs ys j = rP xs ys j from rfl)
        obtain ⟨px, hpx⟩ : ∃ p, p = (rP xs ys j).1 := ⟨_, rfl⟩
        obtain ⟨py, hpy⟩ : ∃ p, p = (rP xs ys j).2 := ⟨_, rfl⟩
        obtain ⟨qx, hqx⟩ : ∃ p, p = (Q j).1 := ⟨_, rfl⟩
        obtain ⟨qy, hqy⟩ : ∃ p, p = (Q j).2 := ⟨_, rfl⟩
        rw [← hpx, ← hpy] at CP hq
        rw [← hqx, ← hqy] at hq
        have HE := Aside0.mk (And.intro hpx (And.intro hpy (And.intro hqx hqy)))
        clear D0 D1 hpx hpy hqx hqy
        go_upto_region 10 with fail
        go_quiet (first | (go_at_call 8; refine Calls.quiet_of_same (CP.out _)))
        have HT1 := Aside0.mk (TwoR.drewN HT.out nq)
        have HB1 := Aside0.mk (pw_below_drewN HB.out nq)
        have hj1 := Aside0.mk (show ((rowL (rP xs ys) j).length + 1) * 16 ≤ 140737488355328 by rw [rowL_length]; omega)
        have hj2 := Aside0.mk (show ((rowL Q j).length + 1) * 16 ≤ 140737488355328 by rw [rowL_length]; omega)
        clear l0 l1 CP HT HB
        generalize wr.drewN nq = W at HT1 HB1 ⊢
        go_wp2_with (first
          | ((with_reducible refine gate_builtin (b := .append) (xs := #[.tmp 61, .tmp 63]) rfl ?_); at_builtin; refine Kd.R_append kc (w0 := w2) w2.heap.size rfl (.tmp 61) (.tmp 63) 30 23 (.complex .f64 0 0) 16 rfl Try.underlying30 info23 rfl (by decide) (by omega) u11 (rowL (rP xs ys) j) (px, py) [.complex .f64 px py] (fun k => some k ≠ u12.ownBlock) (fun _ => False) rfl rfl ?aP (fun _ hk => hk.elim) (HT1.out.freshL) HT1.out.fst HB1.out HB1.out.size hj1.out ?_; (case aP => exact rfl); intro v1 w4 ho hb hg hat; have HT2 := Aside0.mk (TwoR.stepL HT1.out ho hg hat); have HB2 := Aside0.mk hb; clear ho hb hg hat)
          | ((with_reducible refine gate_builtin (b := .append) (xs := #[.tmp 65, .tmp 69]) rfl ?_); at_builtin; refine Kd.R_append kc (w0 := w2) w2.heap.size rfl (.tmp 65) (.tmp 69) 30 23 (.complex .f64 0 0) 16 rfl Try.underlying30 info23 rfl (by decide) (by omega) u12 (rowL Q j) (qx, qy) [.complex .f64 qx qy] (fun k => some k ≠ v1.ownBlock) (fun _ => False) rfl rfl ?aP (fun _ hk => hk.elim) (HT2.out.freshR) HT2.out.snd HB2.out HB2.out.size hj2.out ?_; (case aP => exact rfl); intro v2 w5 ho hb hg hat; have HT3 := Aside0.mk (TwoR.stepR HT2.out ho hg hat); have HB3 := Aside0.mk hb; clear ho hb hg hat))
        go_roundg (n - (j + 1))
        case measure => omega
        case rel =>
          refine ⟨j + 1, by first | rfl | go_num, by omega, Nat.le_refl _, ⟨?_⟩, HB3⟩
          obtain ⟨e1, e2, e3, e4⟩ := HE.out
          rw [rowL_succ, rowL_succ, show rP xs ys j = (px, py) from Prod.ext e1.symm e2.symm, show Q j = (qx, qy) from Prod.ext e3.symm e4.symm]
          exact HT3.out
      · have c1 : decide ((j : Int) < (n : Int)) = false := by simp; omega
        have hjz : ¬ (j : Int) < (n : Int) := by omega
        obtain rfl : j = n := by omega
        go_wp2_with fail
        go_meet
        exact ⟨HT, HB⟩
  case rest =>
    obtain ⟨HT, HB⟩ := hcut
    haveI : Inhabited (Fin n) := ⟨⟨0, hpos⟩⟩
    obtain ⟨g1, q1, rfl, hg1, L1⟩ := row_spots HT.out.fst hpos (spot_P xs ys)
    obtain ⟨g2, q2, rfl, hg2, L2⟩ := row_spots HT.out.snd hpos SQ'.out
    obtain ⟨r, hr⟩ : ∃ r, r = sweptG 0 0 (rA xs) (rA ys) n := ⟨_, rfl⟩
    have CS := spot_Sweep_all (c := q1) L1 spot_zero hpos hn60
    rw [← hr] at CS
    have KS := Aside0.mk CS
    have M1 := Aside0.mk L1
    have M2 := Aside0.mk L2
    clear CS L1 L2
    have HR := Aside0.mk hr
    have HG := Aside0.mk (And.intro hg1 hg2)
    clear hr hg1 hg2 HT
    go_upto_block 2 with (first | (go_at_call 12; refine KS.out.mono ?_; rintro e w3 ⟨g3, q3, rfl, hq3, hg3, hrow, hb⟩; have B3 := Aside0.mk hb; have R3 := Aside0.mk hrow; have G3 := Aside0.mk (And.intro hq3 hg3); clear hb hrow hq3 hg3))
    have N1 := Aside0.mk (M1.out.below B3.out)
    have N2 := Aside0.mk (M2.out.below B3.out)
    have BB := Aside0.mk (HB.out.trans (B3.out.mono HB.out.size))
    clear KS M1 M2 HB B3
    obtain ⟨b, hb⟩ : ∃ b, b = w3.heap.size := ⟨_, rfl⟩
    rw [← hb]
    have hown0 : (w3.alloc (.map #[] 0)).ownsMap Try.prog 3 (plainElem (H := Unit) Try.prog 4) b 0 (.map []) := by rw [hb]; exact World.ownsMap_made _ _ _ _
    obtain ⟨Wm, hWm⟩ : ∃ W, W = w3.alloc (.map #[] 0) := ⟨_, rfl⟩
    rw [← hWm] at hown0 ⊢
    have OW := Aside0.mk hown0
    have HWm := Aside0.mk (And.intro hb hWm)
    clear hown0 hb hWm
    go_cut [] (fun wx => Aside0 (KeepW Wm wx b))
    case first =>
      go_wp2_with fail
      go_loopg [77] n (fun gg v77 wr => ∃ (j : Nat) (D : DataW Unit), v77 = .int .i64 (j : Int) ∧ j ≤ n ∧ n - j ≤ gg ∧ Aside0 (wr.ownsMap Try.prog 3 (plainElem Try.prog 4) b j D) ∧ Aside0 (∀ i, j ≤ i → i < n → ∀ z, D.atKey (.int .i64 ((r[i]!).val : Int)) z = z) ∧ Aside0 (KeepW Wm wr b))
      case atStart => exact ⟨0, _, rfl, Nat.zero_le _, Nat.le_refl _, OW, ⟨fun _ _ _ _ => rfl⟩, ⟨KeepW.refl _ _⟩⟩
      case round =>
        obtain ⟨j, D, rfl, hj, hg1, HM, HD, HK⟩ := hrel
        clear OW
        by_cases hjn : j < n
        · have c1 : decide ((j : Int) < (n : Int)) = true := by simp; omega
          have hjz : (j : Int) < (n : Int) := by omega
          have p1 : (0 : Int) ≤ (j : Int) := by omega
          have w1 : wrap64 ((j : Int) + 1) = (j : Int) + 1 := by unfold wrap64; omega
          obtain ⟨k, hk⟩ : ∃ k, k = (r[j]!).val := ⟨_, rfl⟩
          have hkn : k < n := by rw [hk]; exact (r[j]!).isLt
          have p2 : (0 : Int) ≤ (k : Int) := by omega
          have p2' : ¬ (k : Int) < 0 := by omega
          have p3 : (k : Int) < (n : Int) := by omega
          have p3' : ¬ (n : Int) ≤ (k : Int) := by omega
          have l1 := cell_grown (kept_cell HWm.out HK.out (R3.out j hjn))
          have l1' := kept_cell HWm.out HK.out (R3.out j hjn)
          have e1 : enF n r[j]! = .int .i64 (k : Int) := by rw [hk]; rfl
          rw [e1] at l1 l1'
          have hwf : (Lit.int .i64 (k : Int)).wf = true := WalkArith.wf_i64 (by omega)
          have hD := HD.out j (Nat.le_refl _) hjn
          rw [← hk] at hD
          have lk := seen_no_grown HM.out (k : Int) hwf hD
          have l2 : ∀ q os, (grow (wr.drewN q) os).cell? ⟨g1, k, none⟩ = some (.complex .f64 (rP xs ys k).1 (rP xs ys k).2) := cell_grown (kept_cell HWm.out HK.out (N1.out.cell k hkn))
          have SPk := Aside0.mk (show Spot (rP xs ys k).1 (rP xs ys k).2 (rA xs k) (rA ys k) from N1.out.spot k hkn)
          have HK1 := Aside0.mk (And.intro hk hkn)
          have HWF := Aside0.mk hwf
          clear hk e1 hwf hD
          have p2d : decide ((k : Int) < 0) = false := decide_eq_false p2'
          have p3n : ¬ n ≤ k := by omega
          have p3d : decide (n ≤ k) = false := decide_eq_false p3n
          have p3e : decide ((n : Int) ≤ (k : Int)) = false := decide_eq_false p3'
          by_cases hj0 : j = 0
          · have p4 : ¬ (0 : Int) < (j : Int) := by omega
            have p4n : ¬ 0 < j := by omega
            have p4d : decide (0 < j) = false := decide_eq_false p4n
            clear hj0
            go_wp2_with fail
            have lk0 : ∀ q, (Instr.lookup 32 (.map (some b)) (.int .i64 (k : Int)) false).run Try.prog (wr.drewN q) = .ok (.bool false) (wr.drewN q) := fun q => seen_no (show (wr.drewN q).ownsMap Try.prog 3 (plainElem Try.prog 4) b j D from HM.out) (k : Int) HWF.out (by rw [HK1.out.1]; exact HD.out j (Nat.le_refl _) hjn)
            clear lk l1 l2
            go_quiet (fail)
            have HM4 := Aside0.mk (show (wr.drewN nq).ownsMap Try.prog 3 (plainElem Try.prog 4) b j D from HM.out)
            have HK4 := Aside0.mk (HK.out.trans (show KeepW wr (wr.drewN nq) b from ⟨rfl, rfl, rfl, Nat.le_refl _, fun _ _ _ => rfl⟩))
            clear l1' lk0 HM HK
            generalize wr.drewN nq = w4 at HM4 HK4 ⊢
            clear nq
            go_wp2_with (first | (at_mapUpdate; refine wpList_mapUpdate_own _ rfl _ _ _ 32 rfl 3 4 (Maps.int_keyed Try.underlying3) Try.underlying32 _ b j D rfl HM4.out (by unfold maxLen; omega) _ _ _ rfl rfl (Maps.keyOf_int_mk Try.underlying3 HWF.out) _ [] (plainElem_bool Try.underlying4 true) ?_; intro w6 hown6 hgrow6; have HM6 := Aside0.mk hown6; have HK6 := Aside0.mk (HK4.out.trans (keepW_grown hgrow6)); clear hown6 hgrow6))
            go_roundg (n - (j + 1))
            case measure => omega
            case rel => exact ⟨j + 1, _, by first | rfl | go_num, by omega, Nat.le_refl _, HM6, ⟨by rw [HK1.out.1]; exact seen_step HR.out hjn HD.out _⟩, HK6⟩
          · have p4 : (0 : Int) < (j : Int) := by omega
            have p4n : 0 < j := by omega
            have p4d : decide (0 < j) = true := decide_eq_true p4n
            have hlt := sweptG_next (rA xs) (rA ys) n j (by omega) hjn
            rw [← HR.out] at hlt
            obtain ⟨k', hk'⟩ : ∃ k', k' = (r[j - 1]!).val := ⟨_, rfl⟩
            have hkn' : k' < n := by rw [hk']; exact (r[j - 1]!).isLt
            rw [← HK1.out.1, ← hk'] at hlt
            obtain ⟨iN, hiN⟩ : ∃ i, i = j - 1 := ⟨_, rfl⟩
            have l3 := cell_grown (kept_cell HWm.out HK.out (R3.out (j - 1) (by omega)))
            have e3 : enF n r[j - 1]! = .int .i64 (k' : Int) := by rw [hk']; rfl
            rw [e3, ← hiN] at l3
            have l4 : ∀ q os, (grow (wr.drewN q) os).cell? ⟨g1, k', none⟩ = some (.complex .f64 (rP xs ys k').1 (rP xs ys k').2) := cell_grown (kept_cell HWm.out HK.out (N1.out.cell k' hkn'))
            have C13 := spot_Before_g spot_zero SPk.out (show Spot (rP xs ys k').1 (rP xs ys k').2 (rA xs k') (rA ys k') from N1.out.spot k' hkn')
            rw [decide_eq_false hlt.mp] at C13
            have p5 : (0 : Int) ≤ (k' : Int) := by omega
            have p6 : (k' : Int) < (n : Int) := by omega
            have q1 : ((j : Int) - 1).toNat = iN := by omega
            have q2 : (1 : Int) ≤ (j : Int) := by omega
            have q3 : (j : Int) - 1 < (n : Int) := by omega
            have q4 : (0 : Int) ≤ (j : Int) - 1 := by omega
            have rc : IntKind.i64.wrap ((j : Int) - 1) = (j : Int) - 1 := by rw [IntKind.wrap_i64]; omega
            generalize (rP xs ys k).1 = px at l2 C13
            generalize (rP xs ys k).2 = py at l2 C13
            generalize (rP xs ys k').1 = px' at l4 C13
            generalize (rP xs ys k').2 = py' at l4 C13
            have C13 := Aside0.mk C13
            clear hlt hk' hiN e3
            go_wp2_with fail
            go_quiet_grown (first | (go_at_call 13; refine Calls.grown_of (C13.out _)))
            have HM4 := Aside0.mk (HM.out.kept (grown_grow wr nq osq) (by simp))
            have HK4 := Aside0.mk (HK.out.trans (keepW_grow wr nq osq b))
            clear l1 l1' l2 lk HM HK l3 l4
            generalize grow (wr.drewN nq) osq = w4 at HM4 HK4 ⊢
            clear nq osq
            go_wp2_with (first | (at_mapUpdate; refine wpList_mapUpdate_own _ rfl _ _ _ 32 rfl 3 4 (Maps.int_keyed Try.underlying3) Try.underlying32 _ b j D rfl HM4.out (by unfold maxLen; omega) _ _ _ rfl rfl (Maps.keyOf_int_mk Try.underlying3 HWF.out) _ [] (plainElem_bool Try.underlying4 true) ?_; intro w6 hown6 hgrow6; have HM6 := Aside0.mk hown6; have HK6 := Aside0.mk (HK4.out.trans (keepW_grown hgrow6)); clear hown6 hgrow6))
            go_roundg (n - (j + 1))
            case measure => omega
            case rel => exact ⟨j + 1, _, by first | rfl | go_num, by omega, Nat.le_refl _, HM6, ⟨by rw [HK1.out.1]; exact seen_step HR.out hjn HD.out _⟩, HK6⟩
        · have c1 : decide ((j : Int) < (n : Int)) = false := by simp; omega
          have hjz : ¬ (j : Int) < (n : Int) := by omega
          go_wp2_with fail
          go_meet
          exact HK
    case rest =>
      have HK : Aside0 (KeepW Wm wc b) := hcut
      clear hcut OW
      have O2 := N2.out.kept HWm.out HK.out
      have CS2 := spot_Sweep_all (c := q2) O2 SO'.out hpos hn60
      rw [sweptG_move, ← HR.out] at CS2
      have KS2 := Aside0.mk CS2
      have R4 := Aside0.mk (fun i (hi : i < n) => kept_cell HWm.out HK.out (R3.out i hi))
      clear CS2 O2
      go_wp2_with (first
        | (go_at_call 12; refine KS2.out.mono ?_; rintro e w5 ⟨g5, q5, rfl, hq5, hg5, hrow5, hb5⟩; have B5 := Aside0.mk hb5; have R5 := Aside0.mk hrow5; have Q5 := Aside0.mk hq5; clear hb5 hrow5 hq5 hg5)
        | (go_at_call 14; refine (same_rows hn60 r (fun i hi => (B5.out.cell (p := ⟨g3, i, none⟩) (cell_lt (R4.out i hi))).trans (R4.out i hi)) R5.out G3.out.1 Q5.out).mono ?_; rintro e w6 ⟨rfl, hd⟩; have D6 := Aside0.mk hd; clear hd))
      go_ret
      refine ⟨rfl, ?_⟩
      have h1 := BB.out
      have h2 : RowKit.Below w2.heap.size w2 Wm := by rw [HWm.out.2]; exact below_alloc h1 _
      have h3 := h2.trans (HK.out.below h2.size (by rw [HWm.out.1]; exact h1.size))
      have h4 := h3.trans (B5.out.mono h3.size)
      have h5 := h4.trans (D6.out.below.mono h4.size)
      exact B1.out.trans (h5.mono B1.out.size)
end Go.Proofs.Ytajblfmabokgkaa.P
