/- The stable sort's walks: the merge, the general case. -/
import Derived.Test.YtajblfmabokgkaaStabB
import Derived.Deep.CutBlock
import Derived.Deep.DeepCutAuto
namespace Go.Proofs.Ytajblfmabokgkaa.P
open Go.Proofs.YtajblfmabokgkaaR
open Go.Shelf Go.Sort
open Go.RowKit Go.Proofs.YtajblfmabokgkaaW.PrintWords Go.Proofs.YtajblfmabokgkaaW.PrintLast Go.Proofs.YtajblfmabokgkaaW.PrintMore
open Go.StableF
set_option linter.unusedVariables false
set_option linter.unusedSimpArgs false
set_option maxHeartbeats 8000000
set_option maxRecDepth 100000
variable {α : Type} [I : Inhabited α]

theorem slices_symMergeCmpFunc.gen (enc : α → Value) (cf : α → α → Int) (g : Nat) (cb : Array Value) (blk off cap n : Nat) (d0 : Array α) (w0 : World)
    (eg : ∀ args w, (callFunc g args).run Try.prog w = .ok (.enter g args) w) (hcmp : CmpLays1 Try.prog g cb enc cf blk off n w0) (R : Row1 enc w0 blk off d0) (hs : d0.size = n) (hsz : n < 4611686018427387904)
    (N : Nat) (ih : ∀ (d : Array α) (w : World) (a m b : Nat), b - a ≤ N → d.size = n → SW enc w0 blk off d w → a < m → m < b → b ≤ n →
      Calls Try.prog 37 #[.slice (some ⟨blk, off, none⟩) n cap, .int .i64 a, .int .i64 m, .int .i64 b, .func (.func g) #[] cb] w fun e w' => e = .returned (.tuple #[]) ∧ SW enc w0 blk off (symF (ltOf cf) d a m b) w')
    (d : Array α) (w : World) (a m b : Nat) (hN : b - a ≤ N + 1) (hsd : d.size = n) (S : SW enc w0 blk off d w) (ham : a < m) (hmb : m < b) (hbn : b ≤ n) (k1 : ¬ m - a = 1) (k2 : ¬ b - m = 1) :
    Calls Try.prog 37 #[.slice (some ⟨blk, off, none⟩) n cap, .int .i64 a, .int .i64 m, .int .i64 b, .func (.func g) #[] cb] w fun e w' => e = .returned (.tuple #[]) ∧ SW enc w0 blk off (symF (ltOf cf) d a m b) w' := by
  have mixed : Try.prog.follows .mixedOrders = true := by kernel_rfl
  have hcl0 := R.hO.cells
  simp only [Value.cells] at hcl0
  have hst := R.hO.store Try.prog
  have HC := Aside0.mk hcmp
  have HR := Aside0.mk R
  have HS := Aside0.mk (And.intro hs hsd)
  have IH := Aside0.mk ih
  have S0 := Aside0.mk S
  have LH := Aside0.mk (lo_hi a m b ham hmb)
  have SB := Aside0.mk (start_bounds (lt := ltOf cf) d a m b ham hmb)
  have HK := Aside0.mk (And.intro k1 k2)
  have HN := Aside0.mk hN
  clear S hcmp ih R hs hsd hN
  have c1 : decide ((m : Int) - (a : Int) = 1) = false := decide_eq_false (by omega)
  have c1' : ((m : Int) - (a : Int) == 1) = false := by simp; omega
  have c3 : decide ((b : Int) - (m : Int) = 1) = false := decide_eq_false (by omega)
  have c3' : ((b : Int) - (m : Int) == 1) = false := by simp; omega
  clear k1 k2
  go_enter Try.func37, Try.ntmps37
  go_upto_if 140 with fail
  go_cut [18, 19, 20, 21] (fun v18 v19 v20 v21 wx => v18 = .int .i64 (((a + b) / 2 : Nat) : Int) ∧ v19 = .int .i64 (((a + b) / 2 + m : Nat) : Int) ∧ v20 = .int .i64 (lo a m b : Nat) ∧ v21 = .int .i64 (hi a m b : Nat) ∧ w = wx)
  case first => as_aux_lemma =>
    by_cases q : (a + b) / 2 < m
    · have hq : ((a : Int) + (b : Int)) / 2 < (m : Int) := by omega
      go_wp2_with fail
      go_meet
      exact ⟨rfl, rfl, by rw [show lo a m b = (a + b) / 2 + m - b from if_pos q]; congr 1; omega, by rw [show hi a m b = (a + b) / 2 from if_pos q]; rfl, rfl⟩
    · have hq : ¬ ((a : Int) + (b : Int)) / 2 < (m : Int) := by omega
      go_wp2_with fail
      go_meet
      exact ⟨rfl, rfl, by rw [show lo a m b = a from if_neg q], by rw [show hi a m b = m from if_neg q], rfl⟩
  case rest =>
    obtain ⟨rfl, rfl, rfl, rfl, rfl⟩ := hcut
    obtain ⟨q, hq⟩ : ∃ q, q = (a + b) / 2 := ⟨_, rfl⟩
    obtain ⟨t, ht⟩ : ∃ t, t = q + m := ⟨_, rfl⟩
    obtain ⟨l, hl⟩ : ∃ l, l = lo a m b := ⟨_, rfl⟩
    obtain ⟨h, hh⟩ : ∃ h, h = hi a m b := ⟨_, rfl⟩
    have L := LH.out
    rw [← hl, ← hh, ← hq] at L
    rw [← hl, ← hh, ← hq, ← ht]
    have Q := Aside0.mk (And.intro hq (And.intro ht (And.intro hl hh)))
    have B0 : 0 < t ∧ t ≤ 2 * n ∧ l ≤ h ∧ h ≤ q ∧ h ≤ n ∧ h < t ∧ t ≤ n + l := by omega
    have L0 := Aside0.mk L
    clear hq ht hl hh L
    go_upto_block 8 with fail
    go_cut [20] (fun v20 wx => v20 = .int .i64 ((bs (pThr (ltOf cf) d (t - 1)) l h : Nat) : Int) ∧ Aside (SW enc w0 blk off d wx))
    case first => as_aux_lemma =>
      have S0 : Aside (SW enc w0 blk off d w) := S0.out
      go_wp2_with fail
      go_loopg [20, 21, 23] (h - l) (fun gg v20 v21 v23 wr => ∃ (i j : Nat), v20 = .int .i64 i ∧ v21 = .int .i64 j ∧ l ≤ i ∧ i ≤ j ∧ j ≤ h ∧ j - i ≤ gg ∧ Aside (SW enc w0 blk off d wr) ∧ Hid (bs (pThr (ltOf cf) d (t - 1)) i j = bs (pThr (ltOf cf) d (t - 1)) l h))
      case atStart => exact ⟨l, h, rfl, rfl, by omega, by omega, by omega, by omega, S0, rfl⟩
      case round =>
        clear S0
        obtain ⟨i, j, rfl, rfl, hli, hij, hjh, hg1, S1, HB⟩ := hrel
        by_cases hlt : i < j
        · have hltz : (i : Int) < (j : Int) := by omega
          obtain ⟨c, hc⟩ : ∃ c, c = (i + j) / 2 := ⟨_, rfl⟩
          obtain ⟨iN, hiN⟩ : ∃ q, q = c := ⟨_, rfl⟩
          obtain ⟨jN, hjN⟩ : ∃ q, q = t - 1 - c := ⟨_, rfl⟩
          have ea : (((i : Int) + (j : Int)) / 2).toNat = iN := by omega
          have pa : (0 : Int) ≤ ((i : Int) + (j : Int)) / 2 := by omega
          have ba : ((i : Int) + (j : Int)) / 2 < (n : Int) := by omega
          have ec : ((t : Int) - 1 - ((i : Int) + (j : Int)) / 2).toNat = jN := by omega
          have pc : ((i : Int) + (j : Int)) / 2 ≤ (t : Int) - 1 := by omega
          have bc : (t : Int) - 1 - ((i : Int) + (j : Int)) / 2 < (n : Int) := by omega
          have rc : IntKind.i64.wrap ((t : Int) - 1 - ((i : Int) + (j : Int)) / 2) = (t : Int) - 1 - ((i : Int) + (j : Int)) / 2 := by rw [IntKind.wrap_i64]; omega
          obtain ⟨y, hy⟩ : ∃ x, x = d[c]! := ⟨_, rfl⟩
          obtain ⟨x, hx⟩ : ∃ x, x = d[t - 1 - c]! := ⟨_, rfl⟩
          obtain ⟨hs, hsd⟩ := HS.out
          have l1 := S1.out.cl HR.out (by omega) c (by omega)
          have l2 := S1.out.cl HR.out (by omega) (t - 1 - c) (by omega)
          rw [← hy, ← hiN] at l1
          rw [← hx, ← hjN] at l2
          have hc1 := S1.out.cmp HC.out (by omega) x y
          have HX := Aside0.mk (And.intro hx (And.intro hy (And.intro hiN (And.intro hjN (And.intro hc hg1)))))
          clear hs hsd
          cases hd : decide (cf x y < 0) with
          | true =>
            have hv : cf x y < 0 := of_decide_eq_true hd
            clear hx hy hiN hjN hc hg1
            go_wp2_with fail
            go_quiet_grown (first | (go_at_fn g; refine Calls.grown_of (hc1 _ _)))
            have S2 : Aside (SW enc w0 blk off d (grow (wr.drewN nq) osq)) := S1.out.grown nq osq
            clear l1 l2 hc1 S1
            generalize grow (wr.drewN nq) osq = w2 at S2 ⊢
            clear nq osq
            go_wp2
            obtain ⟨hx, hy, hiN, hjN, hc, hg1⟩ := HX.out
            go_roundg (c - i)
            case measure => omega
            case rel => exact ⟨i, c, rfl, by congr 1; omega, hli, by omega, by omega, Nat.le_refl _, S2, by
              show _ = _
              rw [← HB.out, bs.eq_1 _ i j, if_pos hlt, if_neg (by rw [← hc]; show ¬ (!decide (cf d[t - 1 - c]! d[c]! < 0)) = true; rw [← hx, ← hy, hd]; exact Bool.false_ne_true), ← hc]⟩
          | false =>
            have hv : ¬ cf x y < 0 := of_decide_eq_false hd
            clear hx hy hiN hjN hc hg1
            go_wp2_with fail
            go_quiet_grown (first | (go_at_fn g; refine Calls.grown_of (hc1 _ _)))
            have S2 : Aside (SW enc w0 blk off d (grow (wr.drewN nq) osq)) := S1.out.grown nq osq
            clear l1 l2 hc1 S1
            generalize grow (wr.drewN nq) osq = w2 at S2 ⊢
            clear nq osq
            go_wp2
            obtain ⟨hx, hy, hiN, hjN, hc, hg1⟩ := HX.out
            go_roundg (j - (c + 1))
            case measure => omega
            case rel => exact ⟨c + 1, j, by congr 1; omega, rfl, by omega, by omega, hjh, Nat.le_refl _, S2, by
              show _ = _
              rw [← HB.out, bs.eq_1 _ i j, if_pos hlt, if_pos (by rw [← hc]; show (!decide (cf d[t - 1 - c]! d[c]! < 0)) = true; rw [← hx, ← hy, hd]; rfl), ← hc]⟩
        · have hltz : ¬ (i : Int) < (j : Int) := by omega
          have hie : bs (pThr (ltOf cf) d (t - 1)) l h = i := by rw [← HB.out, bs.eq_1 _ i j, if_neg hlt]
          have HI := Aside0.mk hie
          clear hie HB
          go_wp2_with fail
          go_meet
          exact ⟨by rw [HI.out], S1⟩
    case rest =>
      obtain ⟨rfl, S1⟩ := hcut
      clear S0 hcl0 hst mixed eg
      obtain ⟨s, hs⟩ : ∃ s, s = bs (pThr (ltOf cf) d (t - 1)) l h := ⟨_, rfl⟩
      rw [← hs]
      have hss : Go.StableF.start (ltOf cf) d a m b = s := by
        obtain ⟨h1, h2, h3, h4⟩ := Q.out
        rw [hs, h2, h1, h3, h4]; rfl
      obtain ⟨e, he⟩ : ∃ e, e = t - s := ⟨_, rfl⟩
      have hse : Go.StableF.stop (ltOf cf) d a m b = e := by
        obtain ⟨h1, h2, h3, h4⟩ := Q.out
        rw [he, h2, h1, ← hss]; rfl
      have hsb := SB.out
      rw [hss] at hsb
      obtain ⟨h1, h2, h3, h4⟩ := Q.out
      rw [← h3, ← h4] at hsb
      obtain ⟨L1, L2, L3, L4, L5, L6, L7, L8⟩ := L0.out
      have BB : s ≤ m ∧ m ≤ e ∧ e ≤ b ∧ a ≤ s ∧ s ≤ q ∧ q ≤ e ∧ (t : Int) - (s : Int) = (e : Int) ∧ a < q ∧ q < b := by
        have := HK.out
        omega
      obtain ⟨B1, B2, B3, B4, B5, B6, B7, B8, B9⟩ := BB
      have E0 := Aside0.mk (And.intro hss (And.intro hse h1))
      clear hs hss he hse hsb h1 h2 h3 h4 L1 L2 L3 L4 L5 L6 L7 L8 B0 HC SB L0 Q LH
      go_upto_region 39 with fail
      obtain ⟨d1, hd1⟩ : ∃ d1, d1 = Go.StableF.rotd (ltOf cf) d a m b := ⟨_, rfl⟩
      obtain ⟨d2, hd2⟩ : ∃ d2, d2 = (if a < s ∧ s < q then symF (ltOf cf) d1 a s q else d1) := ⟨_, rfl⟩
      have hfin : symF (ltOf cf) d a m b = if q < e ∧ e < b then symF (ltOf cf) d2 q e b else d2 := by
        obtain ⟨h1, h2, h3⟩ := E0.out
        obtain ⟨h4, h5⟩ := HK.out
        rw [symF.eq_1 _ d a m b, if_neg h4, if_neg h5, hd2, hd1]
        simp only [h1, h2, ← h3, dite_eq_ite]
      have FIN := Aside0.mk hfin
      have hrot : d1 = if s < m ∧ m < e then rotL m (m - s) (e - m) d else d := by
        obtain ⟨h1, h2, h3⟩ := E0.out
        rw [hd1]; unfold Go.StableF.rotd; rw [h1, h2]
      have D1 := Aside0.mk hrot
      have D2 := Aside0.mk hd2
      have hz1 : d1.size = n := by rw [hd1, rotd_size]; exact HS.out.2
      have Z1 := Aside0.mk hz1
      have KR := Aside0.mk (fun (wr : World) (S : SW enc w0 blk off d wr) (p1 : s < m) (p2 : m < e) => (by
        have X := slices_rotateCmpFunc.calls enc blk off cap s m e d0 d w0 wr (.func (.func g) #[] cb) HR.out (by rw [HS.out.1, HS.out.2]) S p1 p2 (by rw [HS.out.2]; omega) (by rw [HS.out.2]; omega)
        rw [HS.out.2] at X
        exact X : Calls Try.prog 44 #[.slice (some ⟨blk, off, none⟩) n cap, .int .i64 s, .int .i64 m, .int .i64 e, .func (.func g) #[] cb] wr fun e' w' => e' = .returned (.tuple #[]) ∧ SW enc w0 blk off (rotL m (m - s) (e - m) d) w'))
      have hz2 : d2.size = n := by
        rw [hd2]; split
        · rw [symF_size (q - a) d1 a s q (Nat.le_refl _)]; exact hz1
        · exact hz1
      have KL := Aside0.mk (fun (wr : World) (S : SW enc w0 blk off d1 wr) (p1 : a < s) (p2 : s < q) => IH.out d1 wr a s q (by have := HN.out; omega) hz1 S p1 p2 (by omega))
      have KQ := Aside0.mk (fun (wr : World) (S : SW enc w0 blk off d2 wr) (p1 : q < e) (p2 : e < b) => IH.out d2 wr q e b (by have := HN.out; omega) hz2 S p1 p2 (by omega))
      clear hd1 hd2 hfin hrot hz1 hz2 E0 Z1 IH HN HK HS
      go_cut [185] (fun v wx => ∃ c : Bool, v = .bool c ∧ Aside0 (c = decide (s < m ∧ m < e)) ∧ wx = wc)
      case first => as_aux_lemma =>
        by_cases p1 : s < m
        · have p1z : (s : Int) < (m : Int) := Int.ofNat_lt.mpr p1
          by_cases p2 : m < e
          · have p2z : (m : Int) < (e : Int) := Int.ofNat_lt.mpr p2
            have HP := Aside0.mk (And.intro p1 p2)
            clear p1 p2
            go_wp2_with fail
            go_meet
            exact ⟨true, rfl, ⟨(decide_eq_true HP.out).symm⟩, rfl⟩
          · have p2z : ¬ (m : Int) < (e : Int) := fun h => p2 (Int.ofNat_lt.mp h)
            go_wp2_with fail
            go_meet
            exact ⟨false, rfl, ⟨(decide_eq_false (fun h => p2 h.2)).symm⟩, rfl⟩
        · have p1z : ¬ (s : Int) < (m : Int) := fun h => p1 (Int.ofNat_lt.mp h)
          go_wp2_with fail
          go_meet
          exact ⟨false, rfl, ⟨(decide_eq_false (fun h => p1 h.1)).symm⟩, rfl⟩
      case rest =>
        obtain ⟨c, rfl, HC, rfl⟩ := hcut
        go_upto_if 185 with fail
        go_cut [] (fun wx => Aside (SW enc w0 blk off d1 wx))
        case first => as_aux_lemma =>
          cases c with
          | true =>
            have p1 := of_decide_eq_true HC.out.symm
            have K1 := Aside0.mk (KR.out _ S1.out p1.1 p1.2)
            clear p1
            go_wp2_with (first | (go_at_call 44; refine K1.out.mono ?_; rintro e w1 ⟨rfl, hS⟩; have S2 : Aside _ := hS; clear hS))
            go_meet
            have p1 := of_decide_eq_true HC.out.symm
            rw [D1.out, if_pos p1]; exact S2
          | false =>
            have p1 := of_decide_eq_false HC.out.symm
            have HP := Aside0.mk p1
            clear p1
            go_wp2_with fail
            go_meet
            rw [D1.out, if_neg HP.out]; exact S1
        case rest =>
          have S2 : Aside (SW enc w0 blk off d1 wc) := hcut
          clear hcut S1
          go_upto_region 41 with fail
          go_cut [199] (fun v wx => ∃ c : Bool, v = .bool c ∧ Aside0 (c = decide (a < s ∧ s < q)) ∧ wx = wc)
          case first => as_aux_lemma =>
            by_cases p1 : a < s
            · have p1z : (a : Int) < (s : Int) := Int.ofNat_lt.mpr p1
              by_cases p2 : s < q
              · have p2z : (s : Int) < (q : Int) := Int.ofNat_lt.mpr p2
                have HP := Aside0.mk (And.intro p1 p2)
                clear p1 p2
                go_wp2_with fail
                go_meet
                exact ⟨true, rfl, ⟨(decide_eq_true HP.out).symm⟩, rfl⟩
              · have p2z : ¬ (s : Int) < (q : Int) := fun h => p2 (Int.ofNat_lt.mp h)
                go_wp2_with fail
                go_meet
                exact ⟨false, rfl, ⟨(decide_eq_false (fun h => p2 h.2)).symm⟩, rfl⟩
            · have p1z : ¬ (a : Int) < (s : Int) := fun h => p1 (Int.ofNat_lt.mp h)
              go_wp2_with fail
              go_meet
              exact ⟨false, rfl, ⟨(decide_eq_false (fun h => p1 h.1)).symm⟩, rfl⟩
          case rest =>
            obtain ⟨c, rfl, HC, rfl⟩ := hcut
            go_upto_if 199 with fail
            go_cut [] (fun wx => Aside (SW enc w0 blk off d2 wx))
            case first => as_aux_lemma =>
              cases c with
              | true =>
                have p1 := of_decide_eq_true HC.out.symm
                have K1 := Aside0.mk (KL.out _ S2.out p1.1 p1.2)
                clear p1
                go_wp2_with (first | (go_at_call 37; refine K1.out.mono ?_; rintro e w1 ⟨rfl, hS⟩; have S3 : Aside _ := hS; clear hS))
                go_meet
                have p1 := of_decide_eq_true HC.out.symm
                rw [D2.out, if_pos p1]; exact S3
              | false =>
                have p1 := of_decide_eq_false HC.out.symm
                have HP := Aside0.mk p1
                clear p1
                go_wp2_with fail
                go_meet
                rw [D2.out, if_neg HP.out]; exact S2
            case rest =>
              have S3 : Aside (SW enc w0 blk off d2 wc) := hcut
              clear hcut S2
              go_upto_region 43 with fail
              go_cut [213] (fun v wx => ∃ c : Bool, v = .bool c ∧ Aside0 (c = decide (q < e ∧ e < b)) ∧ wx = wc)
              case first => as_aux_lemma =>
                by_cases p1 : q < e
                · have p1z : (q : Int) < (e : Int) := Int.ofNat_lt.mpr p1
                  by_cases p2 : e < b
                  · have p2z : (e : Int) < (b : Int) := Int.ofNat_lt.mpr p2
                    have HP := Aside0.mk (And.intro p1 p2)
                    clear p1 p2
                    go_wp2_with fail
                    go_meet
                    exact ⟨true, rfl, ⟨(decide_eq_true HP.out).symm⟩, rfl⟩
                  · have p2z : ¬ (e : Int) < (b : Int) := fun h => p2 (Int.ofNat_lt.mp h)
                    go_wp2_with fail
                    go_meet
                    exact ⟨false, rfl, ⟨(decide_eq_false (fun h => p2 h.2)).symm⟩, rfl⟩
                · have p1z : ¬ (q : Int) < (e : Int) := fun h => p1 (Int.ofNat_lt.mp h)
                  go_wp2_with fail
                  go_meet
                  exact ⟨false, rfl, ⟨(decide_eq_false (fun h => p1 h.1)).symm⟩, rfl⟩
              case rest =>
                obtain ⟨c, rfl, HC, rfl⟩ := hcut
                cases c with
                | true =>
                  have p1 := of_decide_eq_true HC.out.symm
                  have K1 := Aside0.mk (KQ.out _ S3.out p1.1 p1.2)
                  clear p1
                  go_wp2_with (first | (go_at_call 37; refine K1.out.mono ?_; rintro e w1 ⟨rfl, hS⟩; have S4 : Aside _ := hS; clear hS))
                  go_end0
                  have p1 := of_decide_eq_true HC.out.symm
                  exact ⟨rfl, by rw [FIN.out, if_pos p1]; exact S4.out⟩
                | false =>
                  have p1 := of_decide_eq_false HC.out.symm
                  have HP := Aside0.mk p1
                  clear p1
                  go_wp2_with fail
                  go_end0
                  exact ⟨rfl, by rw [FIN.out, if_neg HP.out]; exact S3.out⟩
end Go.Proofs.Ytajblfmabokgkaa.P
