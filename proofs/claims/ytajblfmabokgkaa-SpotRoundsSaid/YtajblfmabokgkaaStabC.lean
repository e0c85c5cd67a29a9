/- The stable sort's walks: the merge. -/
import Derived.Test.YtajblfmabokgkaaStabD
namespace Go.Proofs.Ytajblfmabokgkaa.P
open Go.Proofs.YtajblfmabokgkaaR
open Go.Shelf Go.Sort
open Go.RowKit Go.Proofs.YtajblfmabokgkaaW.PrintWords Go.Proofs.YtajblfmabokgkaaW.PrintLast Go.Proofs.YtajblfmabokgkaaW.PrintMore
open Go.StableF
set_option linter.unusedVariables false
set_option linter.unusedSimpArgs false
set_option maxHeartbeats 8000000
set_option maxRecDepth 100000
variable {α : Type} [I : Inhabited α]

theorem slices_symMergeCmpFunc.one (enc : α → Value) (cf : α → α → Int) (g : Nat) (cb : Array Value) (blk off cap n : Nat) (d0 : Array α) (w0 : World)
    (eg : ∀ args w, (callFunc g args).run Try.prog w = .ok (.enter g args) w) (hcmp : CmpLays1 Try.prog g cb enc cf blk off n w0) (R : Row1 enc w0 blk off d0) (hs : d0.size = n) (hsz : n < 4611686018427387904)
    (d : Array α) (w : World) (a m b : Nat) (hsd : d.size = n) (S : SW enc w0 blk off d w) (ham : a < m) (hmb : m < b) (hbn : b ≤ n) (k1 : m - a = 1) :
    Calls Try.prog 37 #[.slice (some ⟨blk, off, none⟩) n cap, .int .i64 a, .int .i64 m, .int .i64 b, .func (.func g) #[] cb] w fun e w' => e = .returned (.tuple #[]) ∧ SW enc w0 blk off (symF (ltOf cf) d a m b) w' := by
  have mixed : Try.prog.follows .mixedOrders = true := by kernel_rfl
  have hcl0 := R.hO.cells
  simp only [Value.cells] at hcl0
  have hst := R.hO.store Try.prog
  have HC : Aside _ := hcmp
  have S0 : Aside (SW enc w0 blk off d w) := S
  clear S hcmp
  go_enter Try.func37, Try.ntmps37
  have c1 : decide ((m : Int) - (a : Int) = 1) = true := decide_eq_true (by omega)
  have c1' : ((m : Int) - (a : Int) == 1) = true := by simp; omega
  go_wp2_with fail
  go_loopg [10, 11, 12] (b - m) (fun gg v10 v11 v12 wr => ∃ (i j : Nat), v10 = .int .i64 i ∧ v11 = .int .i64 j ∧ m ≤ i ∧ i ≤ j ∧ j ≤ b ∧ j - i ≤ gg ∧ Aside (SW enc w0 blk off d wr) ∧ Hid (bs (pOne (ltOf cf) d a) i j = bs (pOne (ltOf cf) d a) m b))
  case atStart => exact ⟨m, b, rfl, rfl, by omega, by omega, by omega, by omega, S0, rfl⟩
  case round =>
    clear S0
    obtain ⟨i, j, rfl, rfl, hmi, hij, hjb, hg1, S1, HB⟩ := hrel
    by_cases hlt : i < j
    · have hltz : (i : Int) < (j : Int) := by omega
      obtain ⟨h, hh⟩ : ∃ h, h = (i + j) / 2 := ⟨_, rfl⟩
      obtain ⟨iN, hiN⟩ : ∃ q, q = h := ⟨_, rfl⟩
      have ea : (((i : Int) + (j : Int)) / 2).toNat = iN := by omega
      have pa : (0 : Int) ≤ ((i : Int) + (j : Int)) / 2 := by omega
      have ba : ((i : Int) + (j : Int)) / 2 < (n : Int) := by omega
      have pc : (0 : Int) ≤ (a : Int) := by omega
      have bc : (a : Int) < (n : Int) := by omega
      obtain ⟨x, hx⟩ : ∃ x, x = d[h]! := ⟨_, rfl⟩
      obtain ⟨y, hy⟩ : ∃ x, x = d[a]! := ⟨_, rfl⟩
      have l1 := S1.out.cl R (by omega) h (by omega)
      have l2 := S1.out.cl R (by omega) a (by omega)
      rw [← hx, ← hiN] at l1
      rw [← hy] at l2
      have hc1 := S1.out.cmp HC.out (by omega) x y
      have HX := Aside0.mk (And.intro hx (And.intro hy (And.intro hiN (And.intro hh hg1))))
      cases hd : decide (cf x y < 0) with
      | true =>
        have hv : cf x y < 0 := of_decide_eq_true hd
        clear hx hy hiN hh hg1
        go_wp2_with fail
        go_quiet_grown (first | (go_at_fn g; refine Calls.grown_of (hc1 _ _)))
        have S2 : Aside (SW enc w0 blk off d (grow (wr.drewN nq) osq)) := S1.out.grown nq osq
        clear l1 l2 hc1 S1
        generalize grow (wr.drewN nq) osq = w2 at S2 ⊢
        clear nq osq
        go_wp2
        obtain ⟨hx, hy, hiN, hh, hg1⟩ := HX.out
        go_roundg (j - (h + 1))
        case measure => omega
        case rel => exact ⟨h + 1, j, by congr 1; omega, rfl, by omega, by omega, hjb, Nat.le_refl _, S2, by
          show _ = _
          rw [← HB.out, bs.eq_1 _ i j, if_pos hlt, if_pos (by rw [← hh]; show decide (cf d[h]! d[a]! < 0) = true; rw [← hx, ← hy]; exact hd), ← hh]⟩
      | false =>
        have hv : ¬ cf x y < 0 := of_decide_eq_false hd
        clear hx hy hiN hh hg1
        go_wp2_with fail
        go_quiet_grown (first | (go_at_fn g; refine Calls.grown_of (hc1 _ _)))
        have S2 : Aside (SW enc w0 blk off d (grow (wr.drewN nq) osq)) := S1.out.grown nq osq
        clear l1 l2 hc1 S1
        generalize grow (wr.drewN nq) osq = w2 at S2 ⊢
        clear nq osq
        go_wp2
        obtain ⟨hx, hy, hiN, hh, hg1⟩ := HX.out
        go_roundg (h - i)
        case measure => omega
        case rel => exact ⟨i, h, rfl, by congr 1; omega, hmi, by omega, by omega, Nat.le_refl _, S2, by
          show _ = _
          rw [← HB.out, bs.eq_1 _ i j, if_pos hlt, if_neg (by rw [← hh]; show ¬ decide (cf d[h]! d[a]! < 0) = true; rw [← hx, ← hy, hd]; exact Bool.false_ne_true), ← hh]⟩
    · have hltz : ¬ (i : Int) < (j : Int) := by omega
      have hie : bs (pOne (ltOf cf) d a) m b = i := by rw [← HB.out, bs.eq_1 _ i j, if_neg hlt]
      have HI := Aside0.mk hie
      clear hie HB
      go_wp2_with fail
      go_loopg [13] (i - 1 - a) (fun gg v13 wr => ∃ (r : Nat), v13 = .int .i64 ((a : Int) + (r : Int)) ∧ a + r ≤ i - 1 ∧ i - 1 - (a + r) ≤ gg ∧ Aside (SW enc w0 blk off (shU a d r) wr))
      case atStart => exact ⟨0, by go_num, by omega, by omega, S1⟩
      case round =>
        clear S1
        obtain ⟨r, rfl, hr, hg2, S1⟩ := hrel
        by_cases hlt2 : a + r < i - 1
        · have hltz2 : (a : Int) + (r : Int) < (i : Int) - 1 := by omega
          have hsk : (shU a d r).size = d.size := shU_size _ _ _
          obtain ⟨iN, hiN⟩ : ∃ q, q = a + r := ⟨_, rfl⟩
          obtain ⟨jN, hjN⟩ : ∃ q, q = a + r + 1 := ⟨_, rfl⟩
          have ea : ((a : Int) + (r : Int)).toNat = iN := by omega
          have pa : (0 : Int) ≤ (a : Int) + (r : Int) := by omega
          have ba : (a : Int) + (r : Int) < (n : Int) := by omega
          have ra : IntKind.i64.wrap ((a : Int) + (r : Int)) = (a : Int) + (r : Int) := by rw [IntKind.wrap_i64]; omega
          have ec : ((a : Int) + (r : Int) + 1).toNat = jN := by omega
          have pc : (0 : Int) ≤ (a : Int) + (r : Int) + 1 := by omega
          have bc : (a : Int) + (r : Int) + 1 < (n : Int) := by omega
          have rc : IntKind.i64.wrap ((a : Int) + (r : Int) + 1) = (a : Int) + (r : Int) + 1 := by rw [IntKind.wrap_i64]; omega
          obtain ⟨x, hx⟩ : ∃ x, x = (shU a d r)[a + r]! := ⟨_, rfl⟩
          obtain ⟨y, hy⟩ : ∃ x, x = (shU a d r)[a + r + 1]! := ⟨_, rfl⟩
          have S3 : Aside (SW enc w0 blk off (shU a d (r + 1)) ((wr.setCell ⟨blk, off + iN, none⟩ (enc y)).setCell ⟨blk, off + jN, none⟩ (enc x)).drew) := by
            rw [hiN, hjN, hx, hy]; exact S1.out.swapped R (a + r) (a + r + 1) (by omega) (by omega)
          have c1 := S1.out.c1 R (by omega) (a + r) (by omega)
          have c2 := S1.out.c1 R (by omega) (a + r + 1) (by omega)
          have f1 := S1.out.f1 R (by omega) (a + r) (by omega)
          have f2 := S1.out.f1 R (by omega) (a + r + 1) (by omega)
          obtain ⟨u, c3⟩ := S1.out.c2 R (by omega) (a + r) (a + r + 1) (by omega) (by omega) (enc y)
          rw [← hjN, ← hiN] at c3
          rw [← hx, ← hiN] at c1
          rw [← hy, ← hjN] at c2
          rw [← hiN] at f1
          rw [← hjN] at f2
          clear S1 hx hy hiN hjN
          go_wp2_with fail
          go_big_region_o
          clear c1 c2 c3 f1 f2
          generalize ((wr.setCell ⟨blk, off + iN, none⟩ (enc y)).setCell ⟨blk, off + jN, none⟩ (enc x)).drew = w3 at S3 ⊢
          clear ea ec
          go_wp2
          go_roundg (i - 1 - (a + (r + 1)))
          case measure => omega
          case rel => exact ⟨r + 1, by first | rfl | go_num | (congr 1; omega), by omega, Nat.le_refl _, S3⟩
        · have hltz2 : ¬ (a : Int) + (r : Int) < (i : Int) - 1 := by omega
          go_wp2
          (try simp only [Exit.inBlock, Exit.then])
          refine bodyPost_ret (results_none rfl _ _ _) rfl ?_
          refine ⟨rfl, ?_⟩
          rw [symF, if_pos k1, HI.out, show i - 1 - a = r by omega]
          exact S1.out

theorem slices_symMergeCmpFunc.two (enc : α → Value) (cf : α → α → Int) (g : Nat) (cb : Array Value) (blk off cap n : Nat) (d0 : Array α) (w0 : World)
    (eg : ∀ args w, (callFunc g args).run Try.prog w = .ok (.enter g args) w) (hcmp : CmpLays1 Try.prog g cb enc cf blk off n w0) (R : Row1 enc w0 blk off d0) (hs : d0.size = n) (hsz : n < 4611686018427387904)
    (d : Array α) (w : World) (a m b : Nat) (hsd : d.size = n) (S : SW enc w0 blk off d w) (ham : a < m) (hmb : m < b) (hbn : b ≤ n) (k1 : ¬ m - a = 1) (k2 : b - m = 1) :
    Calls Try.prog 37 #[.slice (some ⟨blk, off, none⟩) n cap, .int .i64 a, .int .i64 m, .int .i64 b, .func (.func g) #[] cb] w fun e w' => e = .returned (.tuple #[]) ∧ SW enc w0 blk off (symF (ltOf cf) d a m b) w' := by
  have mixed : Try.prog.follows .mixedOrders = true := by kernel_rfl
  have hcl0 := R.hO.cells
  simp only [Value.cells] at hcl0
  have hst := R.hO.store Try.prog
  have HC : Aside _ := hcmp
  have S0 : Aside (SW enc w0 blk off d w) := S
  clear S hcmp
  go_enter Try.func37, Try.ntmps37
  have c1 : decide ((m : Int) - (a : Int) = 1) = false := decide_eq_false (by omega)
  have c1' : ((m : Int) - (a : Int) == 1) = false := by simp; omega
  have c3 : decide ((b : Int) - (m : Int) = 1) = true := decide_eq_true (by omega)
  have c3' : ((b : Int) - (m : Int) == 1) = true := by simp; omega
  go_wp2_with fail
  go_loopg [14, 15, 16] (m - a) (fun gg v10 v11 v12 wr => ∃ (i j : Nat), v10 = .int .i64 i ∧ v11 = .int .i64 j ∧ a ≤ i ∧ i ≤ j ∧ j ≤ m ∧ j - i ≤ gg ∧ Aside (SW enc w0 blk off d wr) ∧ Hid (bs (pTwo (ltOf cf) d m) i j = bs (pTwo (ltOf cf) d m) a m))
  case atStart => exact ⟨a, m, rfl, rfl, by omega, by omega, by omega, by omega, S0, rfl⟩
  case round =>
    clear S0
    obtain ⟨i, j, rfl, rfl, hmi, hij, hjb, hg1, S1, HB⟩ := hrel
    by_cases hlt : i < j
    · have hltz : (i : Int) < (j : Int) := by omega
      obtain ⟨h, hh⟩ : ∃ h, h = (i + j) / 2 := ⟨_, rfl⟩
      obtain ⟨iN, hiN⟩ : ∃ q, q = h := ⟨_, rfl⟩
      have ea : (((i : Int) + (j : Int)) / 2).toNat = iN := by omega
      have pa : (0 : Int) ≤ ((i : Int) + (j : Int)) / 2 := by omega
      have ba : ((i : Int) + (j : Int)) / 2 < (n : Int) := by omega
      have pc : (0 : Int) ≤ (m : Int) := by omega
      have bc : (m : Int) < (n : Int) := by omega
      obtain ⟨x, hx⟩ : ∃ x, x = d[h]! := ⟨_, rfl⟩
      obtain ⟨y, hy⟩ : ∃ x, x = d[m]! := ⟨_, rfl⟩
      have l1 := S1.out.cl R (by omega) h (by omega)
      have l2 := S1.out.cl R (by omega) m (by omega)
      rw [← hx, ← hiN] at l1
      rw [← hy] at l2
      have hc1 := S1.out.cmp HC.out (by omega) y x
      have HX := Aside0.mk (And.intro hx (And.intro hy (And.intro hiN (And.intro hh hg1))))
      cases hd : decide (cf y x < 0) with
      | true =>
        have hv : cf y x < 0 := of_decide_eq_true hd
        clear hx hy hiN hh hg1
        go_wp2_with fail
        go_quiet_grown (first | (go_at_fn g; refine Calls.grown_of (hc1 _ _)))
        have S2 : Aside (SW enc w0 blk off d (grow (wr.drewN nq) osq)) := S1.out.grown nq osq
        clear l1 l2 hc1 S1
        generalize grow (wr.drewN nq) osq = w2 at S2 ⊢
        clear nq osq
        go_wp2
        obtain ⟨hx, hy, hiN, hh, hg1⟩ := HX.out
        go_roundg (h - i)
        case measure => omega
        case rel => exact ⟨i, h, rfl, by congr 1; omega, (by omega), by omega, by omega, Nat.le_refl _, S2, by
          show _ = _
          rw [← HB.out, bs.eq_1 _ i j, if_pos hlt, if_neg (by rw [← hh]; show ¬ (!decide (cf d[m]! d[h]! < 0)) = true; rw [← hx, ← hy, hd]; exact Bool.false_ne_true), ← hh]⟩
      | false =>
        have hv : ¬ cf y x < 0 := of_decide_eq_false hd
        clear hx hy hiN hh hg1
        go_wp2_with fail
        go_quiet_grown (first | (go_at_fn g; refine Calls.grown_of (hc1 _ _)))
        have S2 : Aside (SW enc w0 blk off d (grow (wr.drewN nq) osq)) := S1.out.grown nq osq
        clear l1 l2 hc1 S1
        generalize grow (wr.drewN nq) osq = w2 at S2 ⊢
        clear nq osq
        go_wp2
        obtain ⟨hx, hy, hiN, hh, hg1⟩ := HX.out
        go_roundg (j - (h + 1))
        case measure => omega
        case rel => exact ⟨h + 1, j, by congr 1; omega, rfl, by omega, by omega, hjb, Nat.le_refl _, S2, by
          show _ = _
          rw [← HB.out, bs.eq_1 _ i j, if_pos hlt, if_pos (by rw [← hh]; show (!decide (cf d[m]! d[h]! < 0)) = true; rw [← hx, ← hy, hd]; rfl), ← hh]⟩
    · have hltz : ¬ (i : Int) < (j : Int) := by omega
      have hie : bs (pTwo (ltOf cf) d m) a m = i := by rw [← HB.out, bs.eq_1 _ i j, if_neg hlt]
      have HI := Aside0.mk hie
      clear hie HB
      go_wp2_with fail
      go_loopg [17] (m - i) (fun gg v13 wr => ∃ (r : Nat), v13 = .int .i64 ((m : Int) - (r : Int)) ∧ i + r ≤ m ∧ m - (i + r) ≤ gg ∧ Aside (SW enc w0 blk off (shD m d r) wr))
      case atStart => exact ⟨0, by go_num, by omega, by omega, S1⟩
      case round =>
        clear S1
        obtain ⟨r, rfl, hr, hg2, S1⟩ := hrel
        by_cases hlt2 : i + r < m
        · have hltz2 : (i : Int) < (m : Int) - (r : Int) := by omega
          have hsk : (shD m d r).size = d.size := shD_size _ _ _
          obtain ⟨iN, hiN⟩ : ∃ q, q = m - r := ⟨_, rfl⟩
          obtain ⟨jN, hjN⟩ : ∃ q, q = m - r - 1 := ⟨_, rfl⟩
          have ea : ((m : Int) - (r : Int)).toNat = iN := by omega
          have pa : (0 : Int) ≤ (m : Int) - (r : Int) := by omega
          have ba : (m : Int) - (r : Int) < (n : Int) := by omega
          have ra : IntKind.i64.wrap ((m : Int) - (r : Int)) = (m : Int) - (r : Int) := by rw [IntKind.wrap_i64]; omega
          have ec : ((m : Int) - (r : Int) - 1).toNat = jN := by omega
          have pc : (0 : Int) ≤ (m : Int) - (r : Int) - 1 := by omega
          have bc : (m : Int) - (r : Int) - 1 < (n : Int) := by omega
          have rc : IntKind.i64.wrap ((m : Int) - (r : Int) - 1) = (m : Int) - (r : Int) - 1 := by rw [IntKind.wrap_i64]; omega
          obtain ⟨x, hx⟩ : ∃ x, x = (shD m d r)[m - r]! := ⟨_, rfl⟩
          obtain ⟨y, hy⟩ : ∃ x, x = (shD m d r)[m - r - 1]! := ⟨_, rfl⟩
          have S3 : Aside (SW enc w0 blk off (shD m d (r + 1)) ((wr.setCell ⟨blk, off + iN, none⟩ (enc y)).setCell ⟨blk, off + jN, none⟩ (enc x)).drew) := by
            rw [hiN, hjN, hx, hy]; exact S1.out.swapped R (m - r) (m - r - 1) (by omega) (by omega)
          have c1 := S1.out.c1 R (by omega) (m - r) (by omega)
          have c2 := S1.out.c1 R (by omega) (m - r - 1) (by omega)
          have f1 := S1.out.f1 R (by omega) (m - r) (by omega)
          have f2 := S1.out.f1 R (by omega) (m - r - 1) (by omega)
          obtain ⟨u, c3⟩ := S1.out.c2 R (by omega) (m - r) (m - r - 1) (by omega) (by omega) (enc y)
          rw [← hjN, ← hiN] at c3
          rw [← hx, ← hiN] at c1
          rw [← hy, ← hjN] at c2
          rw [← hiN] at f1
          rw [← hjN] at f2
          clear S1 hx hy hiN hjN
          go_wp2_with fail
          go_big_region_o
          clear c1 c2 c3 f1 f2
          generalize ((wr.setCell ⟨blk, off + iN, none⟩ (enc y)).setCell ⟨blk, off + jN, none⟩ (enc x)).drew = w3 at S3 ⊢
          clear ea ec
          go_wp2
          go_roundg (m - (i + (r + 1)))
          case measure => omega
          case rel => exact ⟨r + 1, by first | rfl | go_num | (congr 1; omega), by omega, Nat.le_refl _, S3⟩
        · have hltz2 : ¬ (i : Int) < (m : Int) - (r : Int) := by omega
          go_wp2
          (try simp only [Exit.inBlock, Exit.then])
          refine bodyPost_ret (results_none rfl _ _ _) rfl ?_
          refine ⟨rfl, ?_⟩
          rw [symF, if_neg k1, if_pos k2, HI.out, show m - i = r by omega]
          exact S1.out

theorem slices_symMergeCmpFunc.calls (enc : α → Value) (cf : α → α → Int) (g : Nat) (cb : Array Value) (blk off cap n : Nat) (d0 : Array α) (w0 : World)
    (eg : ∀ args w, (callFunc g args).run Try.prog w = .ok (.enter g args) w) (hcmp : CmpLays1 Try.prog g cb enc cf blk off n w0) (R : Row1 enc w0 blk off d0) (hs : d0.size = n) (hsz : n < 4611686018427387904) :
    ∀ (N : Nat) (d : Array α) (w : World) (a m b : Nat), b - a ≤ N → d.size = n → SW enc w0 blk off d w → a < m → m < b → b ≤ n →
    Calls Try.prog 37 #[.slice (some ⟨blk, off, none⟩) n cap, .int .i64 a, .int .i64 m, .int .i64 b, .func (.func g) #[] cb] w fun e w' => e = .returned (.tuple #[]) ∧ SW enc w0 blk off (symF (ltOf cf) d a m b) w' := by
  intro N
  induction N with
  | zero => intro d w a m b h1 h2 S h3 h4; omega
  | succ N ih =>
  intro d w a m b hN hsd S ham hmb hbn
  by_cases k1 : m - a = 1
  · exact slices_symMergeCmpFunc.one enc cf g cb blk off cap n d0 w0 eg hcmp R hs hsz d w a m b hsd S ham hmb hbn k1
  by_cases k2 : b - m = 1
  · exact slices_symMergeCmpFunc.two enc cf g cb blk off cap n d0 w0 eg hcmp R hs hsz d w a m b hsd S ham hmb hbn k1 k2
  exact slices_symMergeCmpFunc.gen enc cf g cb blk off cap n d0 w0 eg hcmp R hs hsz N ih d w a m b hN hsd S ham hmb hbn k1 k2
end Go.Proofs.Ytajblfmabokgkaa.P
