/- The stable sort's walks: the whole sort, of a row of whatever size. -/
import Derived.Test.YtajblfmabokgkaaStabC
namespace Go.Proofs.Ytajblfmabokgkaa.P
open Go.Proofs.YtajblfmabokgkaaR
open Go.Shelf Go.Sort
open Go.RowKit Go.Proofs.YtajblfmabokgkaaW.PrintWords Go.Proofs.YtajblfmabokgkaaW.PrintLast Go.Proofs.YtajblfmabokgkaaW.PrintMore
open Go.StableF
set_option linter.unusedVariables false
set_option linter.unusedSimpArgs false
set_option maxHeartbeats 8000000
set_option maxRecDepth 100000
variable {α : Type} [I : Inhabited α]

theorem slices_stableCmpFunc.calls (enc : α → Value) (cf : α → α → Int) (g : Nat) (cb : Array Value) (blk cap n : Nat) (d : Array α) (w : World)
    (eg : ∀ args w, (callFunc g args).run Try.prog w = .ok (.enter g args) w) (hcmp : CmpLays1 Try.prog g cb enc cf blk 0 n w) (R : Row1 enc w blk 0 d) (hs : d.size = n) (hsz : n < 1152921504606846976) :
    Calls Try.prog 27 #[.slice (some ⟨blk, 0, none⟩) n cap, .int .i64 n, .func (.func g) #[] cb] w fun e w' => e = .returned (.tuple #[]) ∧ SW enc w blk 0 (stable (ltOf cf) d n) w' := by
  have KI := Aside0.mk (fun (dk : Array α) (wr : World) (a b : Nat) (S : SW enc w blk 0 dk wr) (hk : dk.size = n) (hab : a ≤ b) (hb : b ≤ n) => (by
    have X := Any.insertionSortCmpFunc_s lays20 enc cf g cb blk 0 cap a b d dk w wr eg (by rw [hs]; exact hcmp) R (by rw [hs, hk]) S hab (by rw [hk]; exact hb) (by rw [hk]; omega)
    rw [hk] at X
    exact X : Calls Try.prog 36 #[.slice (some ⟨blk, 0, none⟩) n cap, .int .i64 a, .int .i64 b, .func (.func g) #[] cb] wr fun e w' => e = .returned (.tuple #[]) ∧ SW enc w blk 0 (Sort.insertionSort (ltOf cf) dk a b) w'))
  have KM := Aside0.mk (fun (dk : Array α) (wr : World) (a m b : Nat) (S : SW enc w blk 0 dk wr) (hk : dk.size = n) (ham : a < m) (hmb : m < b) (hb : b ≤ n) =>
    slices_symMergeCmpFunc.calls enc cf g cb blk 0 cap n d w eg hcmp R hs (by omega) (b - a) dk wr a m b (Nat.le_refl _) hk S ham hmb hb)
  have S0 : Aside (SW enc w blk 0 d w) := SW.start R.hH
  have Z := Aside0.mk hs
  clear hcmp R eg hs
  go_enter Try.func27, Try.ntmps27
  go_wp2
  go_loopg [7, 8] n (fun gg v7 v8 wr => ∃ (a : Nat) (dk : Array α), v7 = .int .i64 (a : Int) ∧ v8 = .int .i64 ((a : Int) + 20) ∧ a ≤ n ∧ n - a ≤ gg ∧ Aside0 (dk.size = n) ∧ Aside (SW enc w blk 0 dk wr) ∧ Hid (insB (ltOf cf) 20 n a dk = insB (ltOf cf) 20 n 0 d))
  case atStart => exact ⟨0, d, rfl, by go_num, by omega, by omega, Z, S0, rfl⟩
  case round =>
    clear S0
    obtain ⟨a, dk, rfl, rfl, han, hg1, hk, S1, HB⟩ := hrel
    by_cases hlt : a + 20 ≤ n
    · have hltz : (a : Int) + 20 ≤ (n : Int) := by omega
      have K1 := KI.out dk wr a (a + 20) S1.out hk.out (by omega) hlt
      rw [show ((a + 20 : Nat) : Int) = (a : Int) + 20 by omega] at K1
      have K1 := Aside0.mk K1
      clear S1
      go_wp2_with (first | (go_at_call 36; refine K1.out.mono ?_; rintro e w1 ⟨rfl, hS⟩; have S2 : Aside _ := hS; clear hS))
      go_roundg (n - (a + 20))
      case measure => omega
      case rel => exact ⟨a + 20, _, by congr 1; try omega, by congr 1; try omega, by omega, Nat.le_refl _, ⟨by rw [insertionSort_size]; exact hk.out⟩, S2, by
        show _ = _
        rw [← HB.out, insB.eq_1 _ 20 n a, dif_pos ⟨by omega, hlt⟩]⟩
    · have hltz : ¬ (a : Int) + 20 ≤ (n : Int) := by omega
      have K1 := Aside0.mk (KI.out dk wr a n S1.out hk.out han (Nat.le_refl _))
      have hI : Hid (Sort.insertionSort (ltOf cf) dk a n = insB (ltOf cf) 20 n 0 d) := by
        show _ = _
        rw [← HB.out, insB.eq_1 _ 20 n a, dif_neg (fun h => hlt h.2)]
      have hk2 := Aside0.mk (show (Sort.insertionSort (ltOf cf) dk a n).size = n by rw [insertionSort_size]; exact hk.out)
      clear S1 HB hg1
      go_wp2_with (first | (go_at_call 36; refine K1.out.mono ?_; rintro e w1 ⟨rfl, hS⟩; have S2 : Aside _ := hS; clear hS))
      go_loopg [6, 7, 8, 9] n (fun gg v6 v7 v8 v9 wr => ∃ (k : Nat) (dk : Array α), v6 = .int .i64 (k : Int) ∧ 0 < k ∧ k ≤ 2 * n + 20 ∧ n - k ≤ gg ∧ Aside0 (dk.size = n) ∧ Aside (SW enc w blk 0 dk wr) ∧ Hid (passes (ltOf cf) n k dk = stable (ltOf cf) d n))
      case atStart => exact ⟨20, _, rfl, by omega, by omega, by omega, hk2, S2, by show _ = _; rw [hI.out]; rfl⟩
      case round =>
        clear S2 hk2 hI K1 hk
        obtain ⟨k, d1, rfl, hk0, hkn, hg1, hk, S1, HB⟩ := hrel
        by_cases hkl : k < n
        · have hklz : (k : Int) < (n : Int) := by omega
          go_wp2_with fail
          go_loopg [7, 8] n (fun gg v7 v8 wr => ∃ (a : Nat) (dk : Array α), v7 = .int .i64 (a : Int) ∧ v8 = .int .i64 ((a : Int) + 2 * (k : Int)) ∧ a ≤ n ∧ n - a ≤ gg ∧ Aside0 (dk.size = n) ∧ Aside (SW enc w blk 0 dk wr) ∧ Hid (pass (ltOf cf) k n a dk = pass (ltOf cf) k n 0 d1))
          case atStart => exact ⟨0, d1, rfl, by go_num, by omega, by omega, hk, S1, rfl⟩
          case round =>
            clear S1 hlt hltz
            obtain ⟨a, dk, rfl, rfl, han, hg2, hk2, S1, HB2⟩ := hrel
            by_cases hlt : a + 2 * k ≤ n
            · have hltz : (a : Int) + 2 * (k : Int) ≤ (n : Int) := by omega
              have K1 := KM.out dk wr a (a + k) (a + 2 * k) S1.out hk2.out (by omega) (by omega) hlt
              rw [show ((a + k : Nat) : Int) = (a : Int) + (k : Int) by omega, show ((a + 2 * k : Nat) : Int) = (a : Int) + 2 * (k : Int) by omega] at K1
              have K1 := Aside0.mk K1
              clear S1
              go_wp2_with (first | (go_at_call 37; refine K1.out.mono ?_; rintro e w1 ⟨rfl, hS⟩; have S2 : Aside _ := hS; clear hS))
              go_roundg (n - (a + 2 * k))
              case measure => omega
              case rel => exact ⟨a + 2 * k, _, by congr 1; try omega, by congr 1; try omega, by omega, Nat.le_refl _, ⟨by rw [symF_size _ _ _ _ _ (Nat.le_refl _)]; exact hk2.out⟩, S2, by
                show _ = _
                rw [← HB2.out, pass.eq_1 _ k n a, dif_pos ⟨hk0, hlt⟩]⟩
            · have hltz : ¬ (a : Int) + 2 * (k : Int) ≤ (n : Int) := by omega
              by_cases hm : a + k < n
              · have hmz : (a : Int) + (k : Int) < (n : Int) := by omega
                have K1 := KM.out dk wr a (a + k) n S1.out hk2.out (by omega) hm (Nat.le_refl _)
                rw [show ((a + k : Nat) : Int) = (a : Int) + (k : Int) by omega] at K1
                have K1 := Aside0.mk K1
                clear S1
                go_wp2_with (first | (go_at_call 37; refine K1.out.mono ?_; rintro e w1 ⟨rfl, hS⟩; have S2 : Aside _ := hS; clear hS))
                go_roundg (n - 2 * k)
                case measure => omega
                case rel => exact ⟨2 * k, _, by congr 1; try omega, by omega, by omega, Nat.le_refl _, ⟨by rw [symF_size _ _ _ _ _ (Nat.le_refl _)]; exact hk2.out⟩, S2, by
                  show _ = _
                  rw [← HB.out, passes.eq_1 _ n k, dif_pos ⟨hk0, hkl⟩, ← HB2.out, pass.eq_1 _ k n a, dif_neg (fun h => hlt h.2), if_pos hm]⟩
              · have hmz : ¬ (a : Int) + (k : Int) < (n : Int) := by omega
                go_wp2_with fail
                go_roundg (n - 2 * k)
                case measure => omega
                case rel => exact ⟨2 * k, dk, by congr 1; try omega, by omega, by omega, Nat.le_refl _, hk2, S1, by
                  show _ = _
                  rw [← HB.out, passes.eq_1 _ n k, dif_pos ⟨hk0, hkl⟩, ← HB2.out, pass.eq_1 _ k n a, dif_neg (fun h => hlt h.2), if_neg hm]⟩
        · have hklz : ¬ (k : Int) < (n : Int) := by omega
          have hfin : passes (ltOf cf) n k d1 = d1 := by rw [passes.eq_1 _ n k, dif_neg (fun h => hkl h.2)]
          have HF := Aside0.mk hfin
          clear hfin
          go_wp2_with fail
          go_end0
          refine ⟨rfl, ?_⟩
          rw [← HB.out, HF.out]
          exact S1.out
end Go.Proofs.Ytajblfmabokgkaa.P
