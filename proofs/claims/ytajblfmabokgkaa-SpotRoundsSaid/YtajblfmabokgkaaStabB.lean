/- The stable sort's walks: the rotation. -/
import Derived.Test.YtajblfmabokgkaaStabA
namespace Go.Proofs.Ytajblfmabokgkaa.P
open Go.Proofs.YtajblfmabokgkaaR
open Go.Shelf Go.Sort
open Go.RowKit Go.Proofs.YtajblfmabokgkaaW.PrintWords Go.Proofs.YtajblfmabokgkaaW.PrintLast Go.Proofs.YtajblfmabokgkaaW.PrintMore
open Go.StableF
set_option linter.unusedVariables false
set_option linter.unusedSimpArgs false
set_option maxHeartbeats 8000000
set_option maxRecDepth 100000
variable {α : Type} [I : Inhabited α]

theorem slices_rotateCmpFunc.calls (enc : α → Value) (blk off cap a m b : Nat) (d0 d : Array α) (w0 w : World) (f : Value)
    (R : Row1 enc w0 blk off d0) (hs : d0.size = d.size) (S : SW enc w0 blk off d w) (ham : a < m) (hmb : m < b) (hb : b ≤ d.size) (hsz : d.size < 4611686018427387904) :
    Calls Try.prog 44 #[.slice (some ⟨blk, off, none⟩) d.size cap, .int .i64 a, .int .i64 m, .int .i64 b, f] w fun e w' => e = .returned (.tuple #[]) ∧ SW enc w0 blk off (rotL m (m - a) (b - m) d) w' := by
  have S0 : Aside (SW enc w0 blk off d w) := S
  clear S
  have w1 : wrap64 ((m : Int) - (a : Int)) = (m : Int) - (a : Int) := by unfold wrap64; omega
  have w2 : wrap64 ((b : Int) - (m : Int)) = (b : Int) - (m : Int) := by unfold wrap64; omega
  obtain ⟨n, hn⟩ : ∃ n, n = d.size := ⟨_, rfl⟩
  rw [← hn]
  have K : Aside0 (∀ (dk : Array α) (wr : World) (a b k : Nat), dk.size = n → SW enc w0 blk off dk wr → a + k ≤ n → b + k ≤ n → 
      Calls Try.prog 46 #[.slice (some ⟨blk, off, none⟩) n cap, .int .i64 a, .int .i64 b, .int .i64 k, f] wr fun e w' => e = .returned (.tuple #[]) ∧ SW enc w0 blk off (swapR a b dk k) w') :=
    ⟨fun dk wr a b k h1 h2 h3 h4 => by
      have := slices_swapRangeCmpFunc.calls enc blk off cap a b k d0 dk w0 wr f R (by omega) h2 (by omega) (by omega) (by omega)
      rw [h1] at this; exact this⟩
  clear R hs
  go_enter Try.func44, Try.ntmps44
  go_wp2
  go_loopg [10, 11] (b - a) (fun gg v10 v11 wr => ∃ (i j : Nat) (dk : Array α), v10 = .int .i64 i ∧ v11 = .int .i64 j ∧ 0 < i ∧ 0 < j ∧ a + i ≤ m ∧ m + j ≤ b ∧ i + j ≤ gg ∧ dk.size = n ∧ Aside (SW enc w0 blk off dk wr) ∧ Hid (rotL m i j dk = rotL m (m - a) (b - m) d))
  case atStart => exact ⟨m - a, b - m, d, by congr 1; omega, by congr 1; omega, by omega, by omega, by omega, by omega, by omega, hn.symm, S0, rfl⟩
  case round =>
    clear S0
    obtain ⟨i, j, dk, rfl, rfl, hi, hj, him, hjb, hg1, hsk, S1, HO⟩ := hrel
    obtain ⟨p, hp⟩ : ∃ p, p = m - i := ⟨_, rfl⟩
    have e1 : (p : Int) = (m : Int) - (i : Int) := by omega
    by_cases hij : i = j
    · have c1 : ((i : Int) != (j : Int)) = false := bne_eq_false_iff_eq.mpr (by omega)
      have K1 := K.out dk wr p m i hsk S1.out (by omega) (by omega)
      rw [e1] at K1
      have K1 := Aside0.mk K1
      have HA := Aside0.mk (And.intro hij (And.intro hp hsk))
      clear K S1 hsk e1 hp hij hn hg1
      go_wp2_with (first | (go_at_call 46; refine K1.out.mono ?_; rintro e w1 ⟨rfl, hS⟩; have S2 := Aside0.mk hS; clear hS))
      go_end0
      refine ⟨rfl, ?_⟩
      rw [← HO.out, rotL.eq_1 m i j, if_pos HA.out.1, ← HA.out.2.1]
      exact S2.out
    · have c1 : ((i : Int) != (j : Int)) = true := bne_iff_ne.mpr (by omega)
      by_cases hji : j < i
      · have c2 : (j : Int) < (i : Int) := by omega
        have K1 := K.out dk wr p m j hsk S1.out (by omega) (by omega)
        rw [e1] at K1
        have K1 := Aside0.mk K1
        have HA := Aside0.mk (And.intro hij (And.intro hp (And.intro hsk hg1)))
        clear K S1 hsk e1 hp hij hn hg1
        go_wp2_with (first | (go_at_call 46; refine K1.out.mono ?_; rintro e w1 ⟨rfl, hS⟩; have S2 := Aside0.mk hS; clear hS))
        obtain ⟨hij, hp, hsk, hg1⟩ := HA.out
        go_roundg (i - j + j)
        case measure => omega
        case rel =>
          refine ⟨i - j, j, _, by congr 1; omega, rfl, by omega, hj, by omega, hjb, by omega, ?_, S2.out, ?_⟩
          · rw [swapR_size]; exact hsk
          · show _ = _
            rw [← HO.out, rotL.eq_1 m i j, if_neg hij, if_pos hji, if_pos hj, ← hp]
      · have c2 : ¬ (j : Int) < (i : Int) := by omega
        obtain ⟨q, hq⟩ : ∃ q, q = m + j - i := ⟨_, rfl⟩
        have e2 : (q : Int) = (m : Int) + (j : Int) - (i : Int) := by omega
        have K1 := K.out dk wr p q i hsk S1.out (by omega) (by omega)
        rw [e1, e2] at K1
        have K1 := Aside0.mk K1
        have HA := Aside0.mk (And.intro hij (And.intro hp (And.intro hsk (And.intro hg1 hq))))
        clear K S1 hsk e1 e2 hp hij hn hg1 hq
        go_wp2_with (first | (go_at_call 46; refine K1.out.mono ?_; rintro e w1 ⟨rfl, hS⟩; have S2 := Aside0.mk hS; clear hS))
        obtain ⟨hij, hp, hsk, hg1, hq⟩ := HA.out
        go_roundg (i + (j - i))
        case measure => omega
        case rel =>
          refine ⟨i, j - i, _, rfl, by congr 1; omega, hi, by omega, him, by omega, by omega, ?_, S2.out, ?_⟩
          · rw [swapR_size]; exact hsk
          · show _ = _
            rw [← HO.out, rotL.eq_1 m i j, if_neg hij, if_neg hji, if_pos hi, ← hp, ← hq]
end Go.Proofs.Ytajblfmabokgkaa.P
