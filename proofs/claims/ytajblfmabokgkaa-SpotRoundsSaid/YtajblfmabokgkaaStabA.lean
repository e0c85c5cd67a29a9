/- The stable sort's walks: the swap of two blocks, the rotation. -/
import Derived.Test.YtajblfmabokgkaaSorts
import Derived.Test.YtajblfmabokgkaaStableH
namespace Go.Proofs.Ytajblfmabokgkaa.P
open Go.Proofs.YtajblfmabokgkaaR
open Go.Shelf Go.Sort
open Go.RowKit Go.Proofs.YtajblfmabokgkaaW.PrintWords Go.Proofs.YtajblfmabokgkaaW.PrintLast Go.Proofs.YtajblfmabokgkaaW.PrintMore
open Go.StableF
set_option linter.unusedVariables false
set_option linter.unusedSimpArgs false
set_option maxHeartbeats 8000000
set_option maxRecDepth 100000
variable {α : Type} [Inhabited α]

theorem slices_swapRangeCmpFunc.calls (enc : α → Value) (blk off cap a b k : Nat) (d0 d : Array α) (w0 w : World) (f : Value)
    (R : Row1 enc w0 blk off d0) (hs : d0.size = d.size) (S : SW enc w0 blk off d w) (ha : a + k ≤ d.size) (hb : b + k ≤ d.size) (hsz : d.size < 4611686018427387904) :
    Calls Try.prog 46 #[.slice (some ⟨blk, off, none⟩) d.size cap, .int .i64 a, .int .i64 b, .int .i64 k, f] w fun e w' => e = .returned (.tuple #[]) ∧ SW enc w0 blk off (swapR a b d k) w' := by
  have mixed : Try.prog.follows .mixedOrders = true := by kernel_rfl
  have hcl0 := R.hO.cells
  simp only [Value.cells] at hcl0
  have hst := R.hO.store Try.prog
  have S0 : Aside (SW enc w0 blk off d w) := S
  clear S
  go_enter Try.func46, Try.ntmps46
  go_wp2
  go_loopg [10] k (fun gg vi wr => ∃ i : Nat, vi = .int .i64 i ∧ i ≤ k ∧ k - i ≤ gg ∧ Aside (SW enc w0 blk off (swapR a b d i) wr))
  case atStart => exact ⟨0, by go_num, by omega, by omega, S0⟩
  case round =>
    clear S0
    obtain ⟨i, rfl, hi, hg1, S1⟩ := hrel
    by_cases hlt : i < k
    · have hltz : (i : Int) < (k : Int) := by omega
      have hsk : (swapR a b d i).size = d.size := swapR_size _ _ _ _
      obtain ⟨iN, hiN⟩ : ∃ q, q = a + i := ⟨_, rfl⟩
      obtain ⟨jN, hjN⟩ : ∃ q, q = b + i := ⟨_, rfl⟩
      have ea : ((a : Int) + (i : Int)).toNat = iN := by omega
      have pa : (0 : Int) ≤ (a : Int) + (i : Int) := by omega
      have ba : (a : Int) + (i : Int) < (d.size : Int) := by omega
      have ra : IntKind.i64.wrap ((a : Int) + (i : Int)) = (a : Int) + (i : Int) := by rw [IntKind.wrap_i64]; omega
      have ec : ((b : Int) + (i : Int)).toNat = jN := by omega
      have pc : (0 : Int) ≤ (b : Int) + (i : Int) := by omega
      have bc : (b : Int) + (i : Int) < (d.size : Int) := by omega
      have rc : IntKind.i64.wrap ((b : Int) + (i : Int)) = (b : Int) + (i : Int) := by rw [IntKind.wrap_i64]; omega
      obtain ⟨x, hx⟩ : ∃ x, x = (swapR a b d i)[a + i]! := ⟨_, rfl⟩
      obtain ⟨y, hy⟩ : ∃ x, x = (swapR a b d i)[b + i]! := ⟨_, rfl⟩
      have S3 : Aside (SW enc w0 blk off (swapR a b d (i + 1)) ((wr.setCell ⟨blk, off + iN, none⟩ (enc y)).setCell ⟨blk, off + jN, none⟩ (enc x)).drew) := by
        rw [hiN, hjN, hx, hy]; exact S1.out.swapped R (a + i) (b + i) (by omega) (by omega)
      have c1 := S1.out.c1 R (by omega) (a + i) (by omega)
      have c2 := S1.out.c1 R (by omega) (b + i) (by omega)
      have f1 := S1.out.f1 R (by omega) (a + i) (by omega)
      have f2 := S1.out.f1 R (by omega) (b + i) (by omega)
      obtain ⟨u, c3⟩ := S1.out.c2 R (by omega) (a + i) (b + i) (by omega) (by omega) (enc y)
      rw [← hjN, ← hiN] at c3
      rw [← hx, ← hiN] at c1
      rw [← hy, ← hjN] at c2
      rw [← hiN] at f1
      rw [← hjN] at f2
      clear S1 hx hy hiN hjN
      go_wp2_with fail
      go_big_region_o
      clear c1 c2 c3 f1 f2
      generalize ((wr.setCell ⟨blk, off + iN, none⟩ (enc y)).setCell ⟨blk, off + jN, none⟩ (enc x)).drew = w3 at S3 ⊢
      clear ea ec
      go_wp2
      go_roundg (k - (i + 1))
      case measure => omega
      case rel => exact ⟨i + 1, by first | rfl | go_num, by omega, Nat.le_refl _, S3⟩
    · have hltz : ¬ (i : Int) < (k : Int) := by omega
      obtain rfl : i = k := by omega
      go_wp2
      go_end0
      exact ⟨rfl, S1.out⟩
end Go.Proofs.Ytajblfmabokgkaa.P
