/- A number is written: what the program tells, and what the document's loops tell, are one plain function. -/
import Derived.Test.YtfhpppibiemhkaaDoorBase
import Derived.Test.YtfhpppibiemhkaaDoorP9
import Derived.Lib.ItoaLen
namespace Go.Proofs.YtfhpppibiemhkaaDoor.P
open Go Go.Proofs.YtfhpppibiemhkaaDoorR
open Go.RowKit Go.Proofs.YtfhpppibiemhkaaDoorW.PrintWords Go.Proofs.YtfhpppibiemhkaaDoorW.PrintLast Go.Proofs.YtfhpppibiemhkaaDoorW.PrintMore
def sgn (n : Int) : List UInt8 := if n < 0 then [45] else []
def frac : List UInt8 → List UInt8
  | [] => []
  | x :: t => 46 :: x :: t
theorem frac_ne {t : List UInt8} (h : t ≠ []) : frac t = 46 :: t := by cases t with | nil => exact absurd rfl h | cons x t => rfl
def wr (n : Int) (s : Nat) : List UInt8 := sgn n ++ dec (n.natAbs / 10 ^ s) ++ frac (trm (dgs s (n.natAbs % 10 ^ s)))
def cl (scale : Int) : Nat := if scale < 0 then 0 else if scale > 6 then 6 else scale.toNat
theorem cl_le (scale : Int) : cl scale ≤ 6 := by unfold cl; split; · omega
                                                 · split <;> omega
theorem repeat_zero (n : Nat) : Lib.repeatL [48] n = List.replicate n 48 := by
  have := Lib.repeatL_replicate 48 1 n
  simpa using this
theorem fmtU (u : Nat) (hu : u < 18446744073709551616) : strconv_FormatUint_24.f (u : Int) 10 = some (mkB (dec u)) := by
  unfold strconv_FormatUint_24.f
  rw [if_pos ⟨rfl, by omega, by omega⟩, Int.toNat_natCast]
  rfl
theorem dec_le20 (u : Nat) (hu : u < 18446744073709551616) : (dec u).length ≤ 20 := by
  rw [Lib.decDigits_length]; exact Lib.nDigits_le20 u hu
theorem write_j0 (k s u : Nat) (hs : s ≤ 6) (hu : u < 18446744073709551616) (m : List UInt8) (hm : m.length ≤ 1) (hk : 10 ≤ k) :
    deci_Write.j0 k (s : Int) (u : Int) (mkB m) = some (mkB (m ++ dec (u / 10 ^ s) ++ frac (trm (dgs s (u % 10 ^ s))))) := by
  obtain ⟨k, rfl⟩ : ∃ m, k = m + 1 := ⟨k - 1, by omega⟩
  have hP1 : 1 ≤ 10 ^ s := Nat.pow_pos (by decide)
  have hP : 10 ^ s ≤ 1000000 := Nat.le_trans (Nat.pow_le_pow_right (by decide) hs) (by decide)
  have hq : u / 10 ^ s ≤ u := Nat.div_le_self _ _
  have hr : u % 10 ^ s < 10 ^ s := Nat.mod_lt _ (by omega)
  have hpw : IntKind.u64.wrap (((10 ^ s : Nat)) : Int) = ((10 ^ s : Nat) : Int) := by
    rw [u64_wrap]
    generalize 10 ^ s = P at hP
    omega
  rw [deci_Write.j0, power_is k s (by omega) (by omega)]
  simp only [Option.bind_some]
  rw [hpw, if_neg (by omega)]
  have hd : IntKind.u64.wrap (Int.tdiv (u : Int) ((10 ^ s : Nat) : Int)) = ((u / 10 ^ s : Nat) : Int) := by
    have gen : ∀ q : Nat, q ≤ u → IntKind.u64.wrap (q : Int) = q := by intro q hq; rw [u64_wrap]; omega
    rw [← Int.ofNat_tdiv]; exact gen _ hq
  have ht : Int.tmod (u : Int) ((10 ^ s : Nat) : Int) = ((u % 10 ^ s : Nat) : Int) := Int.ofNat_tmod _ _
  have hq2 : u / 10 ^ s < 18446744073709551616 := by omega
  have hr2 : u % 10 ^ s < 18446744073709551616 := by omega
  have l1 := dec_le20 _ hq2
  have l2 := dec_le20 _ hr2
  rw [hd, ht, fmtU _ hq2]
  simp only [Option.bind_some]
  rw [mkB_size, mkB_size, if_pos (by omega), mkB_append]
  by_cases c : u % 10 ^ s = 0
  · rw [if_pos (by omega), (trm_dgs_nil s (u % 10 ^ s) hr).2 c]
    simp [frac]
  · rw [if_neg (by omega), fmtU _ hr2]
    simp only [Option.bind_some]
    have hs1 : 1 ≤ s := by
      rcases Nat.eq_zero_or_pos s with rfl | h
      · exfalso; rw [Nat.pow_zero, Nat.mod_one] at c; exact c rfl
      · exact h
    have hlen : (dec (u % 10 ^ s)).length ≤ s := dec_len_le s _ hs1 hr
    have hpad : List.replicate (s - (dec (u % 10 ^ s)).length) 48 ++ dec (u % 10 ^ s) = dgs s (u % 10 ^ s) := by
      rcases pad_is s _ hr with h | h
      · omega
      · exact h
    have hrep : strings_Repeat.f (⟨#[48]⟩ : ByteArray) (wrap64 ((s : Int) - ((mkB (dec (u % 10 ^ s))).size : Int))) = some (mkB (List.replicate (s - (dec (u % 10 ^ s)).length) 48)) := by
      rw [mkB_size, wrap_id (by omega) (by omega)]
      unfold strings_Repeat.f
      rw [if_pos ⟨by omega, by omega, by decide⟩]
      have e : ((s : Int) - ((dec (u % 10 ^ s)).length : Int)).toNat = s - (dec (u % 10 ^ s)).length := by omega
      rw [e, show (⟨#[48]⟩ : ByteArray).data.toList = [48] from rfl, repeat_zero]
      rfl
    rw [hrep]
    simp only [Option.bind_some]
    have hdl := dgs_len s (u % 10 ^ s)
    rw [mkB_size, mkB_size, mkB_append, hpad, mkB_size, List.length_replicate, List.length_append, if_pos (by omega), if_pos (by omega)]
    have htr : strings_TrimRight.f (mkB (dgs s (u % 10 ^ s))) (⟨#[48]⟩ : ByteArray) = some (mkB (trm (dgs s (u % 10 ^ s)))) := by
      unfold strings_TrimRight.f
      rw [if_pos ⟨rfl, by rw [mkB_size]; omega⟩, mkB_data]
      rfl
    rw [htr]
    simp only [Option.bind_some]
    have hdot : (⟨#[46]⟩ : ByteArray) = mkB [46] := rfl
    have htl := trm_len (dgs s (u % 10 ^ s))
    rw [hdot, mkB_append, mkB_append, mkB_size, mkB_size, List.length_append, List.length_append, if_pos (by simp only [List.length_cons, List.length_nil]; omega)]
    have hne : trm (dgs s (u % 10 ^ s)) ≠ [] := fun h => c ((trm_dgs_nil s _ hr).1 h)
    rw [frac_ne hne]
    simp
theorem write_is (k : Nat) (n scale : Int) (h0 : -9223372036854775808 ≤ n) (h1 : n ≤ 9223372036854775807) (hk : 20 ≤ k) : deci_Write.f k n scale = some (mkB (wr n (cl scale))) := by
  have hc : mn (mx scale 0) 6 = ((cl scale : Nat) : Int) := by
    unfold mx mn cl
    repeat' split
    all_goals omega
  have hcl := cl_le scale
  unfold deci_Write.f wr sgn
  rw [hc]
  by_cases c : n < 0
  · rw [if_pos c, if_pos c]
    have e : IntKind.u64.wrap (-(IntKind.u64.wrap n)) = ((n.natAbs : Nat) : Int) := by rw [u64_wrap, u64_wrap]; omega
    rw [e]
    exact write_j0 k (cl scale) n.natAbs hcl (by omega) [45] (by decide) (by omega)
  · rw [if_neg c, if_neg c]
    have e : IntKind.u64.wrap n = ((n.natAbs : Nat) : Int) := by rw [u64_wrap]; omega
    rw [e]
    exact write_j0 k (cl scale) n.natAbs hcl (by omega) [] (by decide) (by omega)
end Go.Proofs.YtfhpppibiemhkaaDoor.P
