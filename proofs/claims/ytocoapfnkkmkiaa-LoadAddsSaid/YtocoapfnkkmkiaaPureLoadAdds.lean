/- Loads are added in any order, and taken away again: the plain law. -/
import Derived.Test.YtocoapfnkkmkiaaPlain
import Derived.Test.YtocoapfnkkmkiaaWalkLoadAdds
import Derived.Laws.BitsLemmas
namespace Go.Proofs.Ytocoapfnkkmkiaa.P
open Go.Proofs.YtocoapfnkkmkiaaR
open Go.RowKit Go.Proofs.YtocoapfnkkmkiaaW.PrintWords Go.Proofs.YtocoapfnkkmkiaaW.PrintLast Go.Proofs.YtocoapfnkkmkiaaW.PrintMore
theorem wrap_id {x : Int} (h0 : -9223372036854775808 ≤ x) (h1 : x ≤ 9223372036854775807) : wrap64 x = x := by
  unfold wrap64
  omega
theorem and1023 (n : Int) : Go.bits .and .i64 n 1023 = n % 1024 := by
  have hm : (BitVec.ofInt 64 1023).toNat = 2 ^ 10 - 1 := by decide
  have key : (BitVec.ofInt 64 n &&& BitVec.ofInt 64 1023).toNat = (n % ((2 ^ 64 : Nat) : Int)).toNat % 2 ^ 10 := by
    rw [BitVec.toNat_and, BitVec.toNat_ofInt, hm, Nat.and_two_pow_sub_one_eq_mod]
  show IntKind.i64.wrap ((BitVec.ofInt 64 n &&& BitVec.ofInt 64 1023).toNat : Nat) = n % 1024
  rw [key, IntKind.wrap_i64]
  omega
theorem and255 (n : Int) : Go.bits .and .i64 n 255 = n % 256 := by
  have hm : (BitVec.ofInt 64 255).toNat = 2 ^ 8 - 1 := by decide
  have key : (BitVec.ofInt 64 n &&& BitVec.ofInt 64 255).toNat = (n % ((2 ^ 64 : Nat) : Int)).toNat % 2 ^ 8 := by
    rw [BitVec.toNat_and, BitVec.toNat_ofInt, hm, Nat.and_two_pow_sub_one_eq_mod]
  show IntKind.i64.wrap ((BitVec.ofInt 64 n &&& BitVec.ofInt 64 255).toNat : Nat) = n % 256
  rw [key, IntKind.wrap_i64]
  omega
def negS (a : S23) : S23 := ⟨wrap64 (-a.f0), wrap64 (-a.f1)⟩
def negV (a : S23) : S23 := if mayB a.f0 a.f1 = true then negS a else ⟨0, 0⟩
theorem neg_isV (a : S23) : load_Neg.f a.f0 a.f1 = some ((negV a).f0, (negV a).f1) := by
  rw [neg_is]
  unfold negV negS
  split <;> rfl
theorem may_iff (a b : Int) : mayB a b = true ↔ (-1073741824 ≤ a ∧ a ≤ 1073741824 ∧ -1073741824 ≤ b ∧ b ≤ 1073741824) := by simp [mayB]
def addV (a b : S23) : S23 := if okAdd a b = true then sum a b else ⟨0, 0⟩
theorem add_isV (k : Nat) (a b : S23) : load_Add.f (k + 1) a.f0 a.f1 b.f0 b.f1 = some ((addV a b).f0, (addV a b).f1, okAdd a b) := by
  rw [add_is]
  unfold addV
  cases okAdd a b <;> rfl
theorem sum_comm (a b : S23) : sum a b = sum b a := by unfold sum; rw [Int.add_comm a.f0, Int.add_comm a.f1]
theorem okAdd_comm (a b : S23) : okAdd a b = okAdd b a := by
  rw [okAdd_iff, okAdd_iff, sum_comm b a]
  cases mayB a.f0 a.f1 <;> cases mayB b.f0 b.f1 <;> rfl
theorem addV_comm (a b : S23) : addV a b = addV b a := by unfold addV; rw [okAdd_comm, sum_comm]
/-- What was added is taken away again. -/
theorem add_back (a b : S23) (h : okAdd a b = true) : okAdd (sum a b) (negV b) = true ∧ sum (sum a b) (negV b) = a := by
  have h' := h
  rw [okAdd_iff] at h
  simp only [Bool.and_eq_true, may_iff, sum] at h
  obtain ⟨⟨h1, h2⟩, h3⟩ := h
  have e0 : wrap64 (a.f0 + b.f0) = a.f0 + b.f0 := wrap_id (by omega) (by omega)
  have e1 : wrap64 (a.f1 + b.f1) = a.f1 + b.f1 := wrap_id (by omega) (by omega)
  have n0 : wrap64 (-b.f0) = -b.f0 := wrap_id (by omega) (by omega)
  have n1 : wrap64 (-b.f1) = -b.f1 := wrap_id (by omega) (by omega)
  have hb : negV b = ⟨-b.f0, -b.f1⟩ := by
    unfold negV negS
    rw [if_pos ((may_iff _ _).2 h2), n0, n1]
  have hs : sum a b = ⟨a.f0 + b.f0, a.f1 + b.f1⟩ := by unfold sum; rw [e0, e1]
  have z0 : wrap64 (a.f0 + b.f0 + -b.f0) = a.f0 := by rw [wrap_id (by omega) (by omega)]; omega
  have z1 : wrap64 (a.f1 + b.f1 + -b.f1) = a.f1 := by rw [wrap_id (by omega) (by omega)]; omega
  have hss : sum (sum a b) (negV b) = a := by
    rw [hs, hb]
    unfold sum
    simp only [z0, z1]
  refine ⟨?_, hss⟩
  rw [okAdd_iff, hss, hb, hs]
  rw [e0, e1] at h3
  simp only [Bool.and_eq_true, may_iff]
  omega
theorem loadAdds_law (a b r : S23) (more : Int) (w : World) :
    Calls Try.prog 6 #[.agg #[.int .i64 a.f0, .int .i64 a.f1], .agg #[.int .i64 b.f0, .int .i64 b.f1], .agg #[.int .i64 r.f0, .int .i64 r.f1], .int .i64 more] w fun e w' => e = .returned (.bool true) ∧ Below w.heap.size w w' := by
  have hA := add_isV 4 a b
  have hB := add_isV 4 b a
  rw [addV_comm b a, okAdd_comm b a] at hB
  have hN := neg_isV b
  have hR := right_is r
  have hF := fits_is r a
  have hM := neg_isV a
  have hC : okAdd a b = true → load_Add.f 5 (addV a b).f0 (addV a b).f1 (negV b).f0 (negV b).f1 = some (a.f0, a.f1, true) := by
    intro h
    obtain ⟨h1, h2⟩ := add_back a b h
    have ea : addV a b = sum a b := by unfold addV; rw [if_pos h]
    rw [ea, add_is, if_pos h1, h2]
  have hG : rightB r = true → fitsB r a = true → load_Fits.f (wrap64 (r.f0 + Go.bits .and .i64 more 1023)) (wrap64 (r.f1 + Go.bits .and .i64 more 255)) a.f0 a.f1 = some true := by
    intro h1 h2
    rw [and1023, and255]
    simp only [rightB, fitsB, decide_eq_true_eq] at h1 h2
    have e0 : wrap64 (r.f0 + more % 1024) = r.f0 + more % 1024 := wrap_id (by omega) (by omega)
    have e1 : wrap64 (r.f1 + more % 256) = r.f1 + more % 256 := wrap_id (by omega) (by omega)
    rw [e0, e1, fits_is ⟨r.f0 + more % 1024, r.f1 + more % 256⟩ a]
    simp only [fitsB, Option.some.injEq, decide_eq_true_eq]
    omega
  have hK : rightB r = true → fitsB r a = true → load_Neg.f (negV a).f0 (negV a).f1 = some (a.f0, a.f1) := by
    intro h1 h2
    simp only [rightB, fitsB, decide_eq_true_eq] at h1 h2
    have n0 : wrap64 (-a.f0) = -a.f0 := wrap_id (by omega) (by omega)
    have n1 : wrap64 (-a.f1) = -a.f1 := wrap_id (by omega) (by omega)
    have ha : negV a = ⟨-a.f0, -a.f1⟩ := by
      unfold negV negS
      rw [if_pos ((may_iff _ _).2 (by omega)), n0, n1]
    have m0 : wrap64 (- -a.f0) = a.f0 := by rw [wrap_id (by omega) (by omega)]; omega
    have m1 : wrap64 (- -a.f1) = a.f1 := by rw [wrap_id (by omega) (by omega)]; omega
    rw [ha, neg_is, if_pos ((may_iff _ _).2 (by show _ ∧ _ ∧ _ ∧ _; simp only; omega))]
    simp only [m0, m1]
  cases hok : okAdd a b <;> rw [hok] at hA hB
  · cases hr : rightB r <;> rw [hr] at hR
    · exact loadAdds_way000 _ _ _ _ _ _ more _ _ _ _ 0 0 w hA hB hN hR
    · cases hf : fitsB r a <;> rw [hf] at hF
      · exact loadAdds_way010 _ _ _ _ _ _ more _ _ _ _ 0 0 w hA hB hN hR hF
      · exact loadAdds_way011 _ _ _ _ _ _ more _ _ _ _ _ _ w hA hB hN hR hF (hG hr hf) hM (hK hr hf)
  · have hC' := hC hok
    cases hr : rightB r <;> rw [hr] at hR
    · exact loadAdds_way100 _ _ _ _ _ _ more _ _ _ _ 0 0 w hA hB hN hC' hR
    · cases hf : fitsB r a <;> rw [hf] at hF
      · exact loadAdds_way110 _ _ _ _ _ _ more _ _ _ _ 0 0 w hA hB hN hC' hR hF
      · exact loadAdds_way111 _ _ _ _ _ _ more _ _ _ _ _ _ w hA hB hN hC' hR hF (hG hr hf) hM (hK hr hf)
end Go.Proofs.Ytocoapfnkkmkiaa.P
