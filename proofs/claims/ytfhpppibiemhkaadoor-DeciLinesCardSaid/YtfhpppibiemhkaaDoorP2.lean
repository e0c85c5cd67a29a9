-- printed by the session's own program wip/xprint.py (over the kit's printer); nothing here is trusted: Lean checks it
import Derived.Test.YtfhpppibiemhkaaDoorStr
import Derived.Test.YtfhpppibiemhkaaDoorP0
namespace Go.Proofs.YtfhpppibiemhkaaDoor.P
open Go.Proofs.YtfhpppibiemhkaaDoorR
open Go.RowKit Go.Proofs.YtfhpppibiemhkaaDoorW.PrintWords Go.Proofs.YtfhpppibiemhkaaDoorW.PrintLast Go.Proofs.YtfhpppibiemhkaaDoorW.PrintMore
attribute [local go_sem] max2_int min2_int max_two min_two max_three min_three max_four min_four   -- for this text's walks alone
set_option linter.unusedVariables false
set_option linter.unusedSimpArgs false

-- EXTERN 20 strings_Split: by hand
def strings_Split.f (a0 : ByteArray) (a1 : ByteArray) : Option (List ByteArray) := if a1.size = 1 ∧ a0.size < 4294967281 then some (Lib.splitB a1 0 (Lib.countB a0 a1) a0) else none
theorem strings_Split.calls (a0 : ByteArray) (a1 : ByteArray) (r : List ByteArray) (w : World) (h : strings_Split.f a0 a1 = some r) :
    Calls Tryd.prog 20 #[.string a0, .string a1] w fun e w' => ∃ v0_ : Value, e = .returned (v0_) ∧ Kd.R Kd.string 9 w' w.heap.size (fun _ => True) v0_ r ∧ Below w.heap.size w w' := by
  unfold strings_Split.f at h
  split at h
  · rename_i hc
    obtain ⟨c, rfl⟩ := Lib.one_byte a1 hc.1
    obtain rfl := Option.some.inj h
    refine (split_outer Tryd.lays146 (by kernel_rfl) a0 c w hc.2).mono fun e w' ⟨he, hw⟩ => ?_
    subst hw
    refine ⟨_, he, ?_, below_alloc (Below.refl _ _) _⟩
    have hlen := Lib.splitB_length_le ⟨#[c]⟩ 0 (Lib.countB a0 ⟨#[c]⟩) a0
    have hcl := Lib.countB_le ⟨#[c]⟩ (Nat.le_refl _) a0.size a0 (Nat.le_refl _)
    generalize Lib.splitB ⟨#[c]⟩ 0 (Lib.countB a0 ⟨#[c]⟩) a0 = ps at hlen ⊢
    refine Kd.R_of_own ⟨by simp [encs], .inr ⟨w.heap.size, ps.length, (ps.map Value.string).toArray, rfl, Nat.le_refl _, ?_, ?_, ?_, ?_, ?_⟩⟩ (fun _ _ => trivial)
    · have e9 : Tryd.lays146_ren.t 9 = 9 := rfl
      rw [e9]
      show (w.heap.push _)[w.heap.size]? = _
      rw [Array.getElem?_push_size]
    · exact Nat.le_refl _
    · show ps.length ≤ 9223372036854775807; omega
    · simp
    · simp only [encs]
      exact List.take_of_length_le (by simp)
  · cases h

end Go.Proofs.YtfhpppibiemhkaaDoor.P
