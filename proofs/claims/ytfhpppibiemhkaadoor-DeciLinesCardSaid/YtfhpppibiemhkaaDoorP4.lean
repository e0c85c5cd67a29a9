-- printed by the session's own program wip/xprint.py (over the kit's printer); nothing here is trusted: Lean checks it
import Derived.Test.YtfhpppibiemhkaaDoorStr
import Derived.Test.YtfhpppibiemhkaaDoorP0
namespace Go.Proofs.YtfhpppibiemhkaaDoor.P
open Go.Proofs.YtfhpppibiemhkaaDoorR
open Go.RowKit Go.Proofs.YtfhpppibiemhkaaDoorW.PrintWords Go.Proofs.YtfhpppibiemhkaaDoorW.PrintLast Go.Proofs.YtfhpppibiemhkaaDoorW.PrintMore
attribute [local go_sem] max2_int min2_int max_two min_two max_three min_three max_four min_four   -- for this text's walks alone
set_option linter.unusedVariables false
set_option linter.unusedSimpArgs false

-- EXTERN 24 strconv_FormatUint_24: by hand
def strconv_FormatUint_24.f (a0 : Int) (a1 : Int) : Option (ByteArray) := if a1 = 10 ∧ 0 ≤ a0 ∧ a0 < 18446744073709551616 then some ⟨(Lib.decDigits a0.toNat).toArray⟩ else none
theorem strconv_FormatUint_24.calls (a0 : Int) (a1 : Int) (r : ByteArray) (w : World) (h : strconv_FormatUint_24.f a0 a1 = some r) (hG : GW w) :
    Calls Tryd.prog 24 #[.int .u64 a0, .int .i64 a1] w fun e w' => e = .returned (.string r) ∧ Below w.heap.size w w' := by
  unfold strconv_FormatUint_24.f at h
  split at h
  · rename_i hc
    obtain ⟨rfl, h0, h1⟩ := hc
    obtain rfl := Option.some.inj h
    obtain ⟨n, rfl⟩ : ∃ n : Nat, a0 = n := ⟨a0.toNat, by omega⟩
    exact uformat n (by omega) w hG
  · cases h

end Go.Proofs.YtfhpppibiemhkaaDoor.P
