/- The table of powers of ten, out of the row's list. -/
import Derived.Test.YtfhpppibiemhkaaDoorRows
import Derived.Test.YtfhpppibiemhkaaDoorStr
import Derived.Lib.LaidU8
import Derived.LaidMore
namespace Go.Proofs.YtfhpppibiemhkaaDoor
open Go Go.Proofs.YtfhpppibiemhkaaDoorR
theorem gPow : Tryd.prog.globalNamed "internal/strconv.uint64pow10" = some 0 := by kernel_rfl
theorem tPow : (Tryd.prog.globals[0]?).map (·.type) = some 105 := by kernel_rfl
theorem cells105 : Tryd.prog.cellsOf 105 = 20 := by kernel_rfl
theorem cells47 : Tryd.prog.cellsOf 47 = 1 := by kernel_rfl
theorem powData : (Rows.laid_internal_strconv_uint64pow10 : DataW Unit) = Lib.tabData .u64 Lib.pow10Tab := by kernel_rfl
theorem gw_of {W : World} (h : laidMetH Tryd.prog Rows.deciWordsRow.laid W) : GW W := by
  rw [MakeChecks.laidMetH_plain _ _ _ (by kernel_rfl)] at h
  obtain ⟨g', t', cs, fuel, p, hg', ht', hvar, hd⟩ := Lib.laidMet.reads h (n := "internal/strconv.uint64pow10") (d := Rows.laid_internal_strconv_uint64pow10) (.tail _ (.tail _ (.head _)))
  obtain rfl := Option.some.inj (gPow.symm.trans hg')
  obtain rfl := Option.some.inj (tPow.symm.trans ht')
  rw [powData] at hd
  unfold GW Lib.TabIs
  rw [hvar, ← Lib.cells_of_tab Tryd.underlying105 Tryd.underlying47 cells47 cells105 hd]
end Go.Proofs.YtfhpppibiemhkaaDoor
