/- The table of powers of ten, out of a row's list; the bytes that came in. -/
import Derived.Test.YthboknkpgbfmoaaDoorRows
import Derived.Test.YthboknkpgbfmoaaDoorExpr
import Derived.LaidSub
import Derived.MakeChecks
import Derived.Lib.LaidTab
import Derived.Stop.Joined
namespace Go.Proofs.YthboknkpgbfmoaaDoor.PQ
open Go.RowKit
theorem pow_data {H : Type} : (Rows.laid_internal_strconv_uint64pow10 (H := H)) = Lib.tabData .u64 Lib.pow10Tab := by
  unfold Rows.laid_internal_strconv_uint64pow10 Lib.tabData Lib.pow10Tab
  rfl
theorem tab_of_laid {W : World} (h : laidMetH Tryd.prog Rows.treeTightRow.laid W) : TB W := by
  have h1 := h.filter (fun x => x.1 == "internal/strconv.uint64pow10")
  have e : Rows.treeTightRow.laid.filter (fun x => x.1 == "internal/strconv.uint64pow10") = [("internal/strconv.uint64pow10", Lib.tabData .u64 Lib.pow10Tab)] := by
    rw [← pow_data]
    rfl
  rw [e, Go.MakeChecks.laidMetH_plain _ _ _ (by rfl)] at h1
  exact Lib.tabIs_of_head gTab (t := 55) (e := 32) (n := 20) (by kernel_rfl) Tryd.underlying55 Tryd.underlying32 (by kernel_rfl) (by kernel_rfl) h1
theorem tab_of_laid_e {W : World} (h : laidMetH Tryd.prog Rows.treeExprRow.laid W) : TB W := by
  have e : Rows.treeExprRow.laid = Rows.treeTightRow.laid := rfl
  exact tab_of_laid (e ▸ h)
end Go.Proofs.YthboknkpgbfmoaaDoor.PQ
