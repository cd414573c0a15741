/- The table of powers of ten, out of a row's list. -/
import Derived.Test.YtnihgifpfdlnhaaDoorRows
import Derived.Test.YtnihgifpfdlnhaaDoorExpr
import Derived.LaidSub
import Derived.MakeChecks
import Derived.Lib.LaidTab
import Derived.Stop.Joined
namespace Go.Proofs.YtnihgifpfdlnhaaDoor.PT
open Go.RowKit
theorem pow_data {H : Type} : (Rows.laid_internal_strconv_uint64pow10 (H := H)) = Lib.tabData .u64 Lib.pow10Tab := by
  unfold Rows.laid_internal_strconv_uint64pow10 Lib.tabData Lib.pow10Tab
  rfl
theorem tab_of_laid {W : World} (h : laidMetH Tryd.prog Rows.treeTextUptoRow.laid W) : TB W := by
  have h1 := h.filter (fun x => x.1 == "internal/strconv.uint64pow10")
  have e : Rows.treeTextUptoRow.laid.filter (fun x => x.1 == "internal/strconv.uint64pow10") = [("internal/strconv.uint64pow10", Lib.tabData .u64 Lib.pow10Tab)] := by
    rw [← pow_data]
    rfl
  rw [e, Go.MakeChecks.laidMetH_plain _ _ _ (by rfl)] at h1
  exact Lib.tabIs_of_head gTab (t := 202) (e := 28) (n := 20) (by kernel_rfl) Tryd.underlying202 Tryd.underlying28 (by kernel_rfl) (by kernel_rfl) h1
end Go.Proofs.YtnihgifpfdlnhaaDoor.PT
