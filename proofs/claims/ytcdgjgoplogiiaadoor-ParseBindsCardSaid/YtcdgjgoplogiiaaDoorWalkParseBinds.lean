/- ParseBinds: the walk, as the card asks for it. -/
import Derived.Test.YtcdgjgoplogiiaaDoorBind
namespace Go.Proofs.YtcdgjgoplogiiaaDoor.PT
open Go.RowKit Go.Lib
set_option linter.unusedSimpArgs false
theorem u8_wf {a : Int} (ha : (Lit.int .u8 a).wf = true) : 0 ≤ a ∧ a < 256 := by
  simp only [Lit.wf, IntKind.min, IntKind.max, IntKind.signed, IntKind.bits, Bool.and_eq_true, decide_eq_true_eq] at ha
  simp at ha
  omega
theorem walkParseBinds (W : World) (hg : GT W) (a : Int) (ha : (Lit.int .u8 a).wf = true) (b : Int) (hb : (Lit.int .u8 b).wf = true) :
    Calls Tryd.prog 4 #[.int .u8 a, .int .u8 b] W fun e W' => e = .returned (.bool true) ∧ Below W.heap.size W W' := by
  obtain ⟨a0, a1⟩ := u8_wf ha
  obtain ⟨b0, b1⟩ := u8_wf hb
  exact bind_calls a b (a % 10).toNat (b % 10).toNat W a0 a1 b0 b1 (by omega) (by omega) hg
end Go.Proofs.YtcdgjgoplogiiaaDoor.PT
