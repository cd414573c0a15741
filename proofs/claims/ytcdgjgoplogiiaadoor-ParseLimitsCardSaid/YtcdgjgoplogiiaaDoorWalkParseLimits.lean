/- ParseLimits: the walk, as the card asks for it. -/
import Derived.Test.YtcdgjgoplogiiaaDoorLw
namespace Go.Proofs.YtcdgjgoplogiiaaDoor.PT
open Go.RowKit Go.Lib
set_option linter.unusedSimpArgs false
theorem lim_u8 {a : Int} (ha : (Lit.int .u8 a).wf = true) : 0 ≤ a ∧ a < 256 := by
  simp only [Lit.wf, IntKind.min, IntKind.max, IntKind.signed, IntKind.bits, Bool.and_eq_true, decide_eq_true_eq] at ha
  simp at ha
  omega
theorem lim_u16 {a : Int} (ha : (Lit.int .u16 a).wf = true) : 0 ≤ a ∧ a < 65536 := by
  simp only [Lit.wf, IntKind.min, IntKind.max, IntKind.signed, IntKind.bits, Bool.and_eq_true, decide_eq_true_eq] at ha
  simp at ha
  omega
theorem walkParseLimits (W : World) (hg : GT W) (a : Int) (ha : (Lit.int .u8 a).wf = true) (b : Int) (hb : (Lit.int .u8 b).wf = true) (c : Int) (hc : (Lit.int .u16 c).wf = true) (d : Int) (hd : (Lit.int .u16 d).wf = true) (e : Int) (he : (Lit.int .u8 e).wf = true) :
    Calls Tryd.prog 5 #[.int .u8 a, .int .u8 b, .int .u16 c, .int .u16 d, .int .u8 e] W fun e W' => e = .returned (.bool true) ∧ Below W.heap.size W W' := by
  obtain ⟨a0, a1⟩ := lim_u8 ha
  obtain ⟨b0, b1⟩ := lim_u8 hb
  obtain ⟨c0, c1⟩ := lim_u16 hc
  obtain ⟨d0, d1⟩ := lim_u16 hd
  obtain ⟨e0, e1⟩ := lim_u8 he
  exact limits_calls a b c d e (a % 80).toNat (b % 24).toNat (c % 100).toNat (d % 400).toNat (e % 60).toNat W a0 a1 b0 b1 c0 c1 d0 d1 e0 e1 (by omega) (by omega) (by omega) (by omega) (by omega) hg
end Go.Proofs.YtcdgjgoplogiiaaDoor.PT
