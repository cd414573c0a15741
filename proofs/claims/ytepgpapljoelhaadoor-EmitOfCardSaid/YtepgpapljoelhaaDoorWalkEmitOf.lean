/- The walk of EmitOf. -/
import Derived.Test.YtepgpapljoelhaaDoorPuf
import Derived.Test.YtepgpapljoelhaaDoorOpen
namespace Go.Proofs.YtepgpapljoelhaaDoor.PE
open Go.RowKit Go.Proofs.YtepgpapljoelhaaDoorW.PrintWords
set_option linter.unusedVariables false

theorem walkEmitOf (W : World) (A0 : Option Addr) (c0 : Nat) (l0 : List S37) (hr0 : Kd.C k37 W A0 l0.length l0) (hc0 : l0.length ≤ c0) (_hm0 : l0.length ≤ maxLen) (_hw0 : ∀ y ∈ l0, y.wf) (A1 : Option Addr) (c1 : Nat) (l1 : List Int) (hr1 : Kd.C (Kd.int .i8) W A1 l1.length l1) (hc1 : l1.length ≤ c1) (_hm1 : l1.length ≤ maxLen) (hw1 : ∀ x ∈ l1, (Lit.int .i8 x).wf = true) (a2 : Int) (_h2 : (Lit.int .u64 a2).wf = true) :
    Calls Tryd.prog 3 #[.slice A0 l0.length c0, .slice A1 l1.length c1, .int .u64 a2] W fun e W' => e = .returned (.bool true) ∧ Below W.heap.size W W' := by
  obtain ⟨k, h⟩ := (emitOf_evt l0 l1 a2 hw1).ex
  exact tautochronelaw19_EmitOf.calls k A0 c0 l0 A1 c1 l1 a2 true W hr0 hc0 hr1 hc1 h
#print axioms walkEmitOf
end Go.Proofs.YtepgpapljoelhaaDoor.PE
