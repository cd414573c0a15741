/- The walk of CertGood. -/
import Derived.Test.YtepgpapljoelhaaGood
import Derived.Test.YtepgpapljoelhaaOpen
namespace Go.Proofs.Ytepgpapljoelhaa.PA
open Go.RowKit Go.Proofs.YtepgpapljoelhaaW.PrintWords
set_option linter.unusedVariables false

theorem walkCertGood (W : World) (A0 : Option Addr) (c0 : Nat) (l0 : List S37) (hr0 : Kd.C k37 W A0 l0.length l0) (hc0 : l0.length ≤ c0) (_hm0 : l0.length ≤ maxLen) (_hw0 : ∀ y ∈ l0, y.wf) (A1 : Option Addr) (c1 : Nat) (l1 : List Int) (hr1 : Kd.C (Kd.int .i8) W A1 l1.length l1) (hc1 : l1.length ≤ c1) (_hm1 : l1.length ≤ maxLen) (hw1 : ∀ x ∈ l1, (Lit.int .i8 x).wf = true) (a2 : Int) (h2 : (Lit.int .i8 a2).wf = true) (a3 : Int) (h3 : (Lit.int .i8 a3).wf = true) :
    Calls Try.prog 3 #[.slice A0 l0.length c0, .slice A1 l1.length c1, .int .i8 a2, .int .i8 a3] W fun e W' => e = .returned (.bool true) ∧ Below W.heap.size W W' := by
  have q2 := w8 h2
  have q3 := w8 h3
  obtain ⟨k, h⟩ := (certGood_evt l0 l1 a2 a3 hw1 q2.1 q2.2 q3.1 q3.2).ex
  exact tautochronelaw18_CertGood.calls k A0 c0 l0 A1 c1 l1 a2 a3 true W hr0 hc0 hr1 hc1 h
#print axioms walkCertGood
end Go.Proofs.Ytepgpapljoelhaa.PA
