/- The walk of CertOwn. -/
import Derived.Test.YtepgpapljoelhaaOwn
import Derived.Test.YtepgpapljoelhaaOpen
namespace Go.Proofs.Ytepgpapljoelhaa.PA
open Go.RowKit Go.Proofs.YtepgpapljoelhaaW.PrintWords
set_option linter.unusedVariables false

theorem walkCertOwn (W : World) (A0 : Option Addr) (c0 : Nat) (l0 : List S37) (hr0 : Kd.C k37 W A0 l0.length l0) (hc0 : l0.length ≤ c0) (_hm0 : l0.length ≤ maxLen) (_hw0 : ∀ y ∈ l0, y.wf) :
    Calls Try.prog 4 #[.slice A0 l0.length c0] W fun e W' => e = .returned (.bool true) ∧ Below W.heap.size W W' := by
  obtain ⟨k, h⟩ := (certOwn_evt l0).ex
  exact tautochronelaw18_CertOwn.calls k A0 c0 l0 true W hr0 hc0 h
#print axioms walkCertOwn
end Go.Proofs.Ytepgpapljoelhaa.PA
