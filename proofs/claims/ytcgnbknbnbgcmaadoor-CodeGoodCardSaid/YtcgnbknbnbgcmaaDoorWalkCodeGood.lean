/- CodeGood: the walk with the plain part. -/
import Derived.Test.YtcgnbknbnbgcmaaDoorQGoodB
import Derived.Test.YtcgnbknbnbgcmaaDoorPureCodeGood
namespace Go.Proofs.YtcgnbknbnbgcmaaDoor.PQ
open Go.RowKit Go.Proofs.YtcgnbknbnbgcmaaDoorW.PrintWords
theorem walkCodeGood (W : World) (A : Option Addr) (c : Nat) (l : List S26) (hr : Kd.C k26 W A l.length l) (hc : l.length ≤ c) (_hm : l.length ≤ maxLen) (hw : ∀ y ∈ l, y.wf) :
    Calls Tryd.prog 5 #[.slice A l.length c] W fun e W' => e = .returned (.bool true) ∧ Below W.heap.size W W' := by
  obtain ⟨k, h⟩ := pureCodeGood l hw
  exact tautochronelaw12_CodeGood.calls k A c l true W hr hc h
end Go.Proofs.YtcgnbknbnbgcmaaDoor.PQ
