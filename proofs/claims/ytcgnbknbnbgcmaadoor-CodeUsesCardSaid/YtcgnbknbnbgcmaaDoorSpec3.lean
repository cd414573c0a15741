/- Plain lemmas: same tells whether two lists are one. -/
import Derived.Test.YtcgnbknbnbgcmaaDoorSpec2
namespace Go.Proofs.YtcgnbknbnbgcmaaDoor.PQ
open Go.RowKit Go.Proofs.YtcgnbknbnbgcmaaDoorW.PrintWords Go.Proofs.YtcgnbknbnbgcmaaDoorW.PrintLast Go.Proofs.YtcgnbknbnbgcmaaDoorW.PrintMore

theorem same_refl (xs : List Int) (hm : xs.length ≤ 9223372036854775806) : Evt (fun k => tautochronelaw12_same.f k xs xs) true := by
  have key : ∀ (d i : Nat), xs.length - i = d → i ≤ xs.length → Evt (fun k => tautochronelaw12_same.l0 k xs xs (xs.length : Int) (i : Int)) true := by
    intro d
    induction d with
    | zero =>
      intro i hd hi
      refine Evt.succ (g := fun _ => some true) (fun k => ?_) (Evt.const fun _ => rfl)
      simp only [tautochronelaw12_same.l0]
      rw [if_neg (by omega)]
    | succ d ih =>
      intro i hd hi
      refine Evt.succ (g := fun k => tautochronelaw12_same.l0 k xs xs (xs.length : Int) ((i + 1 : Nat) : Int)) (fun k => ?_) (ih (i + 1) (by omega) (by omega))
      simp only [tautochronelaw12_same.l0]
      rw [if_pos (by omega), if_pos (by omega), if_pos (by omega), if_pos (by omega), if_pos trivial, w64 (by omega) (by omega)]
      rfl
  exact Evt.congr (g := fun k => tautochronelaw12_same.l0 k xs xs (xs.length : Int) 0) (fun k => by simp [tautochronelaw12_same.f]) (key _ 0 rfl (by omega))
end Go.Proofs.YtcgnbknbnbgcmaaDoor.PQ
