/- awake answers true. -/
import Derived.Test.YtcgnbknbnbgcmaaDoorSpec
import Derived.Test.YtcgnbknbnbgcmaaDoorPQx5
import Derived.KernelRfl
namespace Go.Proofs.YtcgnbknbnbgcmaaDoor.PQ
open Go.RowKit Go.Proofs.YtcgnbknbnbgcmaaDoorW.PrintWords Go.Proofs.YtcgnbknbnbgcmaaDoorW.PrintLast Go.Proofs.YtcgnbknbnbgcmaaDoorW.PrintMore

theorem Evt.of_mono {α : Type} {g : Nat → Option α} (hm : ∀ k, LeO (g k) (g (k + 1))) {K : Nat} {r : α} (h : g K = some r) : Evt g r := by
  refine ⟨K, fun k hk => ?_⟩
  obtain ⟨d, rfl⟩ : ∃ d, k = K + d := ⟨k - K, by omega⟩
  induction d with
  | zero => exact h
  | succ d ih => exact hm (K + d) r (ih (by omega))

theorem awake_eq : Evt (fun k => tautochronelaw12_awake.f k) true :=
  Evt.of_mono (g := fun k => tautochronelaw12_awake.f k) tautochronelaw12_awake.mono (K := 40) (by kernel_rfl)

end Go.Proofs.YtcgnbknbnbgcmaaDoor.PQ
