/- awake answers true; Next, in plain words. -/
import Derived.Test.YtcgnbknbnbgcmaaDoorSpec
import Derived.Test.YtcgnbknbnbgcmaaDoorPQx5
import Derived.Test.YtcgnbknbnbgcmaaDoorPQx6
import Derived.KernelRfl
namespace Go.Proofs.YtcgnbknbnbgcmaaDoor.PQ
open Go.RowKit Go.Proofs.YtcgnbknbnbgcmaaDoorW.PrintWords Go.Proofs.YtcgnbknbnbgcmaaDoorW.PrintLast Go.Proofs.YtcgnbknbnbgcmaaDoorW.PrintMore

theorem Evt.of_mono {α : Type} {g : Nat → Option α} (hm : ∀ k, LeO (g k) (g (k + 1))) {K : Nat} {r : α} (h : g K = some r) : Evt g r := by
  refine ⟨K, fun k hk => ?_⟩
  obtain ⟨d, rfl⟩ : ∃ d, k = K + d := ⟨k - K, by omega⟩
  induction d with
  | zero => exact h
  | succ d ih => exact hm (K + d) r (ih (by omega))

theorem awake_eq : Evt (fun k => tautochronelaw12_awake.f k) true :=
  Evt.of_mono (g := fun k => tautochronelaw12_awake.f k) tautochronelaw12_awake.mono (K := 40) (by kernel_rfl)

/-! ### Next -/
def nextOf (c : S26) (at_ n : Int) : List Int :=
  let a := if go c ∧ at_ + 1 < n then [at_ + 1] else []
  if jm c ∧ 0 ≤ c.f7 ∧ c.f7 < n then
    (match a with
     | [] => [c.f7]
     | x :: _ => if c.f7 > x then [x, c.f7] else if c.f7 < x then [c.f7, x] else [x])
  else a

theorem Next_eq (c : S26) (at_ n : Int) (h0 : 0 ≤ at_) (h1 : at_ ≤ 4611686018427387904) : Evt (fun k => code_Next.f k c.f0 c.f1 c.f2 c.f3 c.f4 c.f5 c.f6 c.f7 at_ n) (nextOf c at_ n) := by
  have hw : wrap64 (at_ + 1) = at_ + 1 := w64 (by omega) (by omega)
  refine ⟨4, fun k hk => ?_⟩
  obtain ⟨k, rfl⟩ : ∃ m, k = m + 4 := ⟨k - 4, by omega⟩
  simp only [code_Next.f, Jumps_eq, Option.bind_some, hw, nextOf]
  cases hg : go c <;> cases hj : jm c <;> by_cases ha : at_ + 1 < n <;> by_cases hf : 0 ≤ c.f7 <;> by_cases hn : c.f7 < n <;>
    simp [code_Next.j0, code_Next.j1, code_Next.j2, code_Next.j3, ha, hf, hn, hw, rd] <;> (repeat' split) <;> simp_all <;> omega
end Go.Proofs.YtcgnbknbnbgcmaaDoor.PQ
