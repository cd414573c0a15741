/- want's answer, in the form in which printed functions ask for it. -/
import Derived.Test.YtepgpapljoelhaaDoorEmf
import Derived.Test.YtepgpapljoelhaaDoorWal
namespace Go.Proofs.YtepgpapljoelhaaDoor.PE
open Go.RowKit Go.Proofs.YtepgpapljoelhaaDoorW.PrintWords Go.Proofs.YtepgpapljoelhaaDoorW.PrintLast Go.Proofs.YtepgpapljoelhaaDoorW.PrintMore
set_option linter.unusedVariables false

def tautochronelaw19_want.f (k : Nat) (l : List S37) (ws : List Int) (fr : Int) : Option (List S37) := if efit l ws.length = true then some (emitL fr ws l) else none
theorem tautochronelaw19_want.mono : ∀ a0 a1 a2 k, LeO (tautochronelaw19_want.f k a0 a1 a2) (tautochronelaw19_want.f (k + 1) a0 a1 a2) := fun _ _ _ _ r h => h
theorem tautochronelaw19_want.calls (k : Nat) (A0 : Option Addr) (c0 : Nat) (l0 : List S37) (A1 : Option Addr) (c1 : Nat) (ws : List Int) (fr : Int) (r : List S37) (w : World) (hr0 : Kd.C k37 w A0 l0.length l0) (hc0 : l0.length ≤ c0) (hr1 : Kd.C (Kd.int .i64) w A1 ws.length ws) (hc1 : ws.length ≤ c1) (h : tautochronelaw19_want.f k l0 ws fr = some r) :
    Calls Tryd.prog 13 #[.slice A0 l0.length c0, .slice A1 ws.length c1, .int .u64 fr] w fun e w' => ∃ v0_ : Value, e = .returned v0_ ∧ Kd.R k37 37 w' w.heap.size (fun _ => True) v0_ r ∧ Below w.heap.size w w' := by
  unfold tautochronelaw19_want.f at h
  by_cases c : efit l0 ws.length = true
  · rw [if_pos c] at h
    injection h with h
    subst h
    obtain ⟨e0, e1, e2, e3⟩ := efit_spec c
    exact (want_calls A0 c0 l0 A1 ws.length c1 ws fr w hr0 hc0 hr1 e0 e1 e2 e3).mono fun e w' h => h
  · rw [if_neg c] at h
    cases h
end Go.Proofs.YtepgpapljoelhaaDoor.PE
