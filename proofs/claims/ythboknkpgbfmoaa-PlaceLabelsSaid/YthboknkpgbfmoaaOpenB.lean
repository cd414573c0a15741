/- A slice of bools as an argument: from the row's reading to the cells that the walks ask for. -/
import Derived.Test.YthboknkpgbfmoaaPQx0
import Derived.Deep.Grids
import Derived.WalkKit
import Derived.ProofKit
import Derived.OpenShut
import Derived.ChangeOld
namespace Go.Proofs.Ythboknkpgbfmoaa.PQ
open Go.ChangeShapes Go.WideShapes Go.ChangeAt Go.RowKit Go.Deep Go.Proofs.YthboknkpgbfmoaaW.PrintWords
theorem open_bl40 {H : Type} {enc : TypeId × Value → H} {w : World} {base : Nat} {held : Bool} {fuel : Nat} {A : Option Addr} {len cap : Nat} {x : DataW H × List MemPlace} (h : DataW.trod enc Try.prog w base (fun _ => true) held fuel 40 [.slice A len cap] = some x) :
    ∃ l : List Bool, l.length = len ∧ Kd.C Kd.bool w A l.length l ∧ l.length ≤ cap := by
  rcases open_bools Try.underlying40 Try.underlying4 (by kernel_rfl) h with ⟨hcs, _⟩ | ⟨a, len', cap', B, hcs, _, hl, hm, _, hcell⟩
  · injection hcs with hcs _
    injection hcs with e1 e2 e3
    subst e1 e2 e3
    exact ⟨[], rfl, ⟨rfl, by simp, fun h => by simp at h⟩, by simp⟩
  · injection hcs with hcs _
    injection hcs with e1 e2 e3
    subst e1 e2 e3
    refine ⟨(List.range len).map B, by simp, Kd.C_of_reads (d := false) (h1 := fun _ => rfl) ⟨rfl, by simp only [List.length_map, List.length_range]; unfold maxLen at hm; omega, fun _ => ⟨a, rfl, fun j hj => ?_⟩⟩, by simp; omega⟩
    simp only [List.length_map, List.length_range] at hj
    rw [hcell j (by omega), List.getD_eq_getElem?_getD, List.getElem?_map, List.getElem?_range hj]
    rfl
end Go.Proofs.Ythboknkpgbfmoaa.PQ
