/- The closures of alloc.Of, and the append of a number. -/
import Derived.Test.YthboknkpgbfmoaaSort
import Derived.Maps.AppendAt
namespace Go.Proofs.Ythboknkpgbfmoaa.PA
open Go.RowKit Go.WideMaps Go.Maps Go.Shelf Go.Proofs.YthboknkpgbfmoaaW.PrintWords
set_option linter.unusedVariables false
set_option linter.unusedSimpArgs false

theorem wpList_append_ri {w : World} {ops : Array Oper} {rest : List Oper} {o : Oper} {a : Act} {Q : Exit → Act → World → Prop} (hgd : o.guard = none) (s x : Operand) (ho : o.op = .call { callee := .builtin .append, args := #[s, x], argTypes := #[47, 47] })
    (base : Nat) (v : Value) (xs : List Int) (hs : a.eval s = v) (hR : RI base w v xs) (g : Nat) (y : Int) (hx : a.eval x = .slice (some ⟨g, 0, none⟩) 1 1) (hy : w.cell? ⟨g, 0, none⟩ = some (.int .i64 y)) (hlen : xs.length ≤ 1000) (hbase : base ≤ w.heap.size)
    (h : ∀ v' w', RI base w' v' (xs ++ [y]) → w.grownBy w' v.ownBlock → (v'.ownBlock = v.ownBlock ∨ v'.ownBlock = some w.heap.size) → wpList Try.prog ops Q rest (a.put o.dst v') w') : wpList Try.prog ops Q (o :: rest) a w := by
  obtain ⟨i0, hi, hz0, hz1, hz2⟩ := info_parts info3
  refine wpList_append_own_at w hgd s x 47 ho base 3 i0 (.int .i64 0) 1 8 Try.underlying47 hi hz0 hz1 hz2 rfl (by omega) v xs.length (xs.map (Value.int .i64)) hs hR ⟨g, 0, none⟩ 1 1 [.int .i64 y] hx rfl ?_ ?_ (by unfold maxLen; omega) (by omega) hbase ?_
  · intro j u hj
    cases j with
    | zero =>
      simp at hj
      subst hj
      exact hy
    | succ j => simp at hj
  · intro u hu
    simp at hu
    subst hu
    rfl
  · intro v' w' h1 h2 h3 h4
    refine h v' w' ?_ h2 h4
    unfold RI
    simpa using h1

set_option maxHeartbeats 1000000 in
set_option maxRecDepth 100000 in
/-- First of a less First of b. -/
theorem first_calls (sb g nv : Nat) (s : Nat → Int × Int) (W : World) (a b : Nat) (ha : a < nv) (hb : b < nv) (hs : SR W g nv s) (hc : W.cell? ⟨sb, 0, none⟩ = some (.slice (some ⟨g, 0, none⟩) nv nv))
    (hk : ∀ i, i < nv → -1 ≤ (s i).1 ∧ (s i).1 ≤ 100000) : Calls Try.prog 27 #[.int .i64 a, .int .i64 b, .pointer (some ⟨sb, 0, none⟩)] W (fun e w' => e = .returned (.int .i64 ((s a).1 - (s b).1)) ∧ ∃ q, w' = W.drewN q) := by
  have ca := hs.c0 ha
  have cb := hs.c0 hb
  have h1 := hk a ha
  have h2 := hk b hb
  have hwr : IntKind.i64.wrap ((s a).1 - (s b).1) = (s a).1 - (s b).1 := IntWalk.i64_in _ (by omega)
  have ha2 : (a : Int) < (nv : Int) := by omega
  have hb2 : (b : Int) < (nv : Int) := by omega
  generalize (s a).1 = x at *
  generalize (s b).1 = y at *
  go_enter Try.func27, Try.ntmps27
  go_wp2_with fail
  go_quiet (fail)
  go_wp2_with fail
  go_ret
  exact ⟨rfl, nq, rfl⟩

set_option maxHeartbeats 1000000 in
set_option maxRecDepth 100000 in
/-- Is x's end ahead of v's begin? -/
theorem ended_calls (sb vb g nv : Nat) (s : Nat → Int × Int) (W : World) (a b : Nat) (ha : a < nv) (hb : b < nv) (hs : SR W g nv s) (hc : W.cell? ⟨sb, 0, none⟩ = some (.slice (some ⟨g, 0, none⟩) nv nv)) (hv : W.cell? ⟨vb, 0, none⟩ = some (.int .i64 b)) :
    Calls Try.prog 29 #[.int .i64 a, .pointer (some ⟨sb, 0, none⟩), .pointer (some ⟨vb, 0, none⟩)] W (fun e w' => e = .returned (.bool (decide ((s a).2 < (s b).1))) ∧ Below W.heap.size W w') := by
  have ca := hs.c1 ha
  have cb := hs.c0 hb
  have ha2 : (a : Int) < (nv : Int) := by omega
  have hb2 : (b : Int) < (nv : Int) := by omega
  generalize (s a).2 = x at *
  generalize (s b).1 = y at *
  go_enter Try.func29, Try.ntmps29
  go_wp2_with fail
  go_quiet (fail)
  go_wp2_with fail
  go_ret
  exact ⟨rfl, ⟨rfl, rfl, rfl, Nat.le_refl _, fun _ _ => rfl⟩⟩
set_option maxHeartbeats 1000000 in
set_option maxRecDepth 100000 in
/-- Is x at r? -/
theorem isat_calls (pb rb wg nv : Nat) (wh : Nat → Int) (W : World) (a : Nat) (r : Int) (ha : a < nv) (hs : W.rowIs wg 3 nv (fun i => .int .i64 (wh i))) (hc : W.cell? ⟨pb, 0, none⟩ = some (.slice (some ⟨wg, 0, none⟩) nv nv)) (hv : W.cell? ⟨rb, 0, none⟩ = some (.int .i64 r)) :
    Calls Try.prog 31 #[.int .i64 a, .pointer (some ⟨pb, 0, none⟩), .pointer (some ⟨rb, 0, none⟩)] W (fun e w' => e = .returned (.bool (decide (wh a = r))) ∧ Below W.heap.size W w') := by
  have ca := hs.cell ha
  have ha2 : (a : Int) < (nv : Int) := by omega
  generalize wh a = x at *
  go_enter Try.func31, Try.ntmps31
  go_wp2_with fail
  go_quiet (fail)
  go_wp2_with fail
  go_ret
  exact ⟨rfl, ⟨rfl, rfl, rfl, Nat.le_refl _, fun _ _ => rfl⟩⟩
set_option maxHeartbeats 1000000 in
set_option maxRecDepth 100000 in
/-- Is x the last one? -/
theorem islast_calls (lb : Nat) (W : World) (a : Int) (r : Int) (hv : W.cell? ⟨lb, 0, none⟩ = some (.int .i64 r)) :
    Calls Try.prog 32 #[.int .i64 a, .pointer (some ⟨lb, 0, none⟩)] W (fun e w' => e = .returned (.bool (decide (a = r))) ∧ Below W.heap.size W w') := by
  go_enter Try.func32, Try.ntmps32
  go_wp2_with fail
  go_ret
  exact ⟨rfl, Below.refl _ _⟩
end Go.Proofs.Ythboknkpgbfmoaa.PA
