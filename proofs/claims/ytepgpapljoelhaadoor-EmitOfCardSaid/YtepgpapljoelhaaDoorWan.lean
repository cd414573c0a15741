/- law19's want: the closure that takes a value, and what stands beside it. -/
import Derived.Test.YtepgpapljoelhaaDoorEmo
namespace Go.Proofs.YtepgpapljoelhaaDoor.PE
open Go.RowKit Go.Proofs.YtepgpapljoelhaaDoorW.PrintWords Go.Proofs.YtepgpapljoelhaaDoorW.PrintLast Go.Proofs.YtepgpapljoelhaaDoorW.PrintMore
set_option linter.unusedVariables false
set_option linter.unusedSimpArgs false

/-- The variable in block ob holds the codes out. -/
def WM (w : World) (ob : Nat) (v : Value) (out : List S37) : Prop := w.heap[ob]? = some (.cells #[v] 22 (0, 0)) ∧ Kd.R k37 37 w 0 (fun k => ob < k) v out
/-- All stands but the variable and its row. -/
structure Kx (ob : Nat) (v : Value) (w : World) (v' : Value) (w' : World) : Prop where
  below : Below 0 w w'
  rest : ∀ k, k < w.heap.size → k ≠ ob → v.ownBlock ≠ some k → w'.heap[k]? = w.heap[k]?
  own : ∀ k, v'.ownBlock = some k → v.ownBlock = some k ∨ w.heap.size ≤ k
theorem Kx.refl (ob : Nat) (v : Value) (w : World) : Kx ob v w v w := ⟨Below.refl _ _, fun _ _ _ _ => rfl, fun _ h => .inl h⟩
theorem Kx.size {ob : Nat} {v v' : Value} {w w' : World} (h : Kx ob v w v' w') : w.heap.size ≤ w'.heap.size := h.below.size
theorem Kx.blk {ob : Nat} {v v' : Value} {w w' : World} (h : Kx ob v w v' w') {g : Nat} {o : Obj} (hb : w.heap[g]? = some o) (hne : g ≠ ob) (ho : v.ownBlock ≠ some g) : w'.heap[g]? = some o ∧ v'.ownBlock ≠ some g := by
  have hlt := blk_lt hb
  refine ⟨(h.rest g hlt hne ho).trans hb, fun e => ?_⟩
  rcases h.own g e with h1 | h1
  · exact ho h1
  · omega
theorem Kx.trans {ob : Nat} {v v' v'' : Value} {a b c : World} (h : Kx ob v a v' b) (k : Kx ob v' b v'' c) : Kx ob v a v'' c := by
  refine ⟨h.below.trans k.below, fun i hi hne ho => ?_, fun i hi => ?_⟩
  · have hs := h.size
    refine (k.rest i (by omega) hne (fun e => ?_)).trans (h.rest i hi hne ho)
    rcases h.own i e with h1 | h1
    · exact ho h1
    · omega
  · rcases k.own i hi with h1 | h1
    · exact h.own i h1
    · have := h.size
      exact .inr (by omega)
theorem Kx.of {ob : Nat} {v : Value} {w w' : World} (h : Below w.heap.size w w') : Kx ob v w v w' := ⟨h.mono (Nat.zero_le _), fun k hk _ _ => h.block k hk, fun _ h => .inl h⟩
section
variable {w w' w1 : World} {ob : Nat} {v : Value} {out : List S37}
theorem WM.lt (h : WM w ob v out) : ob < w.heap.size := blk_lt h.1
theorem WM.cell (h : WM w ob v out) : w.cell? ⟨ob, 0, none⟩ = some v ∧ w.frozen? ⟨ob, 0, none⟩ = false ∧ some ob ≠ v.ownBlock := ⟨blk_cell h.1 0, blk_frozen h.1 0, fun e => by have := h.2.1 ob e.symm; omega⟩
theorem WM.below (h : WM w ob v out) (hb : Below w.heap.size w w') : WM w' ob v out := ⟨blk_below h.1 hb, Kd.R_below h.2 hb⟩
theorem WM.own (h : WM w ob v out) {k : Nat} (e : v.ownBlock = some k) : k < w.heap.size ∧ ob < k := by
  obtain ⟨h0, inner, hown, hr⟩ := h.2
  exact ⟨own_lt hown k e, h0 k e⟩
theorem WM.set (h : WM w ob v out) {g : Nat} (hg : g ≠ ob) (hv : v.ownBlock ≠ some g) (i : Nat) (u : Value) : WM (w.setCell ⟨g, i, none⟩ u) ob v out := by
  refine ⟨blk_far h.1 (fun e => hg (by have e' : ob = g := e; exact e'.symm)) u, ?_⟩
  refine R37_ok (Kd.R_step (R37_ok (ok' := fun k => v.ownBlock = some k) h.2 (fun k e => e)) (fun k hk _ => Below.heap_setCell _ _ _ _ (fun e => hv (by have e' : k = g := e; rw [← e']; exact hk)))) (fun k e => h.2.1 k e)
theorem Kx.set {a : World} {v0 : Value} (h : Kx ob v0 a v w) {g : Nat} (hg : a.heap.size ≤ g) (i : Nat) (u : Value) : Kx ob v0 a v (w.setCell ⟨g, i, none⟩ u) :=
  ⟨h.below.setCell (Nat.zero_le _) u, fun k hk h1 h2 => (Below.heap_setCell w ⟨g, i, none⟩ u k (by show k ≠ g; omega)).trans (h.rest k hk h1 h2), h.own⟩
end
/-- A code was appended, and stored back. -/
theorem WM.put {w w1 : World} {o : Obj} {ob n1 k1 : Nat} {A1 : Option Addr} {v : Value} {out o1 : List S37} (h : WM w ob v out) (hg' : (w.alloc o).drew.grownBy w1 v.ownBlock) (hR : Kd.R k37 37 w1 0 (fun k => ob < k) (.slice A1 n1 k1) o1) (hv : ∀ k, (Value.slice A1 n1 k1).ownBlock = some k → v.ownBlock = some k ∨ w.heap.size ≤ k) :
    WM (w1.setCell ⟨ob, 0, none⟩ (.slice A1 n1 k1)) ob (.slice A1 n1 k1) o1 ∧ Kx ob v w (.slice A1 n1 k1) (w1.setCell ⟨ob, 0, none⟩ (.slice A1 n1 k1)) := by
  have hg : (w.alloc o).grownBy w1 v.ownBlock := ⟨hg'.os, hg'.tape, hg'.output, hg'.size, hg'.block⟩
  have ag := h.cell.2.2
  have hb := blk_grown (blk_alloc h.1 o) hg ag
  have hsz : w.heap.size ≤ w1.heap.size := Nat.le_trans (by simp) hg.size
  refine ⟨⟨blk_put hb 0 _ rfl, Kd.R_step hR (fun k hk _ => Below.heap_setCell _ _ _ _ (by show k ≠ ob; omega))⟩, ⟨hg.os, hg.tape, hg.output, by simp [World.setCell]; exact hsz, fun k hk => Nat.not_lt_zero _ hk |>.elim⟩, fun k hk hne ho => ?_, hv⟩
  rw [Below.heap_setCell _ _ _ _ hne, hg.block k (by simp; omega) (fun e => ho e.symm), Below.heap_alloc _ _ _ hk]
/-- A code appended: as step_append_37, the new row's block told. -/
theorem step_append_w {ops : Array Oper} {a : Act} {K : Act → World → Prop} {Q : Exit → Act → World → Prop} {E : Prop} {W : World} (dst : Option Tmp) (ty : TypeId) (pos : String) (after : Array Edge) (s x : Operand)
    (v : Value) (xs : List S37) (p : S37) (ok : Nat → Prop) (Bk H : Nat) (hs : a.eval s = v) (hx : a.eval x = .slice (some ⟨Bk, 0, none⟩) 1 1) (HO : Kd.R k37 37 W 0 ok v xs) (hB : W.heap[Bk]? = some (.cells (cells37 p) 37 (0, 0)))
    (hl : xs.length ≤ 1000000) (hfresh : ∀ k, W.heap.size ≤ k → ok k) (hH : H ≤ W.heap.size)
    (h : ∀ v1 w1, Kd.R k37 37 w1 0 ok v1 (xs ++ [p]) → W.grownBy w1 v.ownBlock → (∀ k, v1.ownBlock = some k → v.ownBlock = some k ∨ H ≤ k) → K (a.put dst v1) w1) :
    if Region.wanted { dst := dst, op := .call { callee := .builtin .append, args := #[s, x], argTypes := #[22, 22] }, type := ty, pos := pos, after := after, guard := none } (yielded ops a.tmps) = true then Oper.wp Tryd.prog { dst := dst, op := .call { callee := .builtin .append, args := #[s, x], argTypes := #[22, 22] }, type := ty, pos := pos, after := after, guard := none } a W K Q else E := by
  obtain ⟨i0, hi, hz0, hz1, hz2⟩ := info_parts info37
  obtain ⟨h0, inner, hown, hr⟩ := HO
  refine step_append_lies W rfl s x 22 rfl 0 37 i0 (.agg #[.int .i64 0, .int .i64 0, .int .i64 0, .int .i64 0, .int .i64 0, .int .i64 0, .int .u64 0, .int .i64 0]) 8 64 Tryd.underlying22 hi hz0 hz1 hz2 rfl (by decide) v xs.length inner hs hown ⟨Bk, 0, none⟩ 1 1 (cells37 p).toList hx rfl (World.news_of_block hB) (by simp [cells37, Value.oneCell']) (by decide) (by unfold maxLen; omega) (by omega) (Nat.zero_le _) W.heap.size rfl ?_
  intro g cap w1 hown1 hgrow hat hlt
  refine h _ w1 (Kd.R_appended h0 hr (k37_mkM W 0 (fun _ => False) p) (fun _ hk => hk.elim) hfresh hown1 hgrow ?_) hgrow ?_
  · rcases hat with hat | hat
    · exact .inl (by rw [hat]; rfl)
    · exact .inr ⟨g, rfl, by omega⟩
  · intro k e
    have e' : g = k := by
      have e2 : (some g : Option Nat) = some k := e
      injection e2
    rcases hat with hat | hat
    · exact .inl (by rw [← e']; exact hat)
    · exact .inr (by omega)
def WRegPost (ob : Nat) (v : Value) (fr : Int) (out : List S37) (ws : List Int) (x sc : Int) (w : World) (e : Ending) (w' : World) : Prop :=
  ∃ v', e = .returned (.int .i64 (regOf ws x sc)) ∧ WM w' ob v' (out ++ regC fr ws x sc) ∧ Kx ob v w v' w'
set_option maxHeartbeats 2000000 in
set_option maxRecDepth 100000 in
theorem wreg_calls (ob wb fb nw cw : Nat) (Aw : Option Addr) (fr : Int) (v : Value) (out : List S37) (ws : List Int) (x k : Int) (w : World) (hE : WM w ob v out) (hwb : w.heap[wb]? = some (.cells #[.slice Aw nw cw] 28 (0, 0))) (hfb : w.heap[fb]? = some (.cells #[.int .u64 fr] 24 (0, 0))) (hW : Kd.C (Kd.int .i64) w Aw nw ws) (h0 : 0 ≤ x) (h1 : x < (nw : Int)) (hk0 : 0 ≤ k) (hk1 : k ≤ 10) (hl : out.length ≤ 1000000) :
    Calls Tryd.prog 28 #[.int .i64 x, .int .i64 k, .pointer (some ⟨wb, 0, none⟩), .pointer (some ⟨ob, 0, none⟩), .pointer (some ⟨fb, 0, none⟩)] w (WRegPost ob v fr out ws x (5 + k) w) := by
  obtain ⟨ad, rfl, hx⟩ := Kd.at_int hW x h0 h1
  have b0 := blk_cell hwb 0
  have d0 := blk_cell hfb 0
  obtain ⟨e2, ez, ag⟩ := hE.cell
  have hlt := hE.lt
  have HE := Lib.hid hE
  clear hE hW hwb hfb
  obtain ⟨y, hy⟩ : ∃ y, y = rd ws x := ⟨_, rfl⟩
  rw [← hy] at hx
  have HY := Lib.hid hy
  clear hy
  by_cases c : 0 ≤ y
  · have hc : y ≥ 0 := c
    have HP : WRegPost ob v fr out ws x (5 + k) w (.returned (.int .i64 y)) w := by
      have e : rd ws x ≥ 0 := by rw [← HY.out]; exact c
      refine ⟨v, ?_, ?_, Kx.refl _ _ _⟩
      · unfold regOf; rw [if_pos e, HY.out]
      · unfold regC; rw [if_pos e, List.append_nil]; exact HE.out
    have HP := Lib.hid HP
    go_enter Tryd.func28, Tryd.ntmps28
    go_wp2_with fail
    go_ret
    exact HP.out
  · have hc : ¬ y ≥ 0 := c
    have hw1 : IntKind.i64.wrap (5 + k) = 5 + k := by
      rw [i64_w]
      exact w64 (by omega) (by omega)
    have hw2 : IntKind.u64.wrap (fr + IntKind.u64.wrap (IntKind.i64.wrap (-1 - y))) = slotV fr y := by rw [i64_w]; rfl
    go_enter Tryd.func28, Tryd.ntmps28
    go_wp2_with fail
    go_region_law
      (first
        | ((with_reducible refine step_append_w _ _ _ _ (.tmp 17) (.tmp 29) v out ⟨4, 0, 5 + k, -1, 0, 0, slotV fr y, 0⟩ (fun q => ob < q) w.heap.size w.heap.size ?aS ?aX ?aO ?aB hl ?aF ?aH ?_); (case aS => rfl); (case aX => rfl); (case aO => (with_reducible repeat (first | apply Kd.R_alloc | apply Kd.R_drewN | apply Kd.R_drew)); exact HE.out.2); (case aB => exact heap_alloc_new w _); (case aF => intro q hq; simp at hq; omega); (case aH => simp); intro v1 w1 hR1 hgrow hv1; have f2b : w1.frozen? ⟨ob, 0, none⟩ = false := (hgrow.frozen_far _ (by simp; omega) ag).trans ((((Below.refl w.heap.size w).alloc (Nat.le_refl _) _).frozen (p := ⟨ob, 0, none⟩) hlt).trans ez); have c2b : w1.cell? ⟨ob, 0, none⟩ = some v := (hgrow.cell_far _ (by simp; omega) ag).trans ((((Below.refl w.heap.size w).alloc (Nat.le_refl _) _).cell (p := ⟨ob, 0, none⟩) hlt).trans e2); have HV1 := Lib.hid hv1; obtain ⟨A1, n1, k1, rfl, HR1⟩ := slice_of hR1; clear hR1 hv1))
    all_goals (go_wp2_with fail)
    all_goals go_ret
    all_goals
      obtain ⟨q1, q2⟩ := HR1.out
      obtain ⟨q3, q4⟩ := WM.put HE.out hgrow q2 HV1.out
      have e : ¬ rd ws x ≥ 0 := by rw [← HY.out]; omega
      refine ⟨.slice A1 n1 k1, ?_, ?_, q4⟩
      · unfold regOf
        rw [if_neg e]
        rfl
      · unfold regC readC
        rw [if_neg e, ← HY.out]
        exact q3
end Go.Proofs.YtepgpapljoelhaaDoor.PE
