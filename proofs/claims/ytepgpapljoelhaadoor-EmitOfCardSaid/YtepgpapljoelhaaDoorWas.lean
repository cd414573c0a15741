/- What stands while law19's want lays a code. -/
import Derived.Test.YtepgpapljoelhaaDoorWan
namespace Go.Proofs.YtepgpapljoelhaaDoor.PE
open Go.RowKit Go.Proofs.YtepgpapljoelhaaDoorW.PrintWords Go.Proofs.YtepgpapljoelhaaDoorW.PrintLast Go.Proofs.YtepgpapljoelhaaDoorW.PrintMore
set_option linter.unusedVariables false
set_option linter.unusedSimpArgs false

theorem RI_ok {w : World} {base : Nat} {v : Value} {ok ok' : Nat → Prop} {xs : List Int} (h : Kd.R (Kd.int .i64) 3 w base ok v xs) (hv : ∀ k, v.ownBlock = some k → ok' k) : Kd.R (Kd.int .i64) 3 w base ok' v xs := by
  obtain ⟨h0, inner, hown, hr⟩ := h
  exact ⟨hv, inner, hown, hr.imp_ (fun x cs hm => hm)⟩
theorem RI_own {w : World} {base : Nat} {v : Value} {ok : Nat → Prop} {xs : List Int} (h : Kd.R (Kd.int .i64) 3 w base ok v xs) {k : Nat} (e : v.ownBlock = some k) : k < w.heap.size ∧ ok k := by
  obtain ⟨h0, inner, hown, hr⟩ := h
  exact ⟨own_lt hown k e, h0 k e⟩
theorem RI_move {w w' : World} {base : Nat} {v : Value} {ok : Nat → Prop} {xs : List Int} (h : Kd.R (Kd.int .i64) 3 w base ok v xs) (hk : ∀ k, v.ownBlock = some k → w'.heap[k]? = w.heap[k]?) : Kd.R (Kd.int .i64) 3 w' base ok v xs :=
  RI_ok (Kd.R_step (RI_ok (ok' := fun k => v.ownBlock = some k) h (fun k e => e)) (fun k e _ => hk k e)) (fun k e => (RI_own h e).2)
theorem R37_move {w w' : World} {v : Value} {ok : Nat → Prop} {xs : List S37} (h : Kd.R k37 37 w 0 ok v xs) (hk : ∀ k, v.ownBlock = some k → w'.heap[k]? = w.heap[k]?) : Kd.R k37 37 w' 0 ok v xs :=
  R37_ok (Kd.R_step (R37_ok (ok' := fun k => v.ownBlock = some k) h (fun k e => e)) (fun k e _ => hk k e)) (fun k e => h.1 k e)
theorem WM.put0 {w w1 : World} {ob n1 k1 : Nat} {A1 : Option Addr} {v : Value} {out o1 : List S37} (h : WM w ob v out) (hg : w.grownBy w1 v.ownBlock) (hR : Kd.R k37 37 w1 0 (fun k => ob < k) (.slice A1 n1 k1) o1) (hv : ∀ k, (Value.slice A1 n1 k1).ownBlock = some k → v.ownBlock = some k ∨ w.heap.size ≤ k) :
    WM (w1.setCell ⟨ob, 0, none⟩ (.slice A1 n1 k1)) ob (.slice A1 n1 k1) o1 ∧ Kx ob v w (.slice A1 n1 k1) (w1.setCell ⟨ob, 0, none⟩ (.slice A1 n1 k1)) := by
  have ag := h.cell.2.2
  have hb := blk_grown h.1 hg ag
  have hsz := hg.size
  refine ⟨⟨blk_put hb 0 _ rfl, Kd.R_step hR (fun k hk _ => Below.heap_setCell _ _ _ _ (by show k ≠ ob; omega))⟩, ⟨hg.os, hg.tape, hg.output, by simp [World.setCell]; exact hsz, fun k hk => Nat.not_lt_zero _ hk |>.elim⟩, fun k hk hne ho => ?_, hv⟩
  rw [Below.heap_setCell _ _ _ _ hne, hg.block k hk (fun e => ho e.symm)]
/-- Between two codes. -/
structure QS (w0 : World) (ob wb fb nw cw : Nat) (Aw : Option Addr) (fr : Int) (v : Value) (out : List S37) (sv : Value) (st : List Int) (wr : World) : Prop where
  em : WM wr ob v out
  wx : wr.heap[wb]? = some (.cells #[.slice Aw nw cw] 28 (0, 0))
  fx : wr.heap[fb]? = some (.cells #[.int .u64 fr] 24 (0, 0))
  sr : Kd.R (Kd.int .i64) 3 wr 0 (fun k => ob < k ∧ v.ownBlock ≠ some k) sv st
  old : Below w0.heap.size w0 wr
  ord : w0.heap.size ≤ wb ∧ wb < fb ∧ fb < ob
section
variable {w0 w w' w1 : World} {ob wb fb nw cw gb db n cu : Nat} {Aw : Option Addr} {fr : Int} {v v' sv sv' uv : Value} {out out' : List S37} {st st' U : List Int} {c d d' : S37} {ad : Addr}
theorem QS.nov (h : QS w0 ob wb fb nw cw Aw fr v out sv st w) {k : Nat} (hk : k ≤ ob) : v.ownBlock ≠ some k := fun e => by have := (h.em.own e).2; omega
theorem QS.step (h : QS w0 ob wb fb nw cw Aw fr v out sv st w) (hk : Kx ob v w v' w') (he : WM w' ob v' out') : QS w0 ob wb fb nw cw Aw fr v' out' sv st w' := by
  have o := h.ord
  refine ⟨he, (hk.blk h.wx (by omega) (h.nov (by omega))).1, (hk.blk h.fx (by omega) (h.nov (by omega))).1, ?_, ⟨h.old.os ▸ hk.below.os, h.old.tape ▸ hk.below.tape, h.old.output ▸ hk.below.output, Nat.le_trans h.old.size hk.size, fun k hl => (hk.rest k (Nat.lt_of_lt_of_le hl h.old.size) (by omega) (h.nov (by omega))).trans (h.old.block k hl)⟩, o⟩
  have hs : ∀ k, sv.ownBlock = some k → k < w.heap.size ∧ ob < k ∧ v.ownBlock ≠ some k := fun k e => ⟨(RI_own h.sr e).1, (RI_own h.sr e).2.1, (RI_own h.sr e).2.2⟩
  refine RI_ok (RI_move h.sr (fun k e => hk.rest k (hs k e).1 (by have := (hs k e).2.1; omega) (hs k e).2.2)) (fun k e => ⟨(hs k e).2.1, fun e2 => ?_⟩)
  rcases hk.own k e2 with e3 | e3
  · exact (hs k e).2.2 e3
  · have := (hs k e).1
    omega
theorem QS.below (h : QS w0 ob wb fb nw cw Aw fr v out sv st w) (hb : Below w.heap.size w w') : QS w0 ob wb fb nw cw Aw fr v out sv st w' := h.step (Kx.of hb) (h.em.below hb)
theorem QS.alloc (h : QS w0 ob wb fb nw cw Aw fr v out sv st w) (o : Obj) : QS w0 ob wb fb nw cw Aw fr v out sv st (w.alloc o) := h.below ((Below.refl _ _).alloc (Nat.le_refl _) o)
/-- The starts have grown. -/
theorem QS.app (h : QS w0 ob wb fb nw cw Aw fr v out sv st w) (hR : Kd.R (Kd.int .i64) 3 w1 0 (fun k => ob < k ∧ v.ownBlock ≠ some k) sv' st') (hg : w.grownBy w1 sv.ownBlock) : QS w0 ob wb fb nw cw Aw fr v out sv' st' w1 := by
  have o := h.ord
  have hs : ∀ k, sv.ownBlock = some k → ob < k ∧ v.ownBlock ≠ some k := fun k e => (RI_own h.sr e).2
  have hne : ∀ k, k ≤ ob → some k ≠ sv.ownBlock := fun k hk e => by have := (hs k e.symm).1; omega
  refine ⟨⟨blk_grown h.em.1 hg (hne ob (Nat.le_refl _)), R37_move h.em.2 (fun k e => hg.block k (h.em.own e).1 (fun e2 => (hs k e2.symm).2 e))⟩, blk_grown h.wx hg (hne wb (by omega)), blk_grown h.fx hg (hne fb (by omega)), hR, h.old.grown hg (h.old.size) (fun k e => by have := (hs k e).1; omega), o⟩
theorem QS.set (h : QS w0 ob wb fb nw cw Aw fr v out sv st w) {g : Nat} (hg : ob < g) (hv : v.ownBlock ≠ some g) (hs : sv.ownBlock ≠ some g) (i : Nat) (u : Value) : QS w0 ob wb fb nw cw Aw fr v out sv st (w.setCell ⟨g, i, none⟩ u) := by
  have o := h.ord
  refine ⟨h.em.set (by omega) hv i u, blk_far h.wx (by simp; omega) u, blk_far h.fx (by simp; omega) u, RI_move h.sr (fun k e => Below.heap_setCell _ _ _ _ (fun e2 => hs (by have e3 : k = g := e2; rw [← e3]; exact e))), h.old.setCell (by show w0.heap.size ≤ g; omega) u, o⟩
/-- While a code is laid. -/
structure RS (w0 : World) (ob wb fb nw cw : Nat) (Aw : Option Addr) (fr : Int) (gb db : Nat) (v : Value) (out : List S37) (sv : Value) (st : List Int) (c d : S37) (uv : Value) (U : List Int) (wr : World) : Prop where
  qs : QS w0 ob wb fb nw cw Aw fr v out sv st wr
  bx : wr.heap[gb]? = some (.cells (cells37 c) 37 (0, 0))
  dx : wr.heap[db]? = some (.cells (cells37 d) 37 (0, 0))
  us : ∃ base, Kd.R (Kd.int .i64) 3 wr base (fun k => gb < k ∧ k < db) uv U
  vo : ∀ k, v.ownBlock = some k → k < gb ∨ db < k
  so : ∀ k, sv.ownBlock = some k → k < db ∧ k ≠ gb
  ord : ob < gb ∧ gb < db
theorem RS.step (h : RS w0 ob wb fb nw cw Aw fr gb db v out sv st c d uv U w) (hk : Kx ob v w v' w') (he : WM w' ob v' out') : RS w0 ob wb fb nw cw Aw fr gb db v' out' sv st c d uv U w' := by
  have o := h.ord
  have hdl := blk_lt h.dx
  refine ⟨h.qs.step hk he, (hk.blk h.bx (by omega) (fun e => by have := h.vo _ e; omega)).1, (hk.blk h.dx (by omega) (fun e => by have := h.vo _ e; omega)).1, ?_, fun k e => ?_, h.so, o⟩
  · obtain ⟨base, hu⟩ := h.us
    exact ⟨base, RI_move hu (fun k e => hk.rest k (RI_own hu e).1 (by have := (RI_own hu e).2; omega) (fun e2 => by have := h.vo k e2; have := (RI_own hu e).2; omega))⟩
  · rcases hk.own k e with e2 | e2
    · exact h.vo k e2
    · exact .inr (by omega)
theorem RS.below (h : RS w0 ob wb fb nw cw Aw fr gb db v out sv st c d uv U w) (hb : Below w.heap.size w w') : RS w0 ob wb fb nw cw Aw fr gb db v out sv st c d uv U w' := h.step (Kx.of hb) (h.qs.em.below hb)
theorem RS.setD (h : RS w0 ob wb fb nw cw Aw fr gb db v out sv st c d uv U w) (i : Nat) (u : Value) (e : (cells37 d).setIfInBounds i u = cells37 d') : RS w0 ob wb fb nw cw Aw fr gb db v out sv st c d' uv U (w.setCell ⟨db, i, none⟩ u) := by
  have o := h.ord
  refine ⟨h.qs.set (by omega) (fun e => by have := h.vo _ e; omega) (fun e => by have := h.so _ e; omega) i u, blk_far h.bx (by simp; omega) u, blk_put h.dx i u e, ?_, h.vo, h.so, o⟩
  obtain ⟨base, hu⟩ := h.us
  exact ⟨base, RI_move hu (fun k e => Below.heap_setCell _ _ _ _ (by have := (RI_own hu e).2; show k ≠ db; omega))⟩
theorem RS.uc (h : RS w0 ob wb fb nw cw Aw fr gb db v out sv st c d (.slice (some ad) n cu) U w) (hn : n = U.length) (i : Nat) (hi : i < n) : w.cell? (ad.add i) = some (.int .i64 (rd U (i : Int))) := by
  obtain ⟨base, hu⟩ := h.us
  obtain ⟨_, _, hC⟩ := Kd.R_reads' hu
  obtain ⟨ad', e, hx⟩ := Kd.at_int hC (i : Int) (by omega) (by omega)
  injection e with e
  subst e
  rw [Int.toNat_natCast] at hx
  exact hx
theorem RS.bk (h : RS w0 ob wb fb nw cw Aw fr gb db v out sv st c d uv U w) : (w.cell? ⟨db, 0, none⟩ = some (.int .i64 d.f0) ∧ w.cell? ⟨db, 1, none⟩ = some (.int .i64 d.f1) ∧ w.cell? ⟨db, 2, none⟩ = some (.int .i64 d.f2) ∧ w.cell? ⟨db, 3, none⟩ = some (.int .i64 d.f3) ∧ w.cell? ⟨db, 4, none⟩ = some (.int .i64 d.f4) ∧ w.cell? ⟨db, 5, none⟩ = some (.int .i64 d.f5) ∧ w.cell? ⟨db, 6, none⟩ = some (.int .u64 d.f6) ∧ w.cell? ⟨db, 7, none⟩ = some (.int .i64 d.f7)) ∧ (w.frozen? ⟨db, 2, none⟩ = false ∧ w.frozen? ⟨db, 3, none⟩ = false ∧ w.frozen? ⟨db, 4, none⟩ = false ∧ w.frozen? ⟨db, 5, none⟩ = false) :=
  ⟨box8 h.dx, ⟨blk_frozen h.dx 2, blk_frozen h.dx 3, blk_frozen h.dx 4, blk_frozen h.dx 5⟩⟩
end
end Go.Proofs.YtepgpapljoelhaaDoor.PE
