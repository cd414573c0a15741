/- The contract of alloc.Of. -/
import Derived.Test.YthboknkpgbfmoaaClos
import Derived.Test.YthboknkpgbfmoaaAPure
import Derived.OneCell
import Derived.RegionTactic
import Derived.ChangeAlike
namespace Go.Proofs.Ythboknkpgbfmoaa.PA
open Go.RowKit Go.WideMaps Go.Maps Go.Shelf Go.Proofs.YthboknkpgbfmoaaW.PrintWords
set_option linter.unusedVariables false
set_option linter.unusedSimpArgs false

/-- What stands still while values get places: the result's cell, the spans, the places. -/
def LO (w0 : World) (tb g sb wg pb nv : Nat) (s : Nat → Int × Int) (wh : Nat → Int) (sl : Int) (wr : World) : Prop :=
  SR wr g nv s ∧ wr.heap[sb]? = some (.cells #[.slice (some ⟨g, 0, none⟩) nv nv] 51 (0, 0)) ∧ wr.heap[pb]? = some (.cells #[.slice (some ⟨wg, 0, none⟩) nv nv, .int .i64 sl] 49 (0, 0)) ∧ wr.rowIs wg 3 nv (fun i => .int .i64 (wh i)) ∧
  wr.heap[tb]? = some (.cells #[.slice none 0 0, .int .i64 0] 49 (0, 0)) ∧ Below tb w0 wr ∧ (tb < g ∧ g < sb ∧ sb < wg ∧ wg < pb)
theorem LO.lt {w0 w : World} {tb g sb wg pb nv : Nat} {s : Nat → Int × Int} {wh : Nat → Int} {sl : Int} (h : LO w0 tb g sb wg pb nv s wh sl w) : pb < w.heap.size := lt_of_block h.2.2.1
theorem LO.kept {w0 w w' : World} {tb g sb wg pb nv : Nat} {s : Nat → Int × Int} {wh : Nat → Int} {sl : Int} {row : Option Nat} (h : LO w0 tb g sb wg pb nv s wh sl w) (hg : w.grownBy w' row) (hr : ∀ k, row = some k → pb < k) : LO w0 tb g sb wg pb nv s wh sl w' := by
  have hlt := h.lt
  obtain ⟨h1, h2, h3, h4, h5, h6, h7, h8, h9, h10⟩ := h
  have ne : ∀ k, k ≤ pb → row ≠ some k := fun k hk e => by have := hr k e; omega
  exact ⟨h1.kept hg (ne g (by omega)), (hg.block sb (by omega) (fun e => ne sb (by omega) e.symm)).trans h2, (hg.block pb hlt (fun e => ne pb (by omega) e.symm)).trans h3, World.rowIs.of_block h4 (hg.block wg (by omega) (fun e => ne wg (by omega) e.symm)), (hg.block tb (by omega) (fun e => ne tb (by omega) e.symm)).trans h5,
    h6.grown hg (by omega) (fun k e => by have := hr k e; omega), h7, h8, h9, h10⟩
theorem LO.below {w0 w w' : World} {tb g sb wg pb nv : Nat} {s : Nat → Int × Int} {wh : Nat → Int} {sl : Int} (h : LO w0 tb g sb wg pb nv s wh sl w) (hb : Below w.heap.size w w') : LO w0 tb g sb wg pb nv s wh sl w' := h.kept (grown_of hb) (fun _ e => by cases e)
theorem LO.setWh {w0 w : World} {tb g sb wg pb nv : Nat} {s : Nat → Int × Int} {wh : Nat → Int} {sl : Int} (h : LO w0 tb g sb wg pb nv s wh sl w) (i : Nat) (x : Int) : LO w0 tb g sb wg pb nv s (put1 wh i x) sl (w.setCell ⟨wg, i, none⟩ (.int .i64 x)) := by
  have hlt := h.lt
  obtain ⟨h1, h2, h3, h4, h5, h6, h7, h8, h9, h10⟩ := h
  have hg := grownBy_set (World.grownBy.refl w (some wg)) ⟨wg, i, none⟩ rfl (.int .i64 x)
  have ne : ∀ k, k ≠ wg → some k ≠ some wg := fun k hk e => hk (Option.some.inj e)
  refine ⟨h1.kept hg (fun e => (by omega : wg ≠ g) (Option.some.inj e)), (hg.block sb (by omega) (ne sb (by omega))).trans h2, (hg.block pb hlt (ne pb (by omega))).trans h3, (World.rowIs.set h4 i _).congr fun j hj => ?_, (hg.block tb (by omega) (ne tb (by omega))).trans h5,
    h6.grown hg (by omega) (fun k e => by cases e; omega), h7, h8, h9, h10⟩
  unfold put1
  by_cases e : j = i <;> simp [e]
theorem two_setCell {w : World} {b : Nat} {v x u : Value} {t : TypeId} (h : w.heap[b]? = some (.cells #[v, x] t (0, 0))) : (w.setCell ⟨b, 1, none⟩ u).heap[b]? = some (.cells #[v, u] t (0, 0)) := by
  have hlt := lt_of_block h
  have h' : w.heap[b] = .cells #[v, x] t (0, 0) := by simpa [Array.getElem?_eq_getElem hlt] using h
  show (w.heap.modify b _)[b]? = _
  rw [Array.getElem?_eq_getElem (by simpa using hlt), Array.getElem_modify_self, h']
  rfl
theorem LO.setSl {w0 w : World} {tb g sb wg pb nv : Nat} {s : Nat → Int × Int} {wh : Nat → Int} {sl : Int} (h : LO w0 tb g sb wg pb nv s wh sl w) (x : Int) : LO w0 tb g sb wg pb nv s wh x (w.setCell ⟨pb, 1, none⟩ (.int .i64 x)) := by
  have hlt := h.lt
  obtain ⟨h1, h2, h3, h4, h5, h6, h7, h8, h9, h10⟩ := h
  have hg := grownBy_set (World.grownBy.refl w (some pb)) ⟨pb, 1, none⟩ rfl (.int .i64 x)
  have ne : ∀ k, k ≠ pb → some k ≠ some pb := fun k hk e => hk (Option.some.inj e)
  exact ⟨h1.kept hg (fun e => (by omega : pb ≠ g) (Option.some.inj e)), (hg.block sb (by omega) (ne sb (by omega))).trans h2, two_setCell h3, World.rowIs.of_block h4 (hg.block wg (by omega) (ne wg (by omega))), (hg.block tb (by omega) (ne tb (by omega))).trans h5,
    h6.grown hg (by omega) (fun k e => by cases e; omega), h7, h8, h9, h10⟩
theorem LO.sc {w0 w : World} {tb g sb wg pb nv : Nat} {s : Nat → Int × Int} {wh : Nat → Int} {sl : Int} (h : LO w0 tb g sb wg pb nv s wh sl w) : w.cell? ⟨sb, 0, none⟩ = some (.slice (some ⟨g, 0, none⟩) nv nv) := cell_of_one h.2.1
theorem LO.pc {w0 w : World} {tb g sb wg pb nv : Nat} {s : Nat → Int × Int} {wh : Nat → Int} {sl : Int} (h : LO w0 tb g sb wg pb nv s wh sl w) : w.cell? ⟨pb, 0, none⟩ = some (.slice (some ⟨wg, 0, none⟩) nv nv) ∧ w.cell? ⟨pb, 1, none⟩ = some (.int .i64 sl) ∧ w.frozen? ⟨pb, 1, none⟩ = false ∧ w.frozen? ⟨pb, 0, none⟩ = false :=
  ⟨blk_cell h.2.2.1 0, blk_cell h.2.2.1 1, by simp [World.frozen?, h.2.2.1], by simp [World.frozen?, h.2.2.1]⟩
theorem LO.wc {w0 w : World} {tb g sb wg pb nv : Nat} {s : Nat → Int × Int} {wh : Nat → Int} {sl : Int} (h : LO w0 tb g sb wg pb nv s wh sl w) (i : Nat) (hi : i < nv) : w.cell? ⟨wg, i, none⟩ = some (.int .i64 (wh i)) ∧ w.frozen? ⟨wg, i, none⟩ = false :=
  ⟨World.rowIs.cell h.2.2.2.1 hi, World.rowIs.frozen h.2.2.2.1 i⟩
theorem RI.lt {base : Nat} {w : World} {v : Value} {xs : List Int} (h : RI base w v xs) {k : Nat} (e : v.ownBlock = some k) : base ≤ k ∧ k < w.heap.size := by
  rcases h.form with ⟨rfl, _⟩ | ⟨g, cap, rfl, h1, h2, _⟩
  · cases e
  · simp [Value.ownBlock] at e
    subst e
    exact ⟨h1, h2⟩
theorem RI.alloc {base : Nat} {w : World} {v : Value} {xs : List Int} (h : RI base w v xs) (o : Obj) : RI base (w.alloc o) v xs := h.below ((Below.refl _ _).alloc (Nat.le_refl _) o)
theorem LO.alloc {w0 w : World} {tb g sb wg pb nv : Nat} {s : Nat → Int × Int} {wh : Nat → Int} {sl : Int} (h : LO w0 tb g sb wg pb nv s wh sl w) (o : Obj) : LO w0 tb g sb wg pb nv s wh sl (w.alloc o) := h.below ((Below.refl _ _).alloc (Nat.le_refl _) o)
theorem RI.nil (base : Nat) (w : World) : RI base w (.slice none 0 0) [] := ⟨by simp, .inl ⟨rfl, rfl⟩⟩
/-- The cell of a variable that a closure bears. -/
def Cel (w : World) (b : Nat) (x : Int) : Prop := w.heap[b]? = some (.cells #[.int .i64 x] 3 (0, 0))
theorem Cel.kept {w w' : World} {b : Nat} {x : Int} {row : Option Nat} (h : Cel w b x) (hg : w.grownBy w' row) (hr : row ≠ some b) : Cel w' b x := (hg.block b (lt_of_block h) (fun e => hr e.symm)).trans h
theorem Cel.below {w w' : World} {b : Nat} {x : Int} (h : Cel w b x) (hb : Below w.heap.size w w') : Cel w' b x := h.kept (grown_of hb) (by simp)
theorem Cel.cell {w : World} {b : Nat} {x : Int} (h : Cel w b x) : w.cell? ⟨b, 0, none⟩ = some (.int .i64 x) := cell_of_one h
theorem Cel.free {w : World} {b : Nat} {x : Int} (h : Cel w b x) : w.frozen? ⟨b, 0, none⟩ = false := free_of_one h
theorem Cel.alloc {w : World} {b : Nat} {x : Int} (h : Cel w b x) (o : Obj) : Cel (w.alloc o) b x := h.below ((Below.refl _ _).alloc (Nat.le_refl _) o)
theorem Cel.new (w : World) (x : Int) : Cel (w.alloc (.cells #[.int .i64 x] 3)) w.heap.size x := blk_new w _
theorem cell_new1 {w : World} {v : Value} {t : TypeId} {n : Nat} (hn : n = w.heap.size) : (w.alloc (.cells #[v] t)).cell? ⟨n, 0, none⟩ = some v := by subst hn; exact blk_cell (blk_new w _) 0
def celI (w : World) (b : Nat) : Int := match w.cell? ⟨b, 0, none⟩ with
  | some (.int _ n) => n
  | _ => 0
theorem Cel.val {w : World} {b : Nat} {x : Int} (h : Cel w b x) : celI w b = x := by unfold celI; rw [h.cell]
/-- Where a slice of numbers lies. -/
theorem RI.form2 {base : Nat} {w : World} {v : Value} {xs : List Int} (h : RI base w v xs) : ∃ A cap, v = .slice A xs.length cap ∧ xs.length ≤ cap ∧ ∀ k (hk : k < xs.length), ∃ g, A = some ⟨g, 0, none⟩ ∧ w.cell? ⟨g, k, none⟩ = some (.int .i64 xs[k]) := by
  rcases h.form with ⟨rfl, rfl⟩ | ⟨g, cap, rfl, _, _, hc, hcell⟩
  · exact ⟨none, 0, rfl, Nat.le_refl _, fun k hk => absurd hk (by simp)⟩
  · exact ⟨_, cap, rfl, hc, fun k hk => ⟨g, rfl, (hcell k hk).1⟩⟩
/-- The whole of it while values get places, one by one. -/
def LW (w0 : World) (tb g sb wg pb nv base : Nat) (s : Nat → Int × Int) (ov : Value) (ord : List Int) (wh : Nat → Int) (sl : Int) (act : Value) (ac : List Int) (wr : World) : Prop :=
  LO w0 tb g sb wg pb nv s wh sl wr ∧ RI base wr act ac ∧ RI (pb + 1) wr ov ord ∧ (∀ k, ov.ownBlock = some k → k < base) ∧ pb < base ∧ base ≤ wr.heap.size
section
variable {w0 w w' : World} {tb g sb wg pb nv base : Nat} {s : Nat → Int × Int} {ov : Value} {ord : List Int} {wh : Nat → Int} {sl : Int} {act : Value} {ac : List Int}
theorem LW.own (h : LW w0 tb g sb wg pb nv base s ov ord wh sl act ac w) {k : Nat} (e : act.ownBlock = some k) : base ≤ k ∧ k < w.heap.size := h.2.1.lt e
theorem LW.app {act' : Value} {ac' : List Int} (h : LW w0 tb g sb wg pb nv base s ov ord wh sl act ac w) (hR : RI base w' act' ac') (hg : w.grownBy w' act.ownBlock) : LW w0 tb g sb wg pb nv base s ov ord wh sl act' ac' w' := by
  have hown : ∀ k, act.ownBlock = some k → base ≤ k := fun k e => (h.own e).1
  obtain ⟨h1, h2, h3, h4, h5, h6⟩ := h
  refine ⟨h1.kept hg (fun k e => by have := hown k e; omega), hR, h3.kept hg ?_, h4, h5, Nat.le_trans h6 hg.size⟩
  cases ho : ov.ownBlock with
  | none => exact .inl rfl
  | some k => exact .inr (fun e => by have := h4 k ho; have := hown k e.symm; omega)
theorem LW.kept {row : Option Nat} (h : LW w0 tb g sb wg pb nv base s ov ord wh sl act ac w) (hg : w.grownBy w' row) (hr : ∀ k, row = some k → base ≤ k ∧ act.ownBlock ≠ some k) : LW w0 tb g sb wg pb nv base s ov ord wh sl act ac w' := by
  obtain ⟨h1, h2, h3, h4, h5, h6⟩ := h
  refine ⟨h1.kept hg (fun k e => by have := (hr k e).1; omega), h2.kept hg ?_, h3.kept hg ?_, h4, h5, Nat.le_trans h6 hg.size⟩
  · cases ho : act.ownBlock with
    | none => exact .inl rfl
    | some k => exact .inr (fun e => (hr k e.symm).2 ho)
  · cases ho : ov.ownBlock with
    | none => exact .inl rfl
    | some k => exact .inr (fun e => by have := h4 k ho; have := (hr k e.symm).1; omega)
theorem LW.below (h : LW w0 tb g sb wg pb nv base s ov ord wh sl act ac w) (hb : Below w.heap.size w w') : LW w0 tb g sb wg pb nv base s ov ord wh sl act ac w' := h.kept (grown_of hb) (fun k e => by cases e)
theorem LW.alloc (h : LW w0 tb g sb wg pb nv base s ov ord wh sl act ac w) (o : Obj) : LW w0 tb g sb wg pb nv base s ov ord wh sl act ac (w.alloc o) := h.below ((Below.refl _ _).alloc (Nat.le_refl _) o)
theorem RI.other {bs : Nat} {v : Value} {xs : List Int} (h : RI bs w v xs) {a : Addr} (hb : a.block < bs) (x : Value) : RI bs (w.setCell a x) v xs := by
  refine h.kept (grownBy_set (World.grownBy.refl w (some a.block)) a rfl x) ?_
  cases ho : v.ownBlock with
  | none => exact .inl rfl
  | some k => exact .inr (fun e => by have := h.lt ho; have := Option.some.inj e; omega)
theorem LW.setWh (h : LW w0 tb g sb wg pb nv base s ov ord wh sl act ac w) (i : Nat) (x : Int) : LW w0 tb g sb wg pb nv base s ov ord (put1 wh i x) sl act ac (w.setCell ⟨wg, i, none⟩ (.int .i64 x)) := by
  obtain ⟨h1, h2, h3, h4, h5, h6⟩ := h
  have hq := h1.2.2.2.2.2.2
  exact ⟨h1.setWh i x, h2.other (by simp; omega) _, h3.other (by simp; omega) _, h4, h5, by simpa using h6⟩
theorem LW.setSl (h : LW w0 tb g sb wg pb nv base s ov ord wh sl act ac w) (x : Int) : LW w0 tb g sb wg pb nv base s ov ord wh x act ac (w.setCell ⟨pb, 1, none⟩ (.int .i64 x)) := by
  obtain ⟨h1, h2, h3, h4, h5, h6⟩ := h
  exact ⟨h1.setSl x, h2.other (by simp; omega) _, h3.other (by simp) _, h4, h5, by simpa using h6⟩
/-- A store into a variable's own block. -/
theorem LW.setVar (h : LW w0 tb g sb wg pb nv base s ov ord wh sl act ac w) {b : Nat} (hb : base ≤ b) (hne : act.ownBlock ≠ some b) (x : Value) : LW w0 tb g sb wg pb nv base s ov ord wh sl act ac (w.setCell ⟨b, 0, none⟩ x) :=
  h.kept (grownBy_set (World.grownBy.refl w (some b)) ⟨b, 0, none⟩ rfl x) (fun k e => by cases e; exact ⟨hb, hne⟩)
end
theorem Cel.set {w : World} {b : Nat} {x : Int} (h : Cel w b x) (y : Int) : Cel (w.setCell ⟨b, 0, none⟩ (.int .i64 y)) b y := one_setCell h
theorem Cel.other {w : World} {b : Nat} {x : Int} (h : Cel w b x) {a : Addr} (hne : a.block ≠ b) (y : Value) : Cel (w.setCell a y) b x := h.kept (grownBy_set (World.grownBy.refl w (some a.block)) a rfl y) (fun e => hne (Option.some.inj e))
theorem step_append_ri {w : World} {ops : Array Oper} {o : Oper} {a : Act} {K : Act → World → Prop} {Q : Exit → Act → World → Prop} {E : Prop} (hgd : o.guard = none) (s x : Operand) (ho : o.op = .call { callee := .builtin .append, args := #[s, x], argTypes := #[47, 47] })
    (base : Nat) (v : Value) (xs : List Int) (hs : a.eval s = v) (hR : RI base w v xs) (g : Nat) (y : Int) (hx : a.eval x = .slice (some ⟨g, 0, none⟩) 1 1) (hy : w.cell? ⟨g, 0, none⟩ = some (.int .i64 y)) (hlen : xs.length ≤ 1000) (hbase : base ≤ w.heap.size)
    (h : ∀ v' w', RI base w' v' (xs ++ [y]) → w.grownBy w' v.ownBlock → (v'.ownBlock = v.ownBlock ∨ v'.ownBlock = some w.heap.size) → K (a.put o.dst v') w') : if Region.wanted o (yielded ops a.tmps) = true then Oper.wp Try.prog o a w K Q else E := by
  have hw : Region.wanted o (yielded ops a.tmps) = true := by simp [Region.wanted, hgd]
  rw [if_pos hw]
  obtain ⟨i0, hi, hz0, hz1, hz2⟩ := info_parts info3
  obtain ⟨v', w', hr, h2, h3, h4, h5⟩ := run_append_own_at (P := Try.prog) w base 47 o.type 3 i0 (.int .i64 0) 1 8 Try.underlying47 hi hz0 hz1 hz2 rfl (by omega) v xs.length (xs.map (Value.int .i64)) hR ⟨g, 0, none⟩ 1 1 [.int .i64 y] rfl
    (fun j u hj => by
      cases j with
      | zero =>
        simp at hj
        subst hj
        exact hy
      | succ j => simp at hj) (fun u hu => by
      simp at hu
      subst hu
      rfl) (by unfold maxLen; omega) (by omega) hbase
  unfold Oper.wp execOp
  simp only [ho, resolve, invoke, builtin, Sem.run_bind, Sem.run_pure, Result.andThen_ok, List.map_toArray, List.map_cons, List.map_nil, hs, hx, hr]
  refine h v' w' ?_ h3 h5
  unfold RI
  simpa using h2
end Go.Proofs.Ythboknkpgbfmoaa.PA
