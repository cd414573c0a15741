/- Reading expressions. -/
import Derived.Test.YtcdgjgoplogiiaaDoorOp
import Derived.Defers
import Derived.Deep.LoopGhost
import Derived.Deep.RegionHeld3
import Derived.Test.YtcdgjgoplogiiaaDoorReg
namespace Go.Proofs.YtcdgjgoplogiiaaDoor.PT
open Go.RowKit Go.Lib
set_option linter.unusedVariables false
set_option linter.unusedSimpArgs false
/-! ### The parser never goes back -/
theorem failp_i (ts : List Tok) (n : Nat) (q : PS) : (failp ts n q).i = q.i := by
  obtain ⟨i, e⟩ := q
  cases e <;> rfl
theorem wantp_i (ts : List Tok) (x : ByteArray) (q : PS) : q.i ≤ (wantp ts x q).i := by
  unfold wantp
  split
  · exact Nat.le_succ _
  · rw [failp_i]; exact Nat.le_refl _
theorem namep_i (ts : List Tok) (q : PS) : q.i ≤ (namep ts q).2.i := by
  unfold namep
  split
  · exact Nat.le_succ _
  · show q.i ≤ (failp ts 2 q).i
    rw [failp_i]; exact Nat.le_refl _
theorem opsp_i (ts : List Tok) (rec : Int → PS → Tree × PS) (hr : ∀ t q, q.i ≤ (rec t q).2.i) (tight : Int) (f : Nat) (e : Tree) (q : PS) : q.i ≤ (opsp ts rec tight f e q).2.i := by
  induction f generalizing e q with
  | zero => exact Nat.le_refl _
  | succ f ih =>
    unfold opsp
    split
    · exact Nat.le_refl _
    · split
      · exact Nat.le_refl _
      · split
        · exact Nat.le_refl _
        · exact Nat.le_trans (Nat.le_trans (Nat.le_succ q.i) (hr _ (adv q))) (ih _ _)
theorem unaryp_i (ts : List Tok) (rec : Int → PS → Tree × PS) (hr : ∀ t q, q.i ≤ (rec t q).2.i) (q : PS) : q.i ≤ (unaryp ts rec q).2.i := by
  unfold unaryp
  split
  · exact Nat.le_trans (Nat.le_succ q.i) (hr _ (adv q))
  · split
    · exact Nat.le_trans (Nat.le_trans (Nat.le_succ q.i) (hr _ (adv q))) (wantp_i _ _ _)
    · split
      · simp only
        exact Nat.le_trans (Nat.le_trans (Nat.le_succ q.i) (wantp_i ts _ (adv q))) (Nat.le_trans (hr _ _) (Nat.le_trans (wantp_i _ _ _) (Nat.le_trans (hr _ _) (Nat.le_trans (wantp_i _ _ _) (Nat.le_trans (hr _ _) (wantp_i _ _ _))))))
      · split
        · exact Nat.le_succ _
        · split
          · exact Nat.le_trans (namep_i ts q) (Nat.le_trans (Nat.le_succ _) (Nat.le_trans (hr 0 (adv (namep ts q).2)) (wantp_i _ _ _)))
          · exact namep_i ts q
theorem exprp_i (ts : List Tok) (d : Nat) (t : Int) (q : PS) : q.i ≤ (exprp ts d t q).2.i := by
  induction d generalizing t q with
  | zero =>
    show q.i ≤ (failp ts 6 q).i
    rw [failp_i]; exact Nat.le_refl _
  | succ d ih =>
    unfold exprp
    split
    · exact Nat.le_refl _
    · exact Nat.le_trans (unaryp_i ts _ (fun t q => ih t q) q) (opsp_i ts _ (fun t q => ih t q) t _ _ _)
theorem opsp_err (ts : List Tok) (rec : Int → PS → Tree × PS) (tight : Int) (f : Nat) (e : Tree) (q : PS) (h : q.e.isSome = true) : opsp ts rec tight f e q = (e, q) := by
  cases f with
  | zero => rfl
  | succ f => unfold opsp; rw [if_pos h]
/-! ### What stays -/
theorem At.gb {t : Tree} {P : Nat → Prop} {w w' : World} {e : EV} {b g c : Nat} {ts : List Tok} {q : PS} {dp : Nat} (h : At t P w e) (hm : PM w b g c ts q dp) (hg : w.grownBy w' (some b)) : At t P w' e := by
  refine h.stay (fun _ h _ => h) fun g' cs _ hc => hg.block g' (lt_heap hc) ?_
  intro e
  obtain ⟨⟨ev, hb, _⟩, _⟩ := hm
  have := Option.some.inj e
  subst this
  rw [hb] at hc
  injection hc with hc; injection hc with _ hc _
  exact absurd hc (by decide)
theorem At.off {t : Tree} {P : Nat → Prop} {w : World} {e : EV} (h : At t P w e) {a : Addr} (ha : ¬ P a.block) (v : Value) : At t P (w.setCell a v) e :=
  h.mono (fun _ h _ => h) fun g hg _ => Below.heap_setCell w a v g (fun e => ha (e ▸ hg))
/-- A block of another type is as it was. -/
theorem blk_pm {w w' : World} {b g c : Nat} {ts : List Tok} {q : PS} {dp : Nat} (hm : PM w b g c ts q dp) (hg : w.grownBy w' (some b)) {g' : Nat} {cs : Array Value} {E : TypeId} (h : w.heap[g']? = some (.cells cs E (0, 0))) (hE : E ≠ TP) : w'.heap[g']? = some (.cells cs E (0, 0)) := by
  refine (hg.block g' (lt_heap h) ?_).trans h
  intro e
  obtain ⟨⟨ev, hb, _⟩, _⟩ := hm
  have := Option.some.inj e
  subst this
  rw [hb] at h
  injection h with h; injection h with _ h _
  exact hE h.symm
/-- What reading an expression gives. -/
def EPost (w : World) (b g c : Nat) (ts : List Tok) (r : Tree × PS) (dp : Nat) (e : Ending) (w' : World) : Prop :=
  ∃ x : EV, e = .returned x.val ∧ At r.1 (fun k => w.heap.size ≤ k) w' x ∧ PT w b g c ts r.2 dp w'
def ExprP (d : Nat) : Prop := ∀ (tight : Int) (b g c : Nat) (ts : List Tok) (q : PS) (dp : Nat) (w : World), 0 ≤ tight → tight ≤ 9 → dp + d = 40 → Toks ts → PM w b g c ts q dp →
  Calls Tryd.prog 82 #[.pointer (some ⟨b, 0, none⟩), .int .i64 tight] w (EPost w b g c ts (exprp ts d tight q) dp)
def UnaryP (d : Nat) : Prop := ∀ (b g c : Nat) (ts : List Tok) (q : PS) (dp : Nat) (w : World), dp + d = 40 → Toks ts → PM w b g c ts q dp →
  Calls Tryd.prog 105 #[.pointer (some ⟨b, 0, none⟩)] w (EPost w b g c ts (unaryp ts (exprp ts d) q) dp)
/-- The deferred step up, behind an expression's end. -/
abbrev TPp : TypeId := 80
abbrev z31 : Array Value := #[.int .i64 0, .int .i64 0, .string ⟨#[]⟩, .int .u64 0, .slice none 0 0, .int .i64 0]
/-- An expression stored into its variable. -/
def set6 (w : World) (R : Nat) (x : EV) : World :=
  (((((w.setCell ⟨R, 0, none⟩ (.int .i64 x.k)).setCell ⟨R, 1, none⟩ (.int .i64 x.o)).setCell ⟨R, 2, none⟩ (.string x.s)).setCell ⟨R, 3, none⟩ (.int .u64 x.v)).setCell ⟨R, 4, none⟩ (.slice x.A x.n x.c)).setCell ⟨R, 5, none⟩ (.int .i64 x.p)
theorem set6_far (w : World) (R : Nat) (x : EV) (i : Nat) (h : i ≠ R) : (set6 w R x).heap[i]? = w.heap[i]? := by
  unfold set6
  rw [Below.heap_setCell _ _ _ _ h, Below.heap_setCell _ _ _ _ h, Below.heap_setCell _ _ _ _ h, Below.heap_setCell _ _ _ _ h, Below.heap_setCell _ _ _ _ h, Below.heap_setCell _ _ _ _ h]
theorem set6_blk {w : World} {R : Nat} {y : EV} (h : w.heap[R]? = some (.cells y.cells.toArray TE (0, 0))) (x : EV) : (set6 w R x).heap[R]? = some (.cells x.cells.toArray TE (0, 0)) := by
  unfold set6
  exact blk_put (blk_put (blk_put (blk_put (blk_put (blk_put h 0 _ rfl) 1 _ rfl) 2 _ rfl) 3 _ rfl) 4 _ rfl) 5 _ rfl
theorem set6_gb {w w1 : World} {b : Option Nat} (h : w.grownBy w1 b) {R : Nat} (hR : w.heap.size ≤ R) (x : EV) : w.grownBy (set6 w1 R x) b := by
  unfold set6
  exact gb_far (gb_far (gb_far (gb_far (gb_far (gb_far h hR _) hR _) hR _) hR _) hR _) hR _
/-- The parser stays where a block of expressions changes. -/
theorem PM.far {w w' : World} {b g c : Nat} {ts : List Tok} {q : PS} {dp R : Nat} {cs : Array Value} (h : PM w b g c ts q dp) (hR : w.heap[R]? = some (.cells cs TE (0, 0))) (hk : ∀ i, i ≠ R → w'.heap[i]? = w.heap[i]?) : PM w' b g c ts q dp := by
  have ne : ∀ {i : Nat} {ds : Array Value} {E : TypeId}, w.heap[i]? = some (.cells ds E (0, 0)) → E ≠ TE → w'.heap[i]? = w.heap[i]? := by
    intro i ds E hi hE
    refine hk i ?_
    rintro rfl
    rw [hR] at hi
    injection hi with hi; injection hi with _ hi _
    exact hE hi.symm
  obtain ⟨⟨ev, h1, he⟩, ⟨cur, h2, h5⟩, h3, h4⟩ := h
  refine ⟨⟨ev, (ne h1 (by decide)).trans h1, ?_⟩, ⟨cur, (ne h2 (by decide)).trans h2, h5⟩, h3, h4⟩
  unfold EO at he ⊢
  split
  · rename_i e; rw [e] at he; exact he
  · rename_i x e; rw [e] at he
    obtain ⟨g', a1, a2, a3⟩ := he
    exact ⟨g', a1, a2, (ne a3 (by decide)).trans a3⟩
theorem PT.set6 {w w1 : World} {b g c : Nat} {ts : List Tok} {q : PS} {dp R : Nat} {cs : Array Value} (h : PT w b g c ts q dp w1) (hR : w1.heap[R]? = some (.cells cs TE (0, 0))) (hl : w.heap.size ≤ R) (x : EV) : PT w b g c ts q dp (set6 w1 R x) :=
  ⟨h.1.far hR (set6_far w1 R x), set6_gb h.2 hl x⟩
/-- Behind a function that reads an expression the parser is a step up again. -/
theorem expr_end {b g c : Nat} {ts : List Tok} {q' : PS} {dp : Nat} {w wf : World} {x : EV} {t : Tree} {tmps : Array Value} (hdp : dp ≤ 40) (hp : PT w b g c ts q' (dp + 1) wf)
    (hX : wf.heap[w.heap.size]? = some (.cells #[.pointer (some ⟨b, 0, none⟩)] TPp (0, 0))) (hR : wf.heap[w.heap.size + 1]? = some (.cells x.cells.toArray TE (0, 0)))
    (hat : At t (fun k => w.heap.size ≤ k) wf x) (h4 : tmps.getD 4 undef = .pointer (some ⟨w.heap.size + 1, 0, none⟩)) :
    bodyPostD Tryd.prog Tryd.f82 (EPost w b g c ts (t, q') dp) Exit.ret ⟨tmps, [{ target := .fn (.func 104) #[.pointer (some ⟨w.heap.size, 0, none⟩)], args := #[] }]⟩ wf := by
  refine leaves_cons (f := 104) (args := #[.pointer (some ⟨w.heap.size, 0, none⟩)]) (by simp) (by simp [go_sem]) ?_
  refine (up_calls b g c w.heap.size ts q' dp hdp _ wf hp.1 ((blk_cell hX 0).trans rfl)).mono ?_
  rintro e u' w'' ⟨rfl, rfl, hp2⟩
  have hR2 := blk_pm hp.1 hp2.2 hR (by decide)
  have r0 : w''.cell? ⟨w.heap.size + 1, 0, none⟩ = some (.int .i64 x.k) := (blk_cell hR2 0).trans rfl
  have r1 : w''.cell? ⟨w.heap.size + 1, 1, none⟩ = some (.int .i64 x.o) := (blk_cell hR2 1).trans rfl
  have r2 : w''.cell? ⟨w.heap.size + 1, 2, none⟩ = some (.string x.s) := (blk_cell hR2 2).trans rfl
  have r3 : w''.cell? ⟨w.heap.size + 1, 3, none⟩ = some (.int .u64 x.v) := (blk_cell hR2 3).trans rfl
  have r4 : w''.cell? ⟨w.heap.size + 1, 4, none⟩ = some (.slice x.A x.n x.c) := (blk_cell hR2 4).trans rfl
  have r5 : w''.cell? ⟨w.heap.size + 1, 5, none⟩ = some (.int .i64 x.p) := (blk_cell hR2 5).trans rfl
  have hm : EPost w b g c ts (t, q') dp (.returned x.val) w'' := ⟨x, rfl, hat.gb hp.1 hp2.2, hp.trans hp2⟩
  rw [Array.getD_eq_getD_getElem?] at h4
  simpa [Leaves, settle, results, Tryd.results82, go_sem, h4, r0, r1, r2, r3, r4, r5] using hm
set_option maxRecDepth 100000 in
set_option maxHeartbeats 4000000 in
theorem expr_zero (tight : Int) (b g c : Nat) (ts : List Tok) (q : PS) (dp : Nat) (w : World) (hdp : dp ≤ 40) (hts : Toks ts) (h : PM w b g c ts q dp) (hz : (entp ts q dp).e.isNone = false) :
    Calls Tryd.prog 82 #[.pointer (some ⟨b, 0, none⟩), .int .i64 tight] w (EPost w b g c ts (.lit 0 0, entp ts q dp) dp) := by
  obtain ⟨w0, hw0⟩ : ∃ w0, w0 = (w.alloc (.cells #[.pointer (some ⟨b, 0, none⟩)] TPp)).alloc (.cells z31 TE) := ⟨_, rfl⟩
  have hp0 : PT w b g c ts q dp w0 := by rw [hw0]; exact (PT.alloc ⟨h, gb_refl _ _⟩ _).alloc _
  have hX : w0.heap[w.heap.size]? = some (.cells #[.pointer (some ⟨b, 0, none⟩)] TPp (0, 0)) := by rw [hw0]; exact blk_alloc (blk_new _ _) _
  have hR : w0.heap[w.heap.size + 1]? = some (.cells z31 TE (0, 0)) := by
    rw [hw0]
    have := blk_new (w.alloc (.cells #[.pointer (some ⟨b, 0, none⟩)] TPp)) (.cells z31 TE)
    simpa using this
  have he := enter_calls b g c ts q dp hdp hts w0 hp0.1
  rw [hz] at he
  have HE := Lib.hid he
  have HW := Lib.hid hw0
  have HP0 := Lib.hid hp0
  have HX := Lib.hid hX
  have HR := Lib.hid hR
  have HT := Lib.hid hts
  have c0 : w0.cell? ⟨w.heap.size, 0, none⟩ = some (.pointer (some ⟨b, 0, none⟩)) := (blk_cell hX 0).trans rfl
  clear he hw0 hp0 hX hR hts h hz
  go_enter_defers Tryd.func82, Tryd.ntmps82
  go_wp2_with fail
  rw [← HW.out]
  refine HE.out.mono ?_
  rintro e w1 ⟨rfl, hp1⟩
  have hX1 := blk_pm HP0.out.1 hp1.2 HX.out (by decide)
  have hR1 := blk_pm HP0.out.1 hp1.2 HR.out (by decide)
  have HX1 := Lib.hid hX1
  have HR1 := Lib.hid hR1
  have HP1 := Lib.hid hp1
  have d0 : w1.cell? ⟨w.heap.size + 1, 0, none⟩ = some (.int .i64 0) := (blk_cell hR1 0).trans rfl
  have d1 : w1.cell? ⟨w.heap.size + 1, 1, none⟩ = some (.int .i64 0) := (blk_cell hR1 1).trans rfl
  have d2 : w1.cell? ⟨w.heap.size + 1, 2, none⟩ = some (.string ⟨#[]⟩) := (blk_cell hR1 2).trans rfl
  have d3 : w1.cell? ⟨w.heap.size + 1, 3, none⟩ = some (.int .u64 0) := (blk_cell hR1 3).trans rfl
  have d4 : w1.cell? ⟨w.heap.size + 1, 4, none⟩ = some (.slice none 0 0) := (blk_cell hR1 4).trans rfl
  have d5 : w1.cell? ⟨w.heap.size + 1, 5, none⟩ = some (.int .i64 0) := (blk_cell hR1 5).trans rfl
  have f0 : w1.frozen? ⟨w.heap.size + 1, 0, none⟩ = false := blk_frozen hR1 0
  have f1 : w1.frozen? ⟨w.heap.size + 1, 1, none⟩ = false := blk_frozen hR1 1
  have f2 : w1.frozen? ⟨w.heap.size + 1, 2, none⟩ = false := blk_frozen hR1 2
  have f3 : w1.frozen? ⟨w.heap.size + 1, 3, none⟩ = false := blk_frozen hR1 3
  have f4 : w1.frozen? ⟨w.heap.size + 1, 4, none⟩ = false := blk_frozen hR1 4
  have f5 : w1.frozen? ⟨w.heap.size + 1, 5, none⟩ = false := blk_frozen hR1 5
  clear hX1 hR1 hp1
  go_wp2
  refine expr_end (wf := set6 w1 (w.heap.size + 1) ⟨0, 0, ⟨#[]⟩, 0, none, 0, 0, 0⟩) (x := ⟨0, 0, ⟨#[]⟩, 0, none, 0, 0, 0⟩) hdp ((HP0.out.trans HP1.out).set6 HR1.out (Nat.le_succ _) _) ((set6_far _ _ _ _ (by omega)).trans HX1.out) (set6_blk (y := ⟨0, 0, ⟨#[]⟩, 0, none, 0, 0, 0⟩) HR1.out _) rfl rfl
theorem At.pos {t : Tree} {P : Nat → Prop} {w : World} {e : EV} (h : At t P w e) : e.p = t.pos := by
  cases t with
  | lit v p => rw [show e = _ from h]; rfl
  | name s p => rw [show e = _ from h]; rfl
  | cell s a p => obtain ⟨_, _, _, _, _, rfl, _⟩ := h; rfl
  | not a p => obtain ⟨_, _, _, _, _, rfl, _⟩ := h; rfl
  | bin o a b p => obtain ⟨_, _, _, _, _, _, rfl, _⟩ := h; rfl
  | pick a b d p => obtain ⟨_, _, _, _, _, _, _, rfl, _⟩ := h; rfl
theorem cells6 {w : World} {R : Nat} {x : EV} (h : w.heap[R]? = some (.cells x.cells.toArray TE (0, 0))) :
    w.cell? ⟨R, 0, none⟩ = some (.int .i64 x.k) ∧ w.cell? ⟨R, 1, none⟩ = some (.int .i64 x.o) ∧ w.cell? ⟨R, 2, none⟩ = some (.string x.s) ∧ w.cell? ⟨R, 3, none⟩ = some (.int .u64 x.v) ∧ w.cell? ⟨R, 4, none⟩ = some (.slice x.A x.n x.c) ∧ w.cell? ⟨R, 5, none⟩ = some (.int .i64 x.p) :=
  ⟨(blk_cell h 0).trans rfl, (blk_cell h 1).trans rfl, (blk_cell h 2).trans rfl, (blk_cell h 3).trans rfl, (blk_cell h 4).trans rfl, (blk_cell h 5).trans rfl⟩
theorem free6 {w : World} {R : Nat} {cs : Array Value} (h : w.heap[R]? = some (.cells cs TE (0, 0))) :
    w.frozen? ⟨R, 0, none⟩ = false ∧ w.frozen? ⟨R, 1, none⟩ = false ∧ w.frozen? ⟨R, 2, none⟩ = false ∧ w.frozen? ⟨R, 3, none⟩ = false ∧ w.frozen? ⟨R, 4, none⟩ = false ∧ w.frozen? ⟨R, 5, none⟩ = false :=
  ⟨blk_frozen h 0, blk_frozen h 1, blk_frozen h 2, blk_frozen h 3, blk_frozen h 4, blk_frozen h 5⟩
abbrev ze : EV := ⟨0, 0, ⟨#[]⟩, 0, none, 0, 0, 0⟩
theorem cell_al {w : World} {a : Addr} {v : Value} (h : w.cell? a = some v) (o : Obj) : (w.alloc o).cell? a = some v :=
  (((Below.refl w.heap.size w).alloc (Nat.le_refl _) o).cell (World.block_lt_of_cell? w a h)).trans h
theorem keepX {w : World} {x R : Nat} {v a0 a1 a2 a3 a4 a5 : Value} (hne : x ≠ R) (h : w.cell? ⟨x, 0, none⟩ = some v) :
    ((((((w.setCell ⟨R, 0, none⟩ a0).setCell ⟨R, 1, none⟩ a1).setCell ⟨R, 2, none⟩ a2).setCell ⟨R, 3, none⟩ a3).setCell ⟨R, 4, none⟩ a4).setCell ⟨R, 5, none⟩ a5).cell? ⟨x, 0, none⟩ = some v := by
  have ne : ∀ i, (⟨R, i, none⟩ : Addr) ≠ ⟨x, 0, none⟩ := fun i e => hne (congrArg Addr.block e).symm
  rw [World.cell?_setCell_other _ _ _ _ (ne 5), World.cell?_setCell_other _ _ _ _ (ne 4), World.cell?_setCell_other _ _ _ _ (ne 3), World.cell?_setCell_other _ _ _ _ (ne 2), World.cell?_setCell_other _ _ _ _ (ne 1), World.cell?_setCell_other _ _ _ _ (ne 0)]
  exact h
theorem keepP {w : World} {R : Nat} {z : EV} {a0 a1 a2 a3 a4 a5 : Value} (h : w.heap[R]? = some (.cells z.cells.toArray TE (0, 0))) :
    ((((((w.setCell ⟨R, 0, none⟩ a0).setCell ⟨R, 1, none⟩ a1).setCell ⟨R, 2, none⟩ a2).setCell ⟨R, 3, none⟩ a3).setCell ⟨R, 4, none⟩ a4).setCell ⟨R, 5, none⟩ a5).cell? ⟨R, 5, none⟩ = some a5 :=
  (blk_cell (cs := #[a0, a1, a2, a3, a4, a5]) (blk_put (blk_put (blk_put (blk_put (blk_put (blk_put h 0 _ rfl) 1 _ rfl) 2 _ rfl) 3 _ rfl) 4 _ rfl) 5 _ rfl) 5).trans rfl
/-- Operators are read: what has been read lies in block R. -/
structure LI (w : World) (b g c : Nat) (ts : List Tok) (dp R : Nat) (rec : Int → PS → Tree × PS) (tight : Int) (res : Tree × PS) (f : Nat) (e : Tree) (y : EV) (q : PS) (wr : World) : Prop where
  pt : PT w b g c ts q (dp + 1) wr
  X : wr.heap[w.heap.size]? = some (.cells #[.pointer (some ⟨b, 0, none⟩)] TPp (0, 0))
  R4 : wr.heap[w.heap.size + 1]? = some (.cells ze.cells.toArray TE (0, 0))
  R5 : wr.heap[R]? = some (.cells y.cells.toArray TE (0, 0))
  h5 : w.heap.size + 1 < R
  at' : At e (fun k => w.heap.size + 1 < k ∧ k ≠ R) wr y
  eq : res = opsp ts rec tight f e q
  fu : ts.length ≤ q.i + f
theorem LI.fpos {w : World} {b g c : Nat} {ts : List Tok} {dp R : Nat} {rec : Int → PS → Tree × PS} {tight : Int} {res : Tree × PS} {f : Nat} {e : Tree} {y : EV} {q : PS} {wr : World} (h : LI w b g c ts dp R rec tight res f e y q wr) : ∃ f', f = f' + 1 := by
  have h1 := h.pt.1.at'
  have h2 := h.fu
  exact ⟨f - 1, by omega⟩
theorem LI.below {w : World} {b g c : Nat} {ts : List Tok} {dp R : Nat} {rec : Int → PS → Tree × PS} {tight : Int} {res : Tree × PS} {f : Nat} {e : Tree} {y : EV} {q : PS} {wr w' : World} (h : LI w b g c ts dp R rec tight res f e y q wr) (hb : Below wr.heap.size wr w') : LI w b g c ts dp R rec tight res f e y q w' :=
  ⟨⟨h.pt.1.below hb, gb_trans h.pt.2 (gb_below hb _)⟩, blk_below h.X hb, blk_below h.R4 hb, blk_below h.R5 hb, h.h5, h.at'.below hb, h.eq, h.fu⟩
/-- The last operator has been read. -/
theorem LI.stop {w : World} {b g c : Nat} {ts : List Tok} {dp R : Nat} {rec : Int → PS → Tree × PS} {tight : Int} {res : Tree × PS} {f : Nat} {e : Tree} {y : EV} {q : PS} {wr : World} {tmps : Array Value} (h : LI w b g c ts dp R rec tight res f e y q wr) (hdp : dp ≤ 40) (hres : res = (e, q)) (h4 : tmps.getD 4 undef = .pointer (some ⟨w.heap.size + 1, 0, none⟩)) :
    bodyPostD Tryd.prog Tryd.f82 (EPost w b g c ts res dp) Exit.ret ⟨tmps, [{ target := .fn (.func 104) #[.pointer (some ⟨w.heap.size, 0, none⟩)], args := #[] }]⟩ (set6 wr (w.heap.size + 1) y) := by
  subst hres
  refine expr_end hdp (h.pt.set6 h.R4 (Nat.le_succ _) y) ((set6_far _ _ _ _ (by omega)).trans h.X) (set6_blk h.R4 y) ?_ h4
  exact h.at'.stay (fun k hk _ => by have := hk.1; omega) fun k cs hk hc => set6_far _ _ _ _ (by have := hk.1; omega)
theorem opp_k {ts : List Tok} {q : PS} {o : Nat} (h : opp ts q = some o) : (nxt ts q).k ≠ 0 := by
  intro h0
  unfold opp at h
  rw [h0] at h
  cases h
theorem LI.unf {w : World} {b g c : Nat} {ts : List Tok} {dp R : Nat} {rec : Int → PS → Tree × PS} {tight : Int} {res : Tree × PS} {f : Nat} {e : Tree} {y : EV} {q : PS} {wr : World} (h : LI w b g c ts dp R rec tight res f e y q wr) (hq : q.e = none) :
    ∃ f', f = f' + 1 ∧ (∀ o, opp ts q = some o → res = if tightOf o < tight then (e, q) else opsp ts rec tight f' (.bin o e (rec (tightOf o + 1) (adv q)).1 e.pos) (rec (tightOf o + 1) (adv q)).2) ∧ (opp ts q = none → res = (e, q)) := by
  obtain ⟨f', rfl⟩ := h.fpos
  refine ⟨f', rfl, fun o ho => ?_, fun ho => ?_⟩
  · rw [h.eq]; simp only [opsp]; rw [hq, if_neg (by simp), ho]
  · rw [h.eq]; simp only [opsp]; rw [hq, if_neg (by simp), ho]
theorem set6_size (w : World) (R : Nat) (x : EV) : (set6 w R x).heap.size = w.heap.size := by simp [set6, World.setCell]
/-- An operator, and what stands behind it, has been read. -/
theorem LI.next {w w5 W5 w6 w7 : World} {b g c : Nat} {ts : List Tok} {dp R : Nat} {rec : Int → PS → Tree × PS} {tight : Int} {res : Tree × PS} {f : Nat} {e : Tree} {z y : EV} {q : PS} {o : Nat}
    (h : LI w b g c ts dp R rec tight res (f + 1) e z q w5) (hs : res = if tightOf o < tight then (e, q) else opsp ts rec tight f (.bin o e (rec (tightOf o + 1) (adv q)).1 e.pos) (rec (tightOf o + 1) (adv q)).2) (ht : ¬ tightOf o < tight)
    (hm : (adv q).i ≤ (rec (tightOf o + 1) (adv q)).2.i) (hp : PT w b g c ts (adv q) (dp + 1) W5)
    (hX : W5.heap[w.heap.size]? = some (.cells #[.pointer (some ⟨b, 0, none⟩)] TPp (0, 0))) (h4 : W5.heap[w.heap.size + 1]? = some (.cells ze.cells.toArray TE (0, 0))) (h5 : W5.heap[R]? = some (.cells z.cells.toArray TE (0, 0)))
    (ha : At e (fun k => w.heap.size + 1 < k ∧ k ≠ R) W5 z) (hb : Below W5.heap.size W5 w6) (hp7 : PT w6 b g c ts (rec (tightOf o + 1) (adv q)).2 (dp + 1) w7) (ha7 : At (rec (tightOf o + 1) (adv q)).1 (fun k => w6.heap.size ≤ k) w7 y) :
    LI w b g c ts dp R rec tight res f (.bin o e (rec (tightOf o + 1) (adv q)).1 e.pos) ⟨3, o, ⟨#[]⟩, 0, some ⟨w7.heap.size, 0, none⟩, 2, 2, z.p⟩ (rec (tightOf o + 1) (adv q)).2 ((set6 w7 R ⟨3, o, ⟨#[]⟩, 0, some ⟨w7.heap.size, 0, none⟩, 2, 2, z.p⟩).alloc (.cells (z.cells ++ y.cells).toArray TE)) := by
  have pm6 := hp.1.below hb
  have X7 := blk_pm pm6 hp7.2 (blk_below hX hb) (by decide)
  have R47 := blk_pm pm6 hp7.2 (blk_below h4 hb) (by decide)
  have R57 := blk_pm pm6 hp7.2 (blk_below h5 hb) (by decide)
  have a7 := (ha.below hb).gb pm6 hp7.2
  have pt7 : PT w b g c ts (rec (tightOf o + 1) (adv q)).2 (dp + 1) w7 := PT.trans ⟨pm6, gb_trans hp.2 (gb_below hb _)⟩ hp7
  have l5 := h.h5
  have l6 := lt_heap (blk_below h5 hb)
  have l7 := lt_heap R57
  have hpos := ha.pos
  refine ⟨(pt7.set6 R57 (by omega) _).alloc _, blk_alloc ((set6_far _ _ _ _ (by omega)).trans X7) _, blk_alloc ((set6_far _ _ _ _ (by omega)).trans R47) _, blk_alloc (set6_blk R57 _) _, l5, ?_, by rw [hs, if_neg ht], ?_⟩
  · refine ⟨w7.heap.size, 2, z, y, ⟨by omega, by omega⟩, Nat.le_refl _, by rw [hpos], ?_, ?_, ?_⟩
    · have := blk_new (set6 w7 R ⟨3, o, ⟨#[]⟩, 0, some ⟨w7.heap.size, 0, none⟩, 2, 2, z.p⟩) (.cells (z.cells ++ y.cells).toArray TE)
      rw [set6_size] at this
      simpa using Row.of this
    · exact (a7.mono (fun _ hk _ => hk) fun k hk _ => set6_far _ _ _ _ hk.2).alloc _
    · exact (ha7.mono (P' := fun k => w.heap.size + 1 < k ∧ k ≠ R) (fun k hk _ => ⟨by omega, by omega⟩) fun k hk _ => set6_far _ _ _ _ (by omega)).alloc _
  · have h1 := h.fu
    have h2 : (adv q).i = q.i + 1 := rfl
    omega
set_option maxRecDepth 100000 in
set_option maxHeartbeats 8000000 in
theorem expr_succ (d : Nat) (hr : ExprP d) (hu : UnaryP d) : ExprP (d + 1) := by
  intro tight b g c ts q dp w ht0 ht9 hdp hts h
  have hen : entp ts q dp = q := by unfold entp; rw [if_neg (by omega)]
  by_cases he : q.e.isSome = true
  · have e1 : exprp ts (d + 1) tight q = (.lit 0 0, entp ts q dp) := by rw [hen]; unfold exprp; rw [if_pos he]
    rw [e1]
    exact expr_zero tight b g c ts q dp w (by omega) hts h (by rw [hen]; cases hq : q.e <;> simp_all)
  · obtain ⟨res, hres⟩ : ∃ res, res = exprp ts (d + 1) tight q := ⟨_, rfl⟩
    rw [← hres]
    have HEQ : Hid (res = opsp ts (exprp ts d) tight ts.length (unaryp ts (exprp ts d) q).1 (unaryp ts (exprp ts d) q).2) := Lib.hid (by rw [hres]; unfold exprp; rw [if_neg he])
    obtain ⟨w0, hw0⟩ : ∃ w0, w0 = (w.alloc (.cells #[.pointer (some ⟨b, 0, none⟩)] TPp)).alloc (.cells z31 TE) := ⟨_, rfl⟩
    have hp0 : PT w b g c ts q dp w0 := by rw [hw0]; exact (PT.alloc ⟨h, gb_refl _ _⟩ _).alloc _
    have hX : w0.heap[w.heap.size]? = some (.cells #[.pointer (some ⟨b, 0, none⟩)] TPp (0, 0)) := by rw [hw0]; exact blk_alloc (blk_new _ _) _
    have hR : w0.heap[w.heap.size + 1]? = some (.cells z31 TE (0, 0)) := by
      rw [hw0]
      have := blk_new (w.alloc (.cells #[.pointer (some ⟨b, 0, none⟩)] TPp)) (.cells z31 TE)
      simpa using this
    have hen2 := enter_calls b g c ts q dp (by omega) hts w0 hp0.1
    rw [hen, show q.e.isNone = true by cases hq : q.e <;> simp_all] at hen2
    have HE := Lib.hid hen2
    have HW := Lib.hid hw0
    have HP0 := Lib.hid hp0
    have HX := Lib.hid hX
    have HR := Lib.hid hR
    have HT := Lib.hid hts
    have HREC := Lib.hid hr
    have HUN := Lib.hid hu
    clear hen2 hw0 hp0 hX hR hts h he hen hres hr hu
    go_enter_defers Tryd.func82, Tryd.ntmps82
    go_wp2_with fail
    rw [← HW.out]
    refine HE.out.mono ?_
    rintro e w1 ⟨rfl, hp1⟩
    have HX1 := Lib.hid (blk_pm HP0.out.1 hp1.2 HX.out (by decide))
    have HR1 := Lib.hid (blk_pm HP0.out.1 hp1.2 HR.out (by decide))
    have HP1 := Lib.hid (HP0.out.trans hp1)
    have x1 : w1.cell? ⟨w.heap.size, 0, none⟩ = some (.pointer (some ⟨b, 0, none⟩)) := (blk_cell HX1.out 0).trans rfl
    clear hp1
    go_wp2_with (go_at_call 105; refine (HUN.out b g c ts q (dp + 1) w1 (by omega) HT.out HP1.out.1).mono ?_; rintro e w2 ⟨y, rfl, hat, hp2⟩)
    have HL0 : Hid (LI w b g c ts dp w2.heap.size (exprp ts d) tight res ts.length (unaryp ts (exprp ts d) q).1 y (unaryp ts (exprp ts d) q).2 (w2.alloc (.cells y.cells.toArray TE))) := Lib.hid (by
      have a1 := lt_heap (blk_pm HP1.out.1 hp2.2 HR1.out (by decide))
      have a2 := lt_heap HR1.out
      exact ⟨((HP1.out.trans hp2).alloc _), blk_alloc (blk_pm HP1.out.1 hp2.2 HX1.out (by decide)) _, blk_alloc (blk_pm HP1.out.1 hp2.2 HR1.out (by decide)) _, blk_new _ _, a1,
        (hat.mono (P' := fun k => w.heap.size + 1 < k ∧ k ≠ w2.heap.size) (fun k hk hl => ⟨by omega, by omega⟩) (fun _ _ _ => rfl)).alloc _, HEQ.out, by omega⟩)
    clear hat hp2 x1
    go_loopg [7] ts.length (fun f _ wr => ∃ (e : Tree) (y : EV) (q1 : PS), Hid (LI w b g c ts dp w2.heap.size (exprp ts d) tight res f e y q1 wr))
    case atStart => exact ⟨_, _, _, HL0⟩
    case round =>
      obtain ⟨e, z, q1, HK⟩ := hrel
      have x0 : wr.cell? ⟨w.heap.size, 0, none⟩ = some (.pointer (some ⟨b, 0, none⟩)) := (blk_cell HK.out.X 0).trans rfl
      obtain ⟨y0, y1, y2, y3, y4, y5⟩ := cells6 HK.out.R5
      obtain ⟨k0, k1, k2, k3, k4, k5⟩ := free6 HK.out.R4
      obtain ⟨v0, v1, v2, v3, v4, v5⟩ := cells6 (x := ze) HK.out.R4
      rcases HK.out.pt.1.errc with ⟨e1, c2⟩ | ⟨e1, g', c2⟩
      · obtain ⟨f', rfl, hsome, hnone⟩ := HK.out.unf e1
        have hop := op_calls b g c ts q1 (dp + 1) HT.out wr HK.out.pt.1
        have hlen := HT.out.len
        cases ho : opp ts q1 with
        | none =>
          rw [ho] at hop
          have HO := Lib.hid hop
          have HS := Lib.hid (hnone ho)
          clear hop ho hsome hnone e1
          go_wp2_with (go_at_call 106; refine HO.out.mono ?_; rintro e' w4 ⟨⟨kk, rfl, _⟩, hb4⟩; have HK4 := Lib.hid (HK.out.below hb4); clear hb4; obtain ⟨y0', y1', y2', y3', y4', y5'⟩ := cells6 HK4.out.R5; obtain ⟨k0', k1', k2', k3', k4', k5'⟩ := free6 HK4.out.R4; obtain ⟨v0', v1', v2', v3', v4', v5'⟩ := cells6 (x := ze) HK4.out.R4)
          refine HK4.out.stop (by omega) HS.out ?_
          rfl
        | some o =>
          rw [ho] at hop
          have hk := opp_k ho
          have HO := Lib.hid hop
          have HS := Lib.hid (hsome o ho)
          have HAL := Lib.hid (adv_lt HT.out HK.out.pt.1.at' hk)
          clear hop ho hsome hnone e1 hk
          have TG := tight_bd o
          have hqi : q1.i < ts.length := HK.out.pt.1.at'
          by_cases htt : tightOf o < tight
          · go_wp2_with (first
              | (go_at_call 106; refine HO.out.mono ?_; rintro e' w4 ⟨⟨kk, rfl, hkk⟩, hb4⟩; obtain ⟨rfl, ho10⟩ := hkk o rfl; have HK4 := Lib.hid (HK.out.below hb4); clear hb4 hkk)
              | (go_at_call 37; refine (tight_calls o ho10 _).mono ?_; rintro e' w5 ⟨rfl, hb5⟩; have HK5 := Lib.hid (HK4.out.below hb5); clear hb5; obtain ⟨y0', y1', y2', y3', y4', y5'⟩ := cells6 HK5.out.R5; obtain ⟨k0', k1', k2', k3', k4', k5'⟩ := free6 HK5.out.R4; obtain ⟨v0', v1', v2', v3', v4', v5'⟩ := cells6 (x := ze) HK5.out.R4))
            refine HK5.out.stop (by omega) (by rw [HS.out, if_pos htt]) ?_
            rfl
          · go_wp2_with (first
              | (go_at_call 106; refine HO.out.mono ?_; rintro e' w4 ⟨⟨kk, rfl, hkk⟩, hb4⟩; obtain ⟨rfl, ho10⟩ := hkk o rfl; have HK4 := Lib.hid (HK.out.below hb4); clear hb4 hkk)
              | (go_at_call 37; refine (tight_calls o ho10 _).mono ?_; rintro e' w5 ⟨rfl, hb5⟩; have HK5 := Lib.hid (HK4.out.below hb5); clear hb5; have x5 : w5.cell? ⟨w.heap.size, 0, none⟩ = some (.pointer (some ⟨b, 0, none⟩)) := (blk_cell HK5.out.X 0).trans rfl; obtain ⟨a1, a2⟩ := HK5.out.pt.1.atc))
            obtain ⟨W5, hW5⟩ : ∃ W5, W5 = w5.setCell ⟨b, 1, none⟩ (.int .i64 ((q1.i : Int) + 1)) := ⟨_, rfl⟩
            rw [← hW5]
            have HP5 : Hid (PT w b g c ts (adv q1) (dp + 1) W5) := Lib.hid (by rw [hW5]; exact HK5.out.pt.adv HAL.out)
            have hg5 : w5.grownBy W5 (some b) := by rw [hW5]; exact gb_set (gb_refl _ _) 1 _
            have HX5 := Lib.hid (blk_pm HK5.out.pt.1 hg5 HK5.out.X (by decide))
            have HR4 := Lib.hid (blk_pm HK5.out.pt.1 hg5 HK5.out.R4 (by decide))
            have HR5 := Lib.hid (blk_pm HK5.out.pt.1 hg5 HK5.out.R5 (by decide))
            have HA5 := Lib.hid (HK5.out.at'.gb HK5.out.pt.1 hg5)
            have hx5 : W5.cell? ⟨w.heap.size, 0, none⟩ = some (.pointer (some ⟨b, 0, none⟩)) := (blk_cell HX5.out 0).trans rfl
            obtain ⟨y0', y1', y2', y3', y4', y5'⟩ := cells6 HR5.out
            have ht1 : 0 ≤ tightOf o + 1 := by omega
            have ht2 : tightOf o + 1 ≤ 9 := by omega
            have HWR : Hid (IntKind.i64.wrap (tightOf o + 1) = tightOf o + 1) := Lib.hid (by
              rcases (show tightOf o = 0 ∨ tightOf o = 1 ∨ tightOf o = 2 ∨ tightOf o = 3 ∨ tightOf o = 4 ∨ tightOf o = 5 ∨ tightOf o = 6 ∨ tightOf o = 7 by omega) with h | h | h | h | h | h | h | h <;> (rw [h]; rfl))
            clear hg5 hW5 x5 a1 a2 y0 y1 y2 y3 y4 y5 k0 k1 k2 k3 k4 k5 v0 v1 v2 v3 v4 v5 x0 c2
            have hne : w.heap.size ≠ w2.heap.size := by have := HK5.out.h5; omega
            refine wp_region_noPanic ?_
            refine wp_region_S [(11, fun w' => w'.cell? ⟨w.heap.size, 0, none⟩ = some (.pointer (some ⟨b, 0, none⟩)) ∧ w'.cell? ⟨w2.heap.size, 0, none⟩ = some (.int .i64 z.k) ∧ w'.cell? ⟨w2.heap.size, 1, none⟩ = some (.int .i64 z.o) ∧ w'.cell? ⟨w2.heap.size, 2, none⟩ = some (.string z.s) ∧ w'.cell? ⟨w2.heap.size, 3, none⟩ = some (.int .u64 z.v) ∧ w'.cell? ⟨w2.heap.size, 4, none⟩ = some (.slice z.A z.n z.c) ∧ w'.cell? ⟨w2.heap.size, 5, none⟩ = some (.int .i64 z.p))] (by kernel_rfl) (SL.cons ⟨hx5, y0', y1', y2', y3', y4', y5'⟩ SL.nil) (fun hS => ?_)
            (refine wpAnyS_free 0 (v := ?_) rfl (by kernel_rfl) (by kernel_rfl) (by kernel_rfl) (by simp) (fun _ _ _ h => h) (Or.inl ⟨by rfl, ?_⟩) hS (fun hS => ?_); rotate_left; · ((intro w; go_simp) <;> with_reducible rfl); try simp only [Act.put, List.setIfInBounds_toArray, List.set_cons_zero, List.set_cons_succ])
            (refine wpAnyS_free 3 (v := ?_) rfl (by kernel_rfl) (by kernel_rfl) (by kernel_rfl) (by simp) (fun _ _ _ h => h) (Or.inl ⟨by rfl, ?_⟩) hS (fun hS => ?_); rotate_left; · ((intro w; go_simp) <;> with_reducible rfl); try simp only [Act.put, List.setIfInBounds_toArray, List.set_cons_zero, List.set_cons_succ])
            (refine wpAnyS_free 8 (v := ?_) rfl (by kernel_rfl) (by kernel_rfl) (by kernel_rfl) (by simp) (fun _ _ _ h => h) (Or.inl ⟨by rfl, ?_⟩) hS (fun hS => ?_); rotate_left; · ((intro w; go_simp) <;> with_reducible rfl); try simp only [Act.put, List.setIfInBounds_toArray, List.set_cons_zero, List.set_cons_succ])
            (refine wpAnyS_load 1 11 (v := ?_) (List.mem_singleton.2 rfl) rfl (by kernel_rfl) (by kernel_rfl) (by kernel_rfl) (by kernel_rfl) (by kernel_rfl) (by simp) (fun _ _ _ h => h) (Or.inl ⟨by rfl, ?_⟩) hS (fun hS => ?_); rotate_left; · ((intro w hSw; (try dsimp only at hSw); go_simp) <;> with_reducible rfl); try simp only [Act.put, List.setIfInBounds_toArray, List.set_cons_zero, List.set_cons_succ])
            (refine wpAnyS_load 2 11 (v := ?_) (List.mem_singleton.2 rfl) rfl (by kernel_rfl) (by kernel_rfl) (by kernel_rfl) (by kernel_rfl) (by kernel_rfl) (by simp) (fun _ _ _ h => h) (Or.inl ⟨by rfl, ?_⟩) hS (fun hS => ?_); rotate_left; · ((intro w hSw; (try dsimp only at hSw); go_simp) <;> with_reducible rfl); try simp only [Act.put, List.setIfInBounds_toArray, List.set_cons_zero, List.set_cons_succ])
            (refine wpAnyS_load 9 11 (v := ?_) (List.mem_singleton.2 rfl) rfl (by kernel_rfl) (by kernel_rfl) (by kernel_rfl) (by kernel_rfl) (by kernel_rfl) (by simp) (fun _ _ _ h => h) (Or.inl ⟨by rfl, ?_⟩) hS (fun hS => ?_); rotate_left; · ((intro w hSw; (try dsimp only at hSw); go_simp) <;> with_reducible rfl); try simp only [Act.put, List.setIfInBounds_toArray, List.set_cons_zero, List.set_cons_succ])
            (refine wpAnyS_one 4 rfl (by kernel_rfl) (by rfl) (fun K hK => ?_); go_simp)
            (refine (tight_calls o ho10 _).mono ?_; rintro e' w6 ⟨rfl, hb6⟩; have HB6 : Hid (Below W5.heap.size W5 w6) := Lib.hid ⟨hb6.os, hb6.tape, hb6.output, hb6.size, hb6.block⟩; clear hb6; have hx6 : w6.cell? ⟨w.heap.size, 0, none⟩ = some (.pointer (some ⟨b, 0, none⟩)) := (blk_cell (blk_below HX5.out HB6.out) 0).trans rfl; obtain ⟨u0', u1', u2', u3', u4', u5'⟩ := cells6 (blk_below HR5.out HB6.out))
            refine hK.out _ _ (SL.cons ⟨hx6, u0', u1', u2', u3', u4', u5'⟩ SL.nil) (fun hS => ?_)
            clear hK K
            try simp only [Act.put, List.setIfInBounds_toArray, List.set_cons_zero, List.set_cons_succ]
            (refine wpAnyS_free 5 (v := ?_) rfl (by kernel_rfl) (by kernel_rfl) (by kernel_rfl) (by simp) (fun _ _ _ h => h) (Or.inl ⟨by rfl, ?_⟩) hS (fun hS => ?_); rotate_left; · ((intro w; go_simp) <;> with_reducible rfl); try simp only [Act.put, List.setIfInBounds_toArray, List.set_cons_zero, List.set_cons_succ])
            (refine wpAnyS_one 6 rfl (by kernel_rfl) (by rfl) (fun K hK => ?_); go_simp)
            (rw [HWR.out]; refine (HREC.out (tightOf o + 1) b g c ts (adv q1) (dp + 1) _ ht1 ht2 (by omega) HT.out ((HP5.out.1.below HB6.out).keep fun _ _ => rfl)).mono ?_; rintro e' w7 ⟨y2, rfl, hat7, hp7⟩; have HP7 : Hid (PT w6 b g c ts (exprp ts d (tightOf o + 1) (adv q1)).2 (dp + 1) w7) := Lib.hid ⟨hp7.1, ⟨hp7.2.os, hp7.2.tape, hp7.2.output, hp7.2.size, hp7.2.block⟩⟩; have HAT7 : Hid (At (exprp ts d (tightOf o + 1) (adv q1)).1 (fun k => w6.heap.size ≤ k) w7 y2) := Lib.hid hat7; clear hat7 hp7; have hx7 : w7.cell? ⟨w.heap.size, 0, none⟩ = some (.pointer (some ⟨b, 0, none⟩)) := (blk_cell (blk_pm (HP5.out.1.below HB6.out) HP7.out.2 (blk_below HX5.out HB6.out) (by decide)) 0).trans rfl; have HR7 := Lib.hid (blk_pm (HP5.out.1.below HB6.out) HP7.out.2 (blk_below HR5.out HB6.out) (by decide)); have hl7 : w2.heap.size < w7.heap.size := lt_heap HR7.out; obtain ⟨z0', z1', z2', z3', z4', z5'⟩ := cells6 HR7.out; obtain ⟨l0', l1', l2', l3', l4', l5'⟩ := free6 HR7.out)
            refine hK.out _ _ (SL.cons ⟨hx7, z0', z1', z2', z3', z4', z5'⟩ SL.nil) (fun hS => ?_)
            clear hK K
            try simp only [Act.put, List.setIfInBounds_toArray, List.set_cons_zero, List.set_cons_succ]
            (refine wpAnyS_one 7 rfl (by kernel_rfl) (by rfl) (fun K hK => ?_); go_simp)
            refine hK.out _ _ (SL.cons ⟨cell_al hx7 _, cell_al z0' _, cell_al z1' _, cell_al z2' _, cell_al z3' _, cell_al z4' _, cell_al z5' _⟩ SL.nil) (fun hS => ?_)
            clear hK K
            try simp only [Act.put, List.setIfInBounds_toArray, List.set_cons_zero, List.set_cons_succ]
            (refine wpAnyS_free 10 (v := ?_) rfl (by kernel_rfl) (by kernel_rfl) (by kernel_rfl) (by simp) (fun _ _ _ h => h) (Or.inl ⟨by rfl, ?_⟩) hS (fun hS => ?_); rotate_left; · ((intro w; go_simp) <;> with_reducible rfl); try simp only [Act.put, List.setIfInBounds_toArray, List.set_cons_zero, List.set_cons_succ])
            (refine wpAnyS_one 11 rfl (by kernel_rfl) (by rfl) (fun K hK => ?_); go_simp)
            refine hK.out _ _ (SL.past (by kernel_rfl) SL.nil) (fun hS => ?_)
            clear hK K
            try simp only [Act.put, List.setIfInBounds_toArray, List.set_cons_zero, List.set_cons_succ]
            refine wpAnyS_done (by kernel_rfl) ?_ _
            refine NoPanic.normal ?_
            all_goals go_wp2
            all_goals
              go_roundg f'
              case measure => omega
              case rel => exact ⟨_, _, _, Lib.hid (HK5.out.next HS.out (by omega) (exprp_i ts d (tightOf o + 1) (adv q1)) HP5.out HX5.out HR4.out HR5.out HA5.out HB6.out HP7.out HAT7.out)⟩
      · have HS : Hid (res = (e, q1)) := Lib.hid (by rw [HK.out.eq]; exact opsp_err _ _ _ _ _ _ e1)
        clear e1
        go_wp2
        refine HK.out.stop (by omega) HS.out ?_
        rfl
end Go.Proofs.YtcdgjgoplogiiaaDoor.PT
