/- (*parser).stmt: what it works on. -/
import Derived.Test.YtcdgjgoplogiiaaDoorBlk
namespace Go.Proofs.YtcdgjgoplogiiaaDoor.PT
open Go.RowKit Go.Lib
set_option linter.unusedVariables false
set_option linter.unusedSimpArgs false
theorem SA_iff {s : St} {P : Nat → Prop} {w : World} {x : SV} : SA s P w x ↔ x.k = s.k ∧ x.s = s.s ∧ x.n = s.n ∧ x.p = s.p ∧ Es s.es P w x.eA x.en x.ec ∧ Bs s.body P w x.bA x.bn x.bc ∧ Bs s.els P w x.lA x.ln x.lc := by
  constructor
  · rintro ⟨y, ys, e, h1, h2, h3, h4, h5, ⟨l1, h6, h7, h8⟩, ⟨l2, h9, h10, h11⟩, h12⟩
    injection e with e1 e2
    subst e1
    exact ⟨h1, h2, h3, h4, h5, ⟨h7, l1, h6, h8⟩, ⟨h10, l2, h9, h11⟩⟩
  · rintro ⟨h1, h2, h3, h4, h5, ⟨h7, l1, h6, h8⟩, ⟨h10, l2, h9, h11⟩⟩
    exact ⟨x, [], rfl, h1, h2, h3, h4, h5, ⟨l1, h6, h7, h8⟩, ⟨l2, h9, h10, h11⟩, rfl⟩
theorem SA.mono {s : St} {P P' : Nat → Prop} {w w' : World} {x : SV} (h : SA s P w x) (hP : ∀ g, P g → g < w.heap.size → P' g) (hk : ∀ g, P g → g < w.heap.size → w'.heap[g]? = w.heap[g]?) : SA s P' w' x := BA.mono h hP hk
theorem SA.gb {s : St} {P : Nat → Prop} {w w' : World} {x : SV} {b g c : Nat} {ts : List Tok} {q : PS} {dp : Nat} (h : SA s P w x) (hm : PM w b g c ts q dp) (hg : w.grownBy w' (some b)) : SA s P w' x :=
  h.stay (fun _ h _ => h) (fun i cs _ hc => (blk_pm hm hg hc (by decide)).trans hc.symm) (fun i cs _ hc => (blk_pm hm hg hc (by decide)).trans hc.symm)
abbrev svz : SV := sv0 0
/-- A statement's variable in block S, its result's in the block behind the parser's box. -/
structure FI (w : World) (b g c : Nat) (ts : List Tok) (dp S : Nat) (s : St) (x : SV) (q : PS) (w' : World) : Prop where
  pt : PT w b g c ts q (dp + 1) w'
  X : w'.heap[w.heap.size]? = some (.cells #[.pointer (some ⟨b, 0, none⟩)] TPp (0, 0))
  R : w'.heap[w.heap.size + 1]? = some (.cells svz.cells.toArray TS (0, 0))
  blk : w'.heap[S]? = some (.cells x.cells.toArray TS (0, 0))
  hS : w.heap.size + 1 < S
  sa : SA s (fun i => w.heap.size + 1 < i ∧ i ≠ S) w' x
theorem FI.go {w : World} {b g c : Nat} {ts : List Tok} {dp S : Nat} {s : St} {x : SV} {q q' : PS} {w' w'' : World} (h : FI w b g c ts dp S s x q w') (hp : PT w' b g c ts q' (dp + 1) w'') : FI w b g c ts dp S s x q' w'' :=
  ⟨h.pt.trans hp, blk_pm h.pt.1 hp.2 h.X (by decide), blk_pm h.pt.1 hp.2 h.R (by decide), blk_pm h.pt.1 hp.2 h.blk (by decide), h.hS, h.sa.gb h.pt.1 hp.2⟩
theorem FI.put {w : World} {b g c : Nat} {ts : List Tok} {dp S : Nat} {s s' : St} {x x' : SV} {q : PS} {w' : World} (h : FI w b g c ts dp S s x q w') (j : Nat) (v : Value) (e : x.cells.toArray.setIfInBounds j v = x'.cells.toArray)
    (hs : ∀ w1, (∀ i, i ≠ S → w1.heap[i]? = w'.heap[i]?) → SA s (fun i => w.heap.size + 1 < i ∧ i ≠ S) w1 x → SA s' (fun i => w.heap.size + 1 < i ∧ i ≠ S) w1 x') : FI w b g c ts dp S s' x' q (w'.setCell ⟨S, j, none⟩ v) := by
  have hlt := h.hS
  have far : ∀ i, i ≠ S → (w'.setCell ⟨S, j, none⟩ v).heap[i]? = w'.heap[i]? := fun i hi => Below.heap_setCell _ _ _ _ hi
  exact ⟨⟨h.pt.1.off (by decide) h.blk far, gb_far h.pt.2 (show w.heap.size ≤ S by omega) v⟩, (far _ (by omega)).trans h.X, (far _ (by omega)).trans h.R, blk_put h.blk j v e, hlt, hs _ far (h.sa.mono (fun _ h _ => h) fun i hi _ => far i hi.2)⟩
theorem FI.alloc {w : World} {b g c : Nat} {ts : List Tok} {dp S : Nat} {s : St} {x : SV} {q : PS} {w' : World} (h : FI w b g c ts dp S s x q w') (o : Obj) : FI w b g c ts dp S s x q (w'.alloc o) :=
  ⟨h.pt.alloc o, blk_alloc h.X o, blk_alloc h.R o, blk_alloc h.blk o, h.hS, h.sa.mono (fun _ h _ => h) fun i _ hi => Below.heap_alloc _ _ _ hi⟩
theorem FI.kind {w : World} {b g c : Nat} {ts : List Tok} {dp S : Nat} {s : St} {x : SV} {q : PS} {w' : World} (h : FI w b g c ts dp S s x q w') (k : Nat) (z : Int) (hz : z = k) : FI w b g c ts dp S { s with k := k } { x with k := z } q (w'.setCell ⟨S, 0, none⟩ (.int .i64 z)) :=
  h.put 0 _ rfl fun w1 _ hh => by
    rw [SA_iff] at hh ⊢
    exact ⟨hz, hh.2⟩
theorem FI.name {w : World} {b g c : Nat} {ts : List Tok} {dp S : Nat} {s : St} {x : SV} {q : PS} {w' : World} (h : FI w b g c ts dp S s x q w') (n : ByteArray) : FI w b g c ts dp S { s with s := n } { x with s := n } q (w'.setCell ⟨S, 1, none⟩ (.string n)) :=
  h.put 1 _ rfl fun w1 _ hh => by
    rw [SA_iff] at hh ⊢
    exact ⟨hh.1, rfl, hh.2.2⟩
theorem FI.count {w : World} {b g c : Nat} {ts : List Tok} {dp S : Nat} {s : St} {x : SV} {q : PS} {w' : World} (h : FI w b g c ts dp S s x q w') (n : Int) : FI w b g c ts dp S { s with n := n } { x with n := n } q (w'.setCell ⟨S, 3, none⟩ (.int .i64 n)) :=
  h.put 3 _ rfl fun w1 _ hh => by
    rw [SA_iff] at hh ⊢
    exact ⟨hh.1, hh.2.1, rfl, hh.2.2.2⟩
theorem FI.body {w : World} {b g c : Nat} {ts : List Tok} {dp S : Nat} {s : St} {x : SV} {q : PS} {w' : World} (h : FI w b g c ts dp S s x q w') {bb : Blk} {A : Option Addr} {n cc : Nat} (hb : Bs bb (fun i => w.heap.size + 1 < i ∧ i ≠ S) w' A n cc) : FI w b g c ts dp S { s with body := bb } { x with bA := A, bn := n, bc := cc } q (w'.setCell ⟨S, 4, none⟩ (.slice A n cc)) :=
  h.put 4 _ rfl fun w1 hf hh => by
    rw [SA_iff] at hh ⊢
    exact ⟨hh.1, hh.2.1, hh.2.2.1, hh.2.2.2.1, hh.2.2.2.2.1, hb.mono (fun _ h _ => h) (fun i hi _ => hf i hi.2), hh.2.2.2.2.2.2⟩
theorem FI.els {w : World} {b g c : Nat} {ts : List Tok} {dp S : Nat} {s : St} {x : SV} {q : PS} {w' : World} (h : FI w b g c ts dp S s x q w') {bb : Blk} {A : Option Addr} {n cc : Nat} (hb : Bs bb (fun i => w.heap.size + 1 < i ∧ i ≠ S) w' A n cc) : FI w b g c ts dp S { s with els := bb } { x with lA := A, ln := n, lc := cc } q (w'.setCell ⟨S, 5, none⟩ (.slice A n cc)) :=
  h.put 5 _ rfl fun w1 hf hh => by
    rw [SA_iff] at hh ⊢
    exact ⟨hh.1, hh.2.1, hh.2.2.1, hh.2.2.2.1, hh.2.2.2.2.1, hh.2.2.2.2.2.1, hb.mono (fun _ h _ => h) (fun i hi _ => hf i hi.2)⟩
/-- Its one expression. -/
theorem FI.ex {w : World} {b g c : Nat} {ts : List Tok} {dp S : Nat} {s : St} {x : SV} {q q' : PS} {w' w9 : World} {t : Tree} {y : EV} (h : FI w b g c ts dp S s x q w') (hp : PT w' b g c ts q' (dp + 1) w9) (hat : At t (fun i => w'.heap.size ≤ i) w9 y) :
    FI w b g c ts dp S { s with es := [t] } { x with eA := some ⟨w9.heap.size, 0, none⟩, en := 1, ec := 1 } q' ((w9.setCell ⟨S, 2, none⟩ (.slice (some ⟨w9.heap.size, 0, none⟩) 1 1)).alloc (.cells y.cells.toArray TE)) := by
  have hlt := h.hS
  have h9 := h.go hp
  have s2 := hp.2.size
  have sS := lt_heap h.blk
  have hsz : (w9.setCell ⟨S, 2, none⟩ (.slice (some ⟨w9.heap.size, 0, none⟩) 1 1)).heap.size = w9.heap.size := by simp [World.setCell]
  have far : ∀ i, i ≠ S → (w9.setCell ⟨S, 2, none⟩ (.slice (some ⟨w9.heap.size, 0, none⟩) 1 1)).heap[i]? = w9.heap[i]? := fun i hi => Below.heap_setCell _ _ _ _ hi
  refine ⟨⟨(h9.pt.1.off (by decide) h9.blk far).alloc _, gb_alloc (gb_far h9.pt.2 (show w.heap.size ≤ S by omega) _) _⟩, blk_alloc ((far _ (by omega)).trans h9.X) _, blk_alloc ((far _ (by omega)).trans h9.R) _, blk_alloc (blk_put h9.blk 2 _ rfl) _, hlt, ?_⟩
  have hh := (h9.sa.mono (w' := w9.setCell ⟨S, 2, none⟩ (.slice (some ⟨w9.heap.size, 0, none⟩) 1 1)) (fun _ h _ => h) fun i hi _ => far i hi.2).mono (w' := (w9.setCell ⟨S, 2, none⟩ (.slice (some ⟨w9.heap.size, 0, none⟩) 1 1)).alloc (.cells y.cells.toArray TE)) (fun _ h _ => h) fun i _ hi => Below.heap_alloc _ _ _ hi
  rw [SA_iff] at hh ⊢
  refine ⟨hh.1, hh.2.1, hh.2.2.1, hh.2.2.2.1, ⟨rfl, [y], ⟨y, [], rfl, ?_, rfl⟩, .inr ⟨w9.heap.size, rfl, ⟨by omega, by have := lt_heap h9.blk; omega⟩, Nat.le_refl _, (by show 1 ≤ maxLen; decide), ?_⟩⟩, hh.2.2.2.2.2⟩
  · exact (hat.mono (P' := fun i => w.heap.size + 1 < i ∧ i ≠ S) (fun i hi _ => ⟨by omega, by omega⟩) (fun i hi _ => far i (by omega))).alloc _
  · have := blk_new (w9.setCell ⟨S, 2, none⟩ (.slice (some ⟨w9.heap.size, 0, none⟩) 1 1)) (.cells y.cells.toArray TE)
    rw [hsz] at this
    exact Row.of this
/-- A block that was read since. -/
theorem FI.new {w : World} {b g c : Nat} {ts : List Tok} {dp S : Nat} {s : St} {x : SV} {q : PS} {w' w'' : World} (h : FI w b g c ts dp S s x q w') {bb : Blk} {A : Option Addr} {n cc : Nat} (hb : Bs bb (fun i => w'.heap.size ≤ i) w'' A n cc) : Bs bb (fun i => w.heap.size + 1 < i ∧ i ≠ S) w'' A n cc := by
  have := lt_heap h.blk
  have := h.hS
  exact hb.mono (fun i hi _ => ⟨by omega, by omega⟩) (fun _ _ _ => rfl)
/-- What simple did. -/
theorem FI.simple {w : World} {b g c : Nat} {ts : List Tok} {dp S : Nat} {s s' : St} {x x' : SV} {q q' : PS} {w' w'' : World} (h : FI w b g c ts dp S s x q w') (hS : w''.heap[S]? = some (.cells x'.cells.toArray TS (0, 0))) (hsa : SA s' (fun k => w'.heap.size ≤ k) w'' x') (hm : PM w'' b g c ts q' (dp + 1)) (hg : G2 w' w'' b S) : FI w b g c ts dp S s' x' q' w'' := by
  have hlt := h.hS
  have s1 := lt_heap h.blk
  have s2 := h.pt.2.size
  have far : ∀ {i : Nat} {cs : Array Value} {E : TypeId}, w'.heap[i]? = some (.cells cs E (0, 0)) → E ≠ TP → i ≠ S → w''.heap[i]? = some (.cells cs E (0, 0)) := fun {i cs E} hc hE hi => (hg.block i (lt_heap hc) (fun e => by
    subst e
    obtain ⟨⟨ev, hb, _⟩, _⟩ := h.pt.1
    rw [hb] at hc
    injection hc with hc; injection hc with _ hc _
    exact hE hc.symm) hi).trans hc
  refine ⟨⟨hm, ⟨hg.os.trans h.pt.2.os, hg.tape.trans h.pt.2.tape, hg.output.trans h.pt.2.output, Nat.le_trans s2 hg.size, fun i hi hne => (hg.block i (Nat.lt_of_lt_of_le hi s2) (fun e => hne (by rw [e])) (by omega)).trans (h.pt.2.block i hi hne)⟩⟩, far h.X (by decide) (by omega), far h.R (by decide) (by omega), hS, hlt, hsa.mono (fun i hi _ => ⟨by omega, by omega⟩) fun _ _ _ => rfl⟩
/-- A statement stored into its variable. -/
def set7 (w : World) (R : Nat) (x : SV) : World :=
  ((((((w.setCell ⟨R, 0, none⟩ (.int .i64 x.k)).setCell ⟨R, 1, none⟩ (.string x.s)).setCell ⟨R, 2, none⟩ (.slice x.eA x.en x.ec)).setCell ⟨R, 3, none⟩ (.int .i64 x.n)).setCell ⟨R, 4, none⟩ (.slice x.bA x.bn x.bc)).setCell ⟨R, 5, none⟩ (.slice x.lA x.ln x.lc)).setCell ⟨R, 6, none⟩ (.int .i64 x.p)
theorem set7_far (w : World) (R : Nat) (x : SV) (i : Nat) (h : i ≠ R) : (set7 w R x).heap[i]? = w.heap[i]? := by
  unfold set7
  rw [Below.heap_setCell _ _ _ _ h, Below.heap_setCell _ _ _ _ h, Below.heap_setCell _ _ _ _ h, Below.heap_setCell _ _ _ _ h, Below.heap_setCell _ _ _ _ h, Below.heap_setCell _ _ _ _ h, Below.heap_setCell _ _ _ _ h]
theorem set7_blk {w : World} {R : Nat} {y : SV} (h : w.heap[R]? = some (.cells y.cells.toArray TS (0, 0))) (x : SV) : (set7 w R x).heap[R]? = some (.cells x.cells.toArray TS (0, 0)) := by
  unfold set7
  rw [blk_set (blk_set (blk_set (blk_set (blk_set (blk_set (blk_set h 0 _) 1 _) 2 _) 3 _) 4 _) 5 _) 6 _]
  simp [SV.cells]
theorem set7_gb {w w1 : World} {b : Option Nat} (h : w.grownBy w1 b) {R : Nat} (hR : w.heap.size ≤ R) (x : SV) : w.grownBy (set7 w1 R x) b := by
  unfold set7
  exact gb_far (gb_far (gb_far (gb_far (gb_far (gb_far (gb_far h hR _) hR _) hR _) hR _) hR _) hR _) hR _
set_option maxRecDepth 100000 in
theorem ups_calls (b g c x : Nat) (ts : List Tok) (q : PS) (dp : Nat) (hdp : dp ≤ 40) (u : FrameMode) (w : World) (h : PM w b g c ts q (dp + 1)) (hx : w.cell? ⟨x, 0, none⟩ = some (.pointer (some ⟨b, 0, none⟩))) :
    CallsD Tryd.prog 80 #[.pointer (some ⟨x, 0, none⟩)] u w fun e u' w' => u' = u ∧ (e = .returned (.tuple #[]) ∧ PT w b g c ts q dp w') := by
  obtain ⟨d3, f3⟩ := h.deepc
  have HP := Lib.hid (PT.deep (q := q) ⟨h, gb_refl w _⟩ dp)
  clear h
  go_enter_d Tryd.func80, Tryd.ntmps80
  go_wp2
  go_end0
  exact ⟨rfl, HP.out⟩
/-- Behind stmt the parser is a step up again. -/
theorem FI.ret {w : World} {b g c : Nat} {ts : List Tok} {dp S : Nat} {s : St} {x : SV} {q : PS} {wf : World} {res : St × PS} {tmps : Array Value} (h : FI w b g c ts dp S s x q wf) (hdp : dp ≤ 40) (hres : res = (s, q)) (h2 : tmps.getD 2 undef = .pointer (some ⟨w.heap.size + 1, 0, none⟩)) :
    bodyPostD Tryd.prog Tryd.f58 (TPost w b g c ts res dp) Exit.ret ⟨tmps, [{ target := .fn (.func 80) #[.pointer (some ⟨w.heap.size, 0, none⟩)], args := #[] }]⟩ (set7 wf (w.heap.size + 1) x) := by
  subst hres
  have hlt := h.hS
  have far : ∀ i, i ≠ w.heap.size + 1 → (set7 wf (w.heap.size + 1) x).heap[i]? = wf.heap[i]? := set7_far _ _ _
  have hX : (set7 wf (w.heap.size + 1) x).heap[w.heap.size]? = some (.cells #[.pointer (some ⟨b, 0, none⟩)] TPp (0, 0)) := (far _ (by omega)).trans h.X
  have hR : (set7 wf (w.heap.size + 1) x).heap[w.heap.size + 1]? = some (.cells x.cells.toArray TS (0, 0)) := set7_blk h.R x
  have hp : PT w b g c ts q (dp + 1) (set7 wf (w.heap.size + 1) x) := ⟨h.pt.1.off (by decide) h.R far, set7_gb h.pt.2 (Nat.le_succ _) x⟩
  have hsa : SA s (fun k => w.heap.size ≤ k) (set7 wf (w.heap.size + 1) x) x := h.sa.mono (fun i hi _ => by have := hi.1; omega) fun i hi _ => far i (by have := hi.1; omega)
  refine leaves_cons (f := 80) (args := #[.pointer (some ⟨w.heap.size, 0, none⟩)]) (by simp) (by simp [go_sem]) ?_
  refine (ups_calls b g c w.heap.size ts q dp hdp _ _ hp.1 ((blk_cell hX 0).trans rfl)).mono ?_
  rintro e u' w'' ⟨rfl, rfl, hp2⟩
  obtain ⟨r0, r1, r2, r3, r4, r5, r6⟩ := cells7 (x := x) (blk_pm hp.1 hp2.2 hR (by decide))
  have hm : TPost w b g c ts (s, q) dp (.returned x.val) w'' := ⟨x, rfl, hsa.gb hp.1 hp2.2, hp.trans hp2⟩
  rw [Array.getD_eq_getD_getElem?] at h2
  simpa [Leaves, settle, results, Tryd.results58, go_sem, h2, r0, r1, r2, r3, r4, r5, r6] using hm
end Go.Proofs.YtcdgjgoplogiiaaDoor.PT
