/- (*parser).simple: what it works on. -/
import Derived.Test.YtcdgjgoplogiiaaDoorUna
namespace Go.Proofs.YtcdgjgoplogiiaaDoor.PT
open Go.RowKit Go.Lib
set_option linter.unusedVariables false
set_option linter.unusedSimpArgs false
/-- What there was stays, but two blocks. -/
structure G2 (w w' : World) (b S : Nat) : Prop where
  os : w'.os = w.os
  tape : w'.tape = w.tape
  output : w'.output = w.output
  size : w.heap.size ≤ w'.heap.size
  block : ∀ i, i < w.heap.size → i ≠ b → i ≠ S → w'.heap[i]? = w.heap[i]?
theorem G2.refl (w : World) (b S : Nat) : G2 w w b S := ⟨rfl, rfl, rfl, Nat.le_refl _, fun _ _ _ _ => rfl⟩
theorem G2.gb {w w1 w2 : World} {b S : Nat} (h : G2 w w1 b S) (k : w1.grownBy w2 (some b)) : G2 w w2 b S :=
  ⟨k.os.trans h.os, k.tape.trans h.tape, k.output.trans h.output, Nat.le_trans h.size k.size, fun i hi h1 h2 => (k.block i (Nat.lt_of_lt_of_le hi h.size) (fun e => h1 (Option.some.inj e))).trans (h.block i hi h1 h2)⟩
theorem G2.set {w w1 : World} {b S : Nat} (h : G2 w w1 b S) (i : Nat) (v : Value) : G2 w (w1.setCell ⟨S, i, none⟩ v) b S :=
  ⟨h.os, h.tape, h.output, by simpa [World.setCell] using h.size, fun j hj h1 h2 => (Below.heap_setCell w1 ⟨S, i, none⟩ v j h2).trans (h.block j hj h1 h2)⟩
theorem G2.far {w w1 : World} {b S : Nat} (h : G2 w w1 b S) {p : Addr} (hp : w.heap.size ≤ p.block) (v : Value) : G2 w (w1.setCell p v) b S :=
  ⟨h.os, h.tape, h.output, by simpa [World.setCell] using h.size, fun j hj h1 h2 => (Below.heap_setCell w1 p v j (by omega)).trans (h.block j hj h1 h2)⟩
theorem G2.alloc {w w1 : World} {b S : Nat} (h : G2 w w1 b S) (o : Obj) : G2 w (w1.alloc o) b S :=
  ⟨h.os, h.tape, h.output, Nat.le_trans h.size (by simp), fun j hj h1 h2 => (Below.heap_alloc w1 o j (Nat.lt_of_lt_of_le hj h.size)).trans (h.block j hj h1 h2)⟩
theorem G2.drew {w w1 : World} {b S : Nat} (h : G2 w w1 b S) : G2 w w1.drew b S := ⟨h.os, h.tape, h.output, h.size, h.block⟩
theorem G2.grow {w w1 w2 : World} {b S : Nat} (h : G2 w w1 b S) {row : Option Nat} (k : w1.grownBy w2 row) (hr : ∀ r, row = some r → w.heap.size ≤ r) : G2 w w2 b S :=
  ⟨k.os.trans h.os, k.tape.trans h.tape, k.output.trans h.output, Nat.le_trans h.size k.size, fun i hi h1 h2 => (k.block i (Nat.lt_of_lt_of_le hi h.size) (fun e => by have := hr i e.symm; omega)).trans (h.block i hi h1 h2)⟩
/-- The parser stays where a block of another type changes. -/
theorem PM.off {w w' : World} {b g c : Nat} {ts : List Tok} {q : PS} {dp S : Nat} {cs : Array Value} {E : TypeId} (h : PM w b g c ts q dp) (hE : E ≠ TP ∧ E ≠ TK ∧ E ≠ TF) (hS : w.heap[S]? = some (.cells cs E (0, 0))) (hk : ∀ i, i ≠ S → w'.heap[i]? = w.heap[i]?) : PM w' b g c ts q dp :=
  h.rows fun i ds E' hi hE' => hk i (by
    rintro rfl
    rw [hS] at hi
    injection hi with hi; injection hi with _ hi _
    subst hi
    rcases hE' with e | e | e
    · exact hE.1 e
    · exact hE.2.1 e
    · exact hE.2.2 e)
theorem cells7 {w : World} {S : Nat} {x : SV} (h : w.heap[S]? = some (.cells x.cells.toArray TS (0, 0))) :
    w.cell? ⟨S, 0, none⟩ = some (.int .i64 x.k) ∧ w.cell? ⟨S, 1, none⟩ = some (.string x.s) ∧ w.cell? ⟨S, 2, none⟩ = some (.slice x.eA x.en x.ec) ∧ w.cell? ⟨S, 3, none⟩ = some (.int .i64 x.n) ∧ w.cell? ⟨S, 4, none⟩ = some (.slice x.bA x.bn x.bc) ∧ w.cell? ⟨S, 5, none⟩ = some (.slice x.lA x.ln x.lc) ∧ w.cell? ⟨S, 6, none⟩ = some (.int .i64 x.p) :=
  ⟨(blk_cell h 0).trans rfl, (blk_cell h 1).trans rfl, (blk_cell h 2).trans rfl, (blk_cell h 3).trans rfl, (blk_cell h 4).trans rfl, (blk_cell h 5).trans rfl, (blk_cell h 6).trans rfl⟩
theorem free7 {w : World} {S : Nat} {cs : Array Value} {E : TypeId} (h : w.heap[S]? = some (.cells cs E (0, 0))) :
    w.frozen? ⟨S, 0, none⟩ = false ∧ w.frozen? ⟨S, 1, none⟩ = false ∧ w.frozen? ⟨S, 2, none⟩ = false ∧ w.frozen? ⟨S, 3, none⟩ = false ∧ w.frozen? ⟨S, 4, none⟩ = false ∧ w.frozen? ⟨S, 5, none⟩ = false ∧ w.frozen? ⟨S, 6, none⟩ = false :=
  ⟨blk_frozen h 0, blk_frozen h 1, blk_frozen h 2, blk_frozen h 3, blk_frozen h 4, blk_frozen h 5, blk_frozen h 6⟩
/-- A statement's variable in block S, while simple fills it. -/
structure SI (w : World) (b g c : Nat) (ts : List Tok) (dp S : Nat) (sv : SV) (es : List Tree) (ys : List EV) (q : PS) (w' : World) : Prop where
  pm : PM w' b g c ts q dp
  gb : G2 w w' b S
  blk : w'.heap[S]? = some (.cells sv.cells.toArray TS (0, 0))
  own : w'.ownsRow w.heap.size TE 6 (.slice sv.eA sv.en sv.ec) sv.en (ys.flatMap EV.cells)
  fa : FA es (fun i => w.heap.size ≤ i ∧ (Value.slice sv.eA sv.en sv.ec).ownBlock ≠ some i) w' ys
  lt : S < w.heap.size
abbrev sv0 (p : Int) : SV := ⟨0, ⟨#[]⟩, none, 0, 0, 0, none, 0, 0, none, 0, 0, p⟩
theorem SI.start {w : World} {b g c : Nat} {ts : List Tok} {q : PS} {dp S : Nat} {p : Int} (h : PM w b g c ts q dp) (hS : w.heap[S]? = some (.cells (sv0 p).cells.toArray TS (0, 0))) : SI w b g c ts dp S (sv0 p) [] [] q w :=
  ⟨h, G2.refl _ _ _, hS, ⟨rfl, .inl ⟨rfl, rfl⟩⟩, rfl, lt_heap hS⟩
theorem SI.go {w : World} {b g c : Nat} {ts : List Tok} {dp S : Nat} {sv : SV} {es : List Tree} {ys : List EV} {q q' : PS} {w' w'' : World} (h : SI w b g c ts dp S sv es ys q w') (hp : PT w' b g c ts q' dp w'') : SI w b g c ts dp S sv es ys q' w'' :=
  ⟨hp.1, h.gb.gb hp.2, blk_pm h.pm hp.2 h.blk (by decide), own_pm h.own h.pm hp.2 (by decide), h.fa.gb h.pm hp.2, h.lt⟩
theorem SI.put {w : World} {b g c : Nat} {ts : List Tok} {dp S : Nat} {sv sv' : SV} {es : List Tree} {ys : List EV} {q : PS} {w' : World} (h : SI w b g c ts dp S sv es ys q w') (j : Nat) (v : Value) (e : sv.cells.toArray.setIfInBounds j v = sv'.cells.toArray) (e1 : sv'.eA = sv.eA) (e2 : sv'.en = sv.en) (e3 : sv'.ec = sv.ec) : SI w b g c ts dp S sv' es ys q (w'.setCell ⟨S, j, none⟩ v) := by
  have hlt := h.lt
  have far : ∀ i, i ≠ S → (w'.setCell ⟨S, j, none⟩ v).heap[i]? = w'.heap[i]? := fun i hi => Below.heap_setCell _ _ _ _ hi
  refine ⟨h.pm.off (by decide) h.blk far, h.gb.set j v, blk_put h.blk j v e, ?_, ?_, hlt⟩
  · rw [e1, e2, e3]
    exact own_far h.own fun i hi _ => far i (by omega)
  · rw [e1, e2, e3]
    exact h.fa.mono (fun _ h _ => h) fun i hi _ => far i (by have := hi.1; omega)
/-- Its kind and name. -/
theorem SI.kn {w : World} {b g c : Nat} {ts : List Tok} {dp S : Nat} {sv : SV} {es : List Tree} {ys : List EV} {q : PS} {w' : World} (h : SI w b g c ts dp S sv es ys q w') (k : Int) (s : ByteArray) :
    SI w b g c ts dp S { sv with k := k, s := s } es ys q ((w'.setCell ⟨S, 0, none⟩ (.int .i64 k)).setCell ⟨S, 1, none⟩ (.string s)) :=
  (h.put (sv' := { sv with k := k }) 0 (.int .i64 k) rfl rfl rfl rfl).put 1 (.string s) rfl rfl rfl rfl
theorem SI.k1 {w : World} {b g c : Nat} {ts : List Tok} {dp S : Nat} {sv : SV} {es : List Tree} {ys : List EV} {q : PS} {w' : World} (h : SI w b g c ts dp S sv es ys q w') (k : Int) :
    SI w b g c ts dp S { sv with k := k } es ys q (w'.setCell ⟨S, 0, none⟩ (.int .i64 k)) := h.put 0 (.int .i64 k) rfl rfl rfl rfl
/-- Its one expression. -/
theorem SI.ex {w : World} {b g c : Nat} {ts : List Tok} {dp S : Nat} {sv : SV} {q q' : PS} {w' w9 : World} {t : Tree} {y : EV} (h : SI w b g c ts dp S sv [] [] q w') (hp : PT w' b g c ts q' dp w9) (hat : At t (fun i => w'.heap.size ≤ i) w9 y) :
    SI w b g c ts dp S { sv with eA := some ⟨w9.heap.size, 0, none⟩, en := 1, ec := 1 } [t] [y] q' ((w9.setCell ⟨S, 2, none⟩ (.slice (some ⟨w9.heap.size, 0, none⟩) 1 1)).alloc (.cells y.cells.toArray TE)) := by
  have hlt := h.lt
  have s1 := h.gb.size
  have s2 := hp.2.size
  have h9 := h.go hp
  have hsz : (w9.setCell ⟨S, 2, none⟩ (.slice (some ⟨w9.heap.size, 0, none⟩) 1 1)).heap.size = w9.heap.size := by simp [World.setCell]
  have far : ∀ i, i ≠ S → (w9.setCell ⟨S, 2, none⟩ (.slice (some ⟨w9.heap.size, 0, none⟩) 1 1)).heap[i]? = w9.heap[i]? := fun i hi => Below.heap_setCell _ _ _ _ hi
  refine ⟨(h9.pm.off (by decide) h9.blk far).alloc _, (h9.gb.set _ _).alloc _, blk_alloc (blk_put h9.blk 2 _ rfl) _, ⟨rfl, .inr ⟨w9.heap.size, 1, y.cells.toArray, rfl, by omega, ?_, Nat.le_refl _, by decide, rfl, rfl⟩⟩, ⟨y, [], rfl, ?_, rfl⟩, hlt⟩
  · have := blk_new (w9.setCell ⟨S, 2, none⟩ (.slice (some ⟨w9.heap.size, 0, none⟩) 1 1)) (.cells y.cells.toArray TE)
    rw [hsz] at this
    exact this
  · refine (hat.mono (P' := fun i => w.heap.size ≤ i ∧ (Value.slice (some ⟨w9.heap.size, 0, none⟩) 1 1).ownBlock ≠ some i) (fun i hi hl => ⟨by omega, fun e => ?_⟩) (fun i hi _ => far i (by omega))).alloc _
    have : w9.heap.size = i := by injection e
    omega
/-- A statement in memory as a value. -/
def SA (s : St) (P : Nat → Prop) (w : World) (x : SV) : Prop := BA (s.one .nil) P w [x]
/-- What simple gives. -/
def SPost (w : World) (b g c : Nat) (ts : List Tok) (r : St × PS) (dp S : Nat) (e : Ending) (w' : World) : Prop :=
  e = .returned (.tuple #[]) ∧ ∃ x : SV, w'.heap[S]? = some (.cells x.cells.toArray TS (0, 0)) ∧ SA r.1 (fun k => w.heap.size ≤ k) w' x ∧ PM w' b g c ts r.2 dp ∧ G2 w w' b S
theorem SI.post {w : World} {b g c : Nat} {ts : List Tok} {dp S : Nat} {sv : SV} {es : List Tree} {ys : List EV} {q : PS} {w' : World} (h : SI w b g c ts dp S sv es ys q w') {r : St × PS} {k : Nat} {s : ByteArray} {p : Int} (hr : r = (⟨k, s, es, 0, .nil, .nil, p⟩, q)) (hk : sv.k = k) (hs : sv.s = s) (hn : sv.n = 0) (hb : sv.bA = none ∧ sv.bn = 0 ∧ sv.bc = 0) (hl : sv.lA = none ∧ sv.ln = 0 ∧ sv.lc = 0) (hp : sv.p = p) :
    SPost w b g c ts r dp S (.returned (.tuple #[])) w' := by
  subst hr
  refine ⟨rfl, sv, h.blk, ⟨sv, [], rfl, hk, hs, hn, hp, ⟨?_, ys, h.fa.mono (fun i hi _ => hi.1) (fun _ _ _ => rfl), ?_⟩, ⟨[], rfl, hb.2.1, .inl ⟨hb.1, hb.2.1, hb.2.2, rfl⟩⟩, ⟨[], rfl, hl.2.1, .inl ⟨hl.1, hl.2.1, hl.2.2, rfl⟩⟩, rfl⟩, h.pm, h.gb⟩
  · have h1 := h.own.1
    rw [flat_len EV.cells 6 (fun _ => rfl)] at h1
    have h2 := h.fa.length
    show sv.en = es.length
    omega
  · rcases h.own.2 with ⟨e, e0⟩ | ⟨g', cap, cur, e, h2, h3, h4, h5, h6, h7⟩
    · left
      have h1 := h.own.1
      rw [e0] at h1
      injection e with a1 a2 a3
      exact ⟨a1, e0, a3, List.length_eq_zero_iff.1 (by omega)⟩
    · right
      have hrow := Row.own h.own g' cap (by rw [e])
      injection e with a1 a2 a3
      exact ⟨g', a1, h2, by omega, by omega, hrow⟩
end Go.Proofs.YtcdgjgoplogiiaaDoor.PT
