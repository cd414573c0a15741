/- The maker in memory: what it holds, what a call of its methods may change. -/
import Derived.Test.YtcdgjgoplogiiaaDoorMp
import Derived.Maps.AppendAt
namespace Go.Proofs.YtcdgjgoplogiiaaDoor.PT
open Go.RowKit Go.Lib
set_option linter.unusedVariables false

abbrev TM : TypeId := 60
/-- Is it a type of the maker's own blocks? -/
def isMk (E : TypeId) : Bool := E == TM || E == 9 || E == 4 || E == 3
theorem mkTE : isMk TE = false := by decide
theorem mkTS : isMk TS = false := by decide
theorem mkTD : isMk TD = false := by decide
/-- What was below block B stands; of what else there was, all but the maker's own blocks. -/
structure Fr (B : Nat) (w w' : World) : Prop where
  below : Below B w w'
  rest : ∀ (g : Nat) (cs : Array Value) (E : TypeId) (fr : Nat × Nat), w.heap[g]? = some (.cells cs E fr) → isMk E = false → w'.heap[g]? = w.heap[g]?
theorem Fr.size {B : Nat} {w w' : World} (h : Fr B w w') : w.heap.size ≤ w'.heap.size := h.below.size
theorem Fr.refl (B : Nat) (w : World) : Fr B w w := ⟨Below.refl _ _, fun _ _ _ _ _ _ => rfl⟩
theorem Fr.trans {B : Nat} {x y z : World} (h : Fr B x y) (k : Fr B y z) : Fr B x z :=
  ⟨h.below.trans k.below, fun g cs E fr hg hm => by
    have e := h.rest g cs E fr hg hm
    exact (k.rest g cs E fr (e.trans hg) hm).trans e⟩
theorem Fr.of {B : Nat} {w w' : World} (hb : Below w.heap.size w w') (h : B ≤ w.heap.size) : Fr B w w' := ⟨hb.mono h, fun g _ _ _ hg _ => hb.block g (lt_heap hg)⟩
theorem Fr.alloc {B : Nat} {a w : World} (h : Fr B a w) (hb : B ≤ w.heap.size) (o : Obj) : Fr B a (w.alloc o) := h.trans (.of ((Below.refl _ _).alloc (Nat.le_refl _) o) hb)
/-- A store into a block that is new. -/
theorem Fr.far {B : Nat} {a w : World} (h : Fr B a w) (hb : B ≤ a.heap.size) {p : Addr} (hp : a.heap.size ≤ p.block) (v : Value) : Fr B a (w.setCell p v) :=
  ⟨h.below.setCell (Nat.le_trans hb hp) v, fun g cs E fr hg hm => by
    have hl := lt_heap hg
    exact (Below.heap_setCell w p v g (by omega)).trans (h.rest g cs E fr hg hm)⟩
/-- A store into a block of the maker's own. -/
theorem Fr.mine {B : Nat} {w : World} {b : Nat} {cs : Array Value} {E : TypeId} {fr : Nat × Nat} (hb : B ≤ b) (h : w.heap[b]? = some (.cells cs E fr)) (hm : isMk E = true) (i : Nat) (v : Value) : Fr B w (w.setCell ⟨b, i, none⟩ v) :=
  ⟨(Below.refl B w).setCell (p := ⟨b, i, none⟩) hb v, fun g cs' E' fr' hg hm' => Below.heap_setCell w ⟨b, i, none⟩ v g (by
    rintro rfl
    rw [h] at hg
    injection hg with hg; injection hg with _ e _
    rw [← e, hm] at hm'; cases hm')⟩
/-- An append to a row of the maker's own, or to one that is new. -/
theorem Fr.grown {B : Nat} {a w w' : World} {row : Option Nat} (h : Fr B a w) (hb : B ≤ a.heap.size) (hg : w.grownBy w' row) (hr : ∀ g, row = some g → a.heap.size ≤ g) : Fr B a w' :=
  ⟨h.below.trans ⟨hg.os, hg.tape, hg.output, hg.size, fun i hi => hg.block i (Nat.lt_of_lt_of_le (Nat.lt_of_lt_of_le hi hb) h.size) (fun e => by have := hr i e.symm; omega)⟩,
   fun g cs E fr hgg hm => by
    have hl := lt_heap hgg
    exact (hg.block g (Nat.lt_of_lt_of_le hl h.size) (fun e => by have := hr g e.symm; omega)).trans (h.rest g cs E fr hgg hm)⟩
theorem Fr.grownMine {B : Nat} {w w' : World} {row : Option Nat} (hB : B ≤ w.heap.size) (hg : w.grownBy w' row) (hr : ∀ g, row = some g → B ≤ g ∧ ∃ cs E fr, w.heap[g]? = some (.cells cs E fr) ∧ isMk E = true) : Fr B w w' :=
  ⟨⟨hg.os, hg.tape, hg.output, hg.size, fun i hi => hg.block i (Nat.lt_of_lt_of_le hi hB) (fun e => by have := (hr i e.symm).1; omega)⟩,
   fun g cs E fr hgg hm => hg.block g (lt_heap hgg) (fun e => by
    obtain ⟨_, cs', E', fr', h1, h2⟩ := hr g e.symm
    rw [hgg] at h1
    injection h1 with h1; injection h1 with _ e _
    rw [e, h2] at hm; cases hm)⟩
theorem Fr.stayE {B : Nat} {w w' : World} (h : Fr B w w') (P : Nat → Prop) : Stay TE P w w' := fun g cs _ hg => h.rest g cs TE (0, 0) hg mkTE
theorem Fr.stayS {B : Nat} {w w' : World} (h : Fr B w w') (P : Nat → Prop) : Stay TS P w w' := fun g cs _ hg => h.rest g cs TS (0, 0) hg mkTS
theorem At.fr {t : Tree} {P : Nat → Prop} {B : Nat} {w w' : World} {e : EV} (h : At t P w e) (hf : Fr B w w') : At t P w' e := h.stay (fun _ hg _ => hg) (hf.stayE P)
theorem Bs.fr {b : Blk} {P : Nat → Prop} {B : Nat} {w w' : World} {A : Option Addr} {n c : Nat} (h : Bs b P w A n c) (hf : Fr B w w') : Bs b P w' A n c := h.stay (fun _ hg _ => hg) (hf.stayE P) (hf.stayS P)
theorem At.more {t : Tree} {P P' : Nat → Prop} {w : World} {e : EV} (h : At t P w e) (hP : ∀ g, P g → g < w.heap.size → P' g) : At t P' w e := h.mono hP fun _ _ _ => rfl

/-- The numbers that are still there. -/
def NS (w : World) (B : Nat) (A : Option Addr) (ns : List Nat) : Prop := ns ≠ [] → ∃ ad, A = some ad ∧ ad.block < B ∧ ∀ (j x : Nat), ns[j]? = some x → x < 256 ∧ w.cell? (ad.add j) = some (.int .u8 x)
theorem NS.below {w w' : World} {B : Nat} {A : Option Addr} {ns : List Nat} (h : NS w B A ns) (hb : Below B w w') : NS w' B A ns := fun hn => by
  obtain ⟨ad, e, hl, hc⟩ := h hn
  refine ⟨ad, e, hl, fun j x hj => ?_⟩
  obtain ⟨hx, hcell⟩ := hc j x hj
  have hbl : (ad.add j).block = ad.block := by unfold Addr.add; split <;> rfl
  exact ⟨hx, (hb.cell (by rw [hbl]; exact hl)).trans hcell⟩
/-- A row of the maker's own. -/
def Rw (w : World) (B : Nat) (E : TypeId) (A : Option Addr) (n c : Nat) (xs : List Value) : Prop := n = xs.length ∧ w.ownsRow B E 1 (.slice A n c) n xs
abbrev mkCells (A : Option Addr) (n c : Nat) (lA : Option Addr) (ln lc : Nat) (sA : Option Addr) (sn sc : Nat) (cA : Option Addr) (cn cc : Nat) (h : Bool) (t d : Nat) : Array Value :=
  #[.slice A n c, .slice lA ln lc, .slice sA sn sc, .slice cA cn cc, .bool h, .int .i64 t, .int .i64 d]
/-- The maker in block b; what it owns lies behind block B. -/
structure MKx (w : World) (B b : Nat) (m : MS) (A : Option Addr) (c : Nat) (lA : Option Addr) (lc : Nat) (sA : Option Addr) (sc : Nat) (cA : Option Addr) (cc : Nat) : Prop where
  hB : B ≤ b
  ns : NS w B A m.ns
  cap : m.ns.length ≤ c
  few : m.ns.length ≤ 300
  l : Rw w B 9 lA m.loc.length lc (m.loc.map Value.string)
  s : Rw w B 4 sA m.loc.length sc (m.sec.map Value.bool)
  k : Rw w B 3 cA m.loc.length cc (m.cnt.map (Value.int .i64))
  blk : w.heap[b]? = some (.cells (mkCells A m.ns.length c lA m.loc.length lc sA m.loc.length sc cA m.loc.length cc m.held m.th m.deep) TM (0, 0))
  small : m.loc.length ≤ 200 ∧ m.th < 10 ∧ m.deep < 1000
  sz : ∀ x ∈ m.loc, x.size = 4
def MK (w : World) (B b : Nat) (m : MS) : Prop := ∃ A c lA lc sA sc cA cc, MKx w B b m A c lA lc sA sc cA cc
theorem Rw.len {w : World} {B : Nat} {E : TypeId} {A : Option Addr} {n c : Nat} {xs : List Value} (h : Rw w B E A n c xs) : n = xs.length := h.1
/-- A row stays where its block stays. -/
theorem Rw.same {w w' : World} {B : Nat} {E : TypeId} {A : Option Addr} {n c : Nat} {xs : List Value} (h : Rw w B E A n c xs) (hk : ∀ (g : Nat) (cs : Array Value), B ≤ g → w.heap[g]? = some (.cells cs E (0, 0)) → w'.heap[g]? = w.heap[g]?) : Rw w' B E A n c xs := by
  refine ⟨h.1, h.2.1, ?_⟩
  rcases h.2.2 with ⟨h1, h2⟩ | ⟨g, cap, cur, h1, h2, h3, h4⟩
  · exact .inl ⟨h1, h2⟩
  · exact .inr ⟨g, cap, cur, h1, h2, (hk g cur h2 h3).trans h3, h4⟩
/-- The maker stays where its blocks stay. -/
theorem MK.same {w w' : World} {B b : Nat} {m : MS} (h : MK w B b m) (hb : Below B w w') (hk : ∀ (g : Nat) (cs : Array Value) (E : TypeId), isMk E = true → B ≤ g → w.heap[g]? = some (.cells cs E (0, 0)) → w'.heap[g]? = w.heap[g]?) : MK w' B b m := by
  obtain ⟨A, c, lA, lc, sA, sc, cA, cc, h⟩ := h
  exact ⟨A, c, lA, lc, sA, sc, cA, cc, h.hB, h.ns.below hb, h.cap, h.few, h.l.same fun g cs h1 h2 => hk g cs _ rfl h1 h2, h.s.same fun g cs h1 h2 => hk g cs _ rfl h1 h2, h.k.same fun g cs h1 h2 => hk g cs _ rfl h1 h2, (hk b _ TM rfl h.hB h.blk).trans h.blk, h.small, h.sz⟩
theorem MK.lt {w : World} {B b : Nat} {m : MS} (h : MK w B b m) : B ≤ b ∧ b < w.heap.size := by
  obtain ⟨A, c, lA, lc, sA, sc, cA, cc, h⟩ := h
  exact ⟨h.hB, lt_heap h.blk⟩
theorem MK.below {w w' : World} {B b : Nat} {m : MS} (h : MK w B b m) (hb : Below w.heap.size w w') : MK w' B b m :=
  h.same (hb.mono (Nat.le_of_lt (Nat.lt_of_le_of_lt h.lt.1 h.lt.2))) fun g cs E _ _ hg => hb.block g (lt_heap hg)
theorem MK.alloc {w : World} {B b : Nat} {m : MS} (h : MK w B b m) (o : Obj) : MK (w.alloc o) B b m := h.below ((Below.refl _ _).alloc (Nat.le_refl _) o)
/-- A store into a block that is none of the maker's. -/
theorem MK.set {w : World} {B b : Nat} {m : MS} (h : MK w B b m) {g : Nat} {cs : Array Value} {E : TypeId} {fr : Nat × Nat} (hg : w.heap[g]? = some (.cells cs E fr)) (hE : isMk E = false) (hB : B ≤ g) (i : Nat) (v : Value) : MK (w.setCell ⟨g, i, none⟩ v) B b m :=
  h.same ((Below.refl B w).setCell (p := ⟨g, i, none⟩) hB v) fun g' cs' E' hm' _ hg' => Below.heap_setCell w ⟨g, i, none⟩ v g' (by
    rintro rfl
    rw [hg] at hg'
    injection hg' with hg'; injection hg' with _ e _
    rw [← e, hE] at hm'; cases hm')
end Go.Proofs.YtcdgjgoplogiiaaDoor.PT
