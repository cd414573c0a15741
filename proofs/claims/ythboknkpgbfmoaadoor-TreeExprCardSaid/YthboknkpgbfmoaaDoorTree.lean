/- Trees of expressions: their texts, how they lie in memory, and what a call may change beside one block. -/
import Derived.Test.YthboknkpgbfmoaaDoorProg
import Derived.WalkKit
import Derived.Below
import Derived.Lib.SmallJoins
import Derived.Lib.AppendIntMem
namespace Go.Proofs.YthboknkpgbfmoaaDoor.PQ
open Go.RowKit Go.Lib

/-- What an expression is. -/
inductive Tree where
  | lit (v : Nat)
  | name (s : ByteArray)
  | cell (s : ByteArray) (a : Tree)
  | bin (o : Nat) (a b : Tree)
  | not (a : Tree)
  | pick (a b c : Tree)

def tightOf (o : Nat) : Int := [6, 6, 7, 4, 1, 2, 5, 5, 3, 3].getD o 0
def signs : List ByteArray := [⟨#[43]⟩, ⟨#[45]⟩, ⟨#[42]⟩, ⟨#[38]⟩, ⟨#[124]⟩, ⟨#[94]⟩, ⟨#[60, 60]⟩, ⟨#[62, 62]⟩, ⟨#[61, 61]⟩, ⟨#[60]⟩]
def signOf (o : Nat) : ByteArray := signs.getD o ⟨#[]⟩

/-- The text of a binary expression without brackets. -/
def bare (o : Nat) (a b : ByteArray) : ByteArray := a ++ ⟨#[32]⟩ ++ signOf o ++ ⟨#[32]⟩ ++ b
/-- An expression's text. -/
def txt : Tree → Int → ByteArray
  | .lit v, _ => ⟨(Lib.decDigits v).toArray⟩
  | .name s, _ => s
  | .cell s a, _ => s ++ ⟨#[91]⟩ ++ txt a 0 ++ ⟨#[93]⟩
  | .not a, _ => ⟨#[126]⟩ ++ txt a 9
  | .pick a b c, _ => ⟨#[112, 105, 99, 107, 40]⟩ ++ txt a 0 ++ ⟨#[44, 32]⟩ ++ txt b 0 ++ ⟨#[44, 32]⟩ ++ txt c 0 ++ ⟨#[41]⟩
  | .bin o a b, t => if tightOf o < t then ⟨#[40]⟩ ++ bare o (txt a (tightOf o)) (txt b (tightOf o + 1)) ++ ⟨#[41]⟩ else bare o (txt a (tightOf o)) (txt b (tightOf o + 1))
/-- A bound of its length. -/
def bd : Tree → Nat
  | .lit _ => 20
  | .name s => s.size
  | .cell s a => 10 + s.size + bd a
  | .not a => 10 + bd a
  | .pick a b c => 20 + bd a + bd b + bd c
  | .bin _ a b => 20 + bd a + bd b
def ok : Tree → Prop
  | .lit v => v < 18446744073709551616
  | .name _ => True
  | .cell _ a => ok a
  | .not a => ok a
  | .pick a b c => ok a ∧ ok b ∧ ok c
  | .bin o a b => o < 10 ∧ ok a ∧ ok b
theorem tight_bd (o : Nat) : 0 ≤ tightOf o ∧ tightOf o ≤ 7 := by
  by_cases h : o < 10
  · rcases (show o = 0 ∨ o = 1 ∨ o = 2 ∨ o = 3 ∨ o = 4 ∨ o = 5 ∨ o = 6 ∨ o = 7 ∨ o = 8 ∨ o = 9 by omega) with h | h | h | h | h | h | h | h | h | h <;> subst h <;> decide
  · unfold tightOf
    rw [List.getD_eq_getElem?_getD, List.getElem?_eq_none (by simp; omega)]
    decide
theorem tight_pos (o : Nat) (h : o < 10) : 1 ≤ tightOf o := by
  rcases (show o = 0 ∨ o = 1 ∨ o = 2 ∨ o = 3 ∨ o = 4 ∨ o = 5 ∨ o = 6 ∨ o = 7 ∨ o = 8 ∨ o = 9 by omega) with h | h | h | h | h | h | h | h | h | h <;> subst h <;> decide
theorem sign_sz (o : Nat) : (signOf o).size ≤ 2 := by
  by_cases h : o < 10
  · rcases (show o = 0 ∨ o = 1 ∨ o = 2 ∨ o = 3 ∨ o = 4 ∨ o = 5 ∨ o = 6 ∨ o = 7 ∨ o = 8 ∨ o = 9 by omega) with h | h | h | h | h | h | h | h | h | h <;> subst h <;> decide
  · unfold signOf
    rw [List.getD_eq_getElem?_getD, List.getElem?_eq_none (by simp [signs]; omega)]
    decide
theorem dec_size (v : Nat) (h : v < 18446744073709551616) : (⟨(Lib.decDigits v).toArray⟩ : ByteArray).size ≤ 20 := by
  show (Lib.decDigits v).toArray.size ≤ 20
  rw [List.size_toArray, Lib.decDigits_length]
  by_cases h0 : v < 10
  · rw [Lib.nDigits_small h0]; decide
  · have := Lib.numDigits_eq v (by omega) h
    split at this <;> omega
theorem txt_size (t : Tree) (h : ok t) (k : Int) : (txt t k).size ≤ bd t := by
  induction t generalizing k with
  | lit v => exact dec_size v h
  | name s => exact Nat.le_refl _
  | cell s a ih =>
    have := ih h 0
    have e1 : (⟨#[91]⟩ : ByteArray).size = 1 := rfl
    have e2 : (⟨#[93]⟩ : ByteArray).size = 1 := rfl
    simp only [txt, bd, ByteArray.size_append, e1, e2]; omega
  | not a ih =>
    have := ih h 9
    have e1 : (⟨#[126]⟩ : ByteArray).size = 1 := rfl
    simp only [txt, bd, ByteArray.size_append, e1]; omega
  | pick a b c iha ihb ihc =>
    have := iha h.1 0
    have := ihb h.2.1 0
    have := ihc h.2.2 0
    have e1 : (⟨#[112, 105, 99, 107, 40]⟩ : ByteArray).size = 5 := rfl
    have e2 : (⟨#[44, 32]⟩ : ByteArray).size = 2 := rfl
    have e3 : (⟨#[41]⟩ : ByteArray).size = 1 := rfl
    simp only [txt, bd, ByteArray.size_append, e1, e2, e3]; omega
  | bin o a b iha ihb =>
    have := iha h.2.1 (tightOf o)
    have := ihb h.2.2 (tightOf o + 1)
    have := sign_sz o
    have e1 : (⟨#[40]⟩ : ByteArray).size = 1 := rfl
    have e2 : (⟨#[32]⟩ : ByteArray).size = 1 := rfl
    have e3 : (⟨#[41]⟩ : ByteArray).size = 1 := rfl
    simp only [txt, bd]
    split <;> simp only [bare, ByteArray.size_append, e1, e2, e3] <;> omega

/-- An expression as a value. -/
structure EV where
  k : Int
  o : Int
  s : ByteArray
  v : Int
  A : Option Addr
  n : Nat
abbrev EV.val (e : EV) : Value := .agg #[.int .i64 e.k, .int .i64 e.o, .string e.s, .int .u64 e.v, .slice e.A e.n e.n, .int .i64 0]
/-- Block g holds expressions, and nothing else. -/
def Row1 (w : World) (g : Nat) (x : EV) : Prop := w.heap[g]? = some (.cells #[.int .i64 x.k, .int .i64 x.o, .string x.s, .int .u64 x.v, .slice x.A x.n x.n, .int .i64 0] 35 (0, 0))
def Row2 (w : World) (g : Nat) (x y : EV) : Prop := w.heap[g]? = some (.cells #[.int .i64 x.k, .int .i64 x.o, .string x.s, .int .u64 x.v, .slice x.A x.n x.n, .int .i64 0, .int .i64 y.k, .int .i64 y.o, .string y.s, .int .u64 y.v, .slice y.A y.n y.n, .int .i64 0] 35 (0, 0))
def Row3 (w : World) (g : Nat) (x y z : EV) : Prop := w.heap[g]? = some (.cells #[.int .i64 x.k, .int .i64 x.o, .string x.s, .int .u64 x.v, .slice x.A x.n x.n, .int .i64 0, .int .i64 y.k, .int .i64 y.o, .string y.s, .int .u64 y.v, .slice y.A y.n y.n, .int .i64 0, .int .i64 z.k, .int .i64 z.o, .string z.s, .int .u64 z.v, .slice z.A z.n z.n, .int .i64 0] 35 (0, 0))
/-- The tree lies in memory, its blocks behind block B. -/
def At : Tree → Nat → World → EV → Prop
  | .lit v, _, _, e => e = ⟨0, 0, ⟨#[]⟩, v, none, 0⟩
  | .name s, _, _, e => e = ⟨1, 0, s, 0, none, 0⟩
  | .cell s a, B, w, e => ∃ g x, B ≤ g ∧ e = ⟨2, 0, s, 0, some ⟨g, 0, none⟩, 1⟩ ∧ Row1 w g x ∧ At a B w x
  | .bin o a b, B, w, e => ∃ g x y, B ≤ g ∧ e = ⟨3, o, ⟨#[]⟩, 0, some ⟨g, 0, none⟩, 2⟩ ∧ Row2 w g x y ∧ At a B w x ∧ At b B w y
  | .not a, B, w, e => ∃ g x, B ≤ g ∧ e = ⟨4, 0, ⟨#[]⟩, 0, some ⟨g, 0, none⟩, 1⟩ ∧ Row1 w g x ∧ At a B w x
  | .pick a b c, B, w, e => ∃ g x y z, B ≤ g ∧ e = ⟨5, 0, ⟨#[]⟩, 0, some ⟨g, 0, none⟩, 3⟩ ∧ Row3 w g x y z ∧ At a B w x ∧ At b B w y ∧ At c B w z
theorem lt_heap {w : World} {g : Nat} {o : Obj} (h : w.heap[g]? = some o) : g < w.heap.size := (Array.getElem?_eq_some_iff.1 h).1
theorem At.mono {t : Tree} {B B' : Nat} {w w' : World} {e : EV} (h : At t B w e) (hB : B' ≤ B) (hk : ∀ g, B ≤ g → g < w.heap.size → w'.heap[g]? = w.heap[g]?) : At t B' w' e := by
  induction t generalizing e with
  | lit v => exact h
  | name s => exact h
  | cell s a ih =>
    obtain ⟨g, x, hg, he, hr, ha⟩ := h
    exact ⟨g, x, by omega, he, (hk g hg (lt_heap hr)).trans hr, ih ha⟩
  | not a ih =>
    obtain ⟨g, x, hg, he, hr, ha⟩ := h
    exact ⟨g, x, by omega, he, (hk g hg (lt_heap hr)).trans hr, ih ha⟩
  | bin o a b iha ihb =>
    obtain ⟨g, x, y, hg, he, hr, ha, hb⟩ := h
    exact ⟨g, x, y, by omega, he, (hk g hg (lt_heap hr)).trans hr, iha ha, ihb hb⟩
  | pick a b c iha ihb ihc =>
    obtain ⟨g, x, y, z, hg, he, hr, ha, hb, hc⟩ := h
    exact ⟨g, x, y, z, by omega, he, (hk g hg (lt_heap hr)).trans hr, iha ha, ihb hb, ihc hc⟩
theorem At.below {t : Tree} {B : Nat} {w w' : World} {e : EV} (h : At t B w e) (hb : Below w.heap.size w w') : At t B w' e := h.mono (Nat.le_refl _) fun g _ hg => hb.block g hg
theorem At.alloc {t : Tree} {B : Nat} {w : World} {e : EV} (h : At t B w e) (o : Obj) : At t B (w.alloc o) e := h.below ((Below.refl _ _).alloc (Nat.le_refl _) o)

/-- Nothing of what there was is changed but block b. -/
structure Kept (b : Nat) (w w' : World) : Prop where
  below : Below b w w'
  rest : ∀ g, b < g → g < w.heap.size → w'.heap[g]? = w.heap[g]?
theorem Kept.size {b : Nat} {w w' : World} (h : Kept b w w') (_hb : b < w.heap.size) : w.heap.size ≤ w'.heap.size := h.below.size
theorem Kept.refl (b : Nat) (w : World) : Kept b w w := ⟨Below.refl _ _, fun _ _ _ => rfl⟩
theorem Kept.trans {b : Nat} {x y z : World} (h : Kept b x y) (k : Kept b y z) : Kept b x z :=
  ⟨h.below.trans k.below, fun g hg hl => (k.rest g hg (Nat.lt_of_lt_of_le hl h.below.size)).trans (h.rest g hg hl)⟩
theorem Kept.of {b : Nat} {w w' : World} (hb : Below w.heap.size w w') (h : b ≤ w.heap.size) : Kept b w w' := ⟨hb.mono h, fun g _ hl => hb.block g hl⟩
theorem Kept.alloc {b : Nat} {a w : World} (h : Kept b a w) (hb : b ≤ w.heap.size) (o : Obj) : Kept b a (w.alloc o) := h.trans (.of ((Below.refl _ _).alloc (Nat.le_refl _) o) hb)
theorem Kept.set {b : Nat} {a w : World} (h : Kept b a w) (i : Nat) (v : Value) : Kept b a (w.setCell ⟨b, i, none⟩ v) :=
  h.trans ⟨(Below.refl b w).setCell (p := ⟨b, i, none⟩) (Nat.le_refl b) v, fun g hg _ => Below.heap_setCell w ⟨b, i, none⟩ v g (by show g ≠ b; omega)⟩
theorem Kept.far {b : Nat} {a w : World} (h : Kept b a w) (hb : b ≤ a.heap.size) {p : Addr} (hp : a.heap.size ≤ p.block) (v : Value) : Kept b a (w.setCell p v) :=
  ⟨h.below.setCell (Nat.le_trans hb hp) v, fun g hg hl => (Below.heap_setCell w p v g (by omega)).trans (h.rest g hg hl)⟩
theorem At.kept {t : Tree} {b B : Nat} {w w' : World} {e : EV} (h : At t B w e) (hk : Kept b w w') (hb : b < B) : At t B w' e := h.mono (Nat.le_refl _) fun g hg hl => hk.rest g (by omega) hl
theorem At.set {t : Tree} {B : Nat} {w : World} {e : EV} (h : At t B w e) {p : Addr} (hp : p.block < B) (v : Value) : At t B (w.setCell p v) e := h.mono (Nat.le_refl _) fun g hg _ => Below.heap_setCell w p v g (by omega)
theorem At.more {t : Tree} {B B' : Nat} {w : World} {e : EV} (h : At t B w e) (hB : B' ≤ B) : At t B' w e := h.mono hB fun _ _ _ => rfl

/-- The table of the powers of ten is laid. -/
abbrev TB (w : World) : Prop := Lib.TabIs Tryd.prog w "internal/strconv.uint64pow10" .u64 Lib.pow10Tab

/-- The numbers that are still there. -/
def NS (w : World) (b : Nat) (A : Option Addr) (n : Nat) : Prop := 0 < n → ∃ ad, A = some ad ∧ ad.block < b ∧ ∀ j, j < n → ∃ x : Nat, x < 256 ∧ w.cell? (ad.add j) = some (.int .u8 x)
theorem NS.below {w w' : World} {b : Nat} {A : Option Addr} {n : Nat} (h : NS w b A n) (hb : Below b w w') : NS w' b A n := fun hn => by
  obtain ⟨ad, e, hl, hc⟩ := h hn
  refine ⟨ad, e, hl, fun j hj => ?_⟩
  obtain ⟨x, hx, hcell⟩ := hc j hj
  have hbl : (ad.add j).block = ad.block := by unfold Addr.add; split <;> rfl
  exact ⟨x, hx, (hb.cell (by rw [hbl]; exact hl)).trans hcell⟩
abbrev mkCells (A : Option Addr) (n c : Nat) : Array Value := #[.slice A n c, .slice none 0 0, .slice none 0 0, .slice none 0 0, .bool false, .int .i64 0, .int .i64 0]
/-- The maker in block b: no locals, nothing held, thread 0. -/
def MK (w : World) (b : Nat) : Prop := ∃ A n c, n ≤ c ∧ True ∧ NS w b A n ∧ w.heap[b]? = some (.cells (mkCells A n c) 29 (0, 0))
theorem MK.lt {w : World} {b : Nat} (h : MK w b) : b < w.heap.size := by
  obtain ⟨A, n, c, _, _, _, h⟩ := h
  exact lt_heap h
theorem MK.below {w w' : World} {b : Nat} (h : MK w b) (hb : Below w.heap.size w w') : MK w' b := by
  have hl := h.lt
  obtain ⟨A, n, c, h1, h2, h3, h4⟩ := h
  exact ⟨A, n, c, h1, h2, h3.below (hb.mono (Nat.le_of_lt hl)), (hb.block b hl).trans h4⟩
theorem MK.alloc {w : World} {b : Nat} (h : MK w b) (o : Obj) : MK (w.alloc o) b := h.below ((Below.refl _ _).alloc (Nat.le_refl _) o)
theorem MK.set {w : World} {b : Nat} (h : MK w b) {p : Addr} (hp : b < p.block) (v : Value) : MK (w.setCell p v) b := by
  obtain ⟨A, n, c, h1, h2, h3, h4⟩ := h
  exact ⟨A, n, c, h1, h2, h3.below ((Below.refl _ _).setCell (Nat.le_of_lt hp) v), (Below.heap_setCell w p v b (by omega)).trans h4⟩
end Go.Proofs.YthboknkpgbfmoaaDoor.PQ
