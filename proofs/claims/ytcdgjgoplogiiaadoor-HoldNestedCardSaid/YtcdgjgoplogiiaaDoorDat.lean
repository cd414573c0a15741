/- Programs as data: expressions, statements, declarations; their texts; how they lie in memory. -/
import Derived.Test.YtcdgjgoplogiiaaDoorProg
import Derived.WalkKit
import Derived.Below
import Derived.IntWalk
import Derived.Lib.Hide
import Derived.Laws.AppendOwn
import Derived.Lib.SmallJoins
import Derived.Lib.AppendIntMem
namespace Go.Proofs.YtcdgjgoplogiiaaDoor.PT
open Go.RowKit Go.Lib

/-! ### Words on blocks -/
theorem lt_heap {w : World} {g : Nat} {o : Obj} (h : w.heap[g]? = some o) : g < w.heap.size := (Array.getElem?_eq_some_iff.1 h).1
theorem blk_cell {w : World} {g : Nat} {t : TypeId} {cs : Array Value} (h : w.heap[g]? = some (.cells cs t (0, 0))) (i : Nat) : w.cell? ⟨g, i, none⟩ = cs[i]? := cell_of_row w g i cs t (0, 0) h
theorem blk_frozen {w : World} {g : Nat} {t : TypeId} {cs : Array Value} (h : w.heap[g]? = some (.cells cs t (0, 0))) (i : Nat) : w.frozen? ⟨g, i, none⟩ = false := by simp [World.frozen?, h]
theorem blk_alloc {w : World} {g : Nat} {o : Obj} (h : w.heap[g]? = some o) (o' : Obj) : (w.alloc o').heap[g]? = some o := (Below.heap_alloc w o' g (lt_heap h)).trans h
theorem blk_below {w w1 : World} {g : Nat} {o : Obj} (h : w.heap[g]? = some o) (hb : Below w.heap.size w w1) : w1.heap[g]? = some o := (hb.block g (lt_heap h)).trans h
theorem blk_new (w : World) (o : Obj) : (w.alloc o).heap[w.heap.size]? = some o := heap_alloc_new w o
theorem blk_set {w : World} {g : Nat} {t : TypeId} {cs : Array Value} (h : w.heap[g]? = some (.cells cs t (0, 0))) (i : Nat) (u : Value) : (w.setCell ⟨g, i, none⟩ u).heap[g]? = some (.cells (cs.setIfInBounds i u) t (0, 0)) := by
  simp [World.setCell, Array.getElem?_modify, h]
theorem blk_put {w : World} {g : Nat} {t : TypeId} {cs cs' : Array Value} (h : w.heap[g]? = some (.cells cs t (0, 0))) (i : Nat) (u : Value) (e : cs.setIfInBounds i u = cs') : (w.setCell ⟨g, i, none⟩ u).heap[g]? = some (.cells cs' t (0, 0)) := e ▸ blk_set h i u
theorem blk_far {w : World} {g : Nat} {o : Obj} (h : w.heap[g]? = some o) {p : Addr} (hp : g ≠ p.block) (u : Value) : (w.setCell p u).heap[g]? = some o := (Below.heap_setCell w p u g hp).trans h
theorem blk_grown {w w1 : World} {g : Nat} {o : Obj} {row : Option Nat} (h : w.heap[g]? = some o) (hg : w.grownBy w1 row) (hne : some g ≠ row) : w1.heap[g]? = some o := (hg.block g (lt_heap h) hne).trans h
theorem ret_int {k : IntKind} {a b : Int} (h : a = b) : Ending.returned (.int k a) = .returned (.int k b) := by rw [h]

/-! ### Expressions -/
inductive Tree where
  | lit (v : Nat) (p : Int)
  | name (s : ByteArray) (p : Int)
  | cell (s : ByteArray) (a : Tree) (p : Int)
  | bin (o : Nat) (a b : Tree) (p : Int)
  | not (a : Tree) (p : Int)
  | pick (a b c : Tree) (p : Int)
def Tree.pos : Tree → Int
  | .lit _ p => p
  | .name _ p => p
  | .cell _ _ p => p
  | .bin _ _ _ p => p
  | .not _ p => p
  | .pick _ _ _ p => p
def tightOf (o : Nat) : Int := [6, 6, 7, 4, 1, 2, 5, 5, 3, 3].getD o 0
def signs : List ByteArray := [⟨#[43]⟩, ⟨#[45]⟩, ⟨#[42]⟩, ⟨#[38]⟩, ⟨#[124]⟩, ⟨#[94]⟩, ⟨#[60, 60]⟩, ⟨#[62, 62]⟩, ⟨#[61, 61]⟩, ⟨#[60]⟩]
def signOf (o : Nat) : ByteArray := signs.getD o ⟨#[]⟩
/-- The text of a binary expression without brackets. -/
def bare (o : Nat) (a b : ByteArray) : ByteArray := a ++ ⟨#[32]⟩ ++ signOf o ++ ⟨#[32]⟩ ++ b
/-- An expression's text. -/
def txt : Tree → Int → ByteArray
  | .lit v _, _ => ⟨(Lib.decDigits v).toArray⟩
  | .name s _, _ => s
  | .cell s a _, _ => s ++ ⟨#[91]⟩ ++ txt a 0 ++ ⟨#[93]⟩
  | .not a _, _ => ⟨#[126]⟩ ++ txt a 9
  | .pick a b c _, _ => ⟨#[112, 105, 99, 107, 40]⟩ ++ txt a 0 ++ ⟨#[44, 32]⟩ ++ txt b 0 ++ ⟨#[44, 32]⟩ ++ txt c 0 ++ ⟨#[41]⟩
  | .bin o a b _, t => if tightOf o < t then ⟨#[40]⟩ ++ bare o (txt a (tightOf o)) (txt b (tightOf o + 1)) ++ ⟨#[41]⟩ else bare o (txt a (tightOf o)) (txt b (tightOf o + 1))
/-- A bound of its length. -/
def bd : Tree → Nat
  | .lit _ _ => 20
  | .name s _ => s.size
  | .cell s a _ => 10 + s.size + bd a
  | .not a _ => 10 + bd a
  | .pick a b c _ => 20 + bd a + bd b + bd c
  | .bin _ a b _ => 20 + bd a + bd b
def ok : Tree → Prop
  | .lit v _ => v < 18446744073709551616
  | .name _ _ => True
  | .cell _ a _ => ok a
  | .not a _ => ok a
  | .pick a b c _ => ok a ∧ ok b ∧ ok c
  | .bin o a b _ => o < 10 ∧ ok a ∧ ok b
theorem tight_bd (o : Nat) : 0 ≤ tightOf o ∧ tightOf o ≤ 7 := by
  by_cases h : o < 10
  · rcases (show o = 0 ∨ o = 1 ∨ o = 2 ∨ o = 3 ∨ o = 4 ∨ o = 5 ∨ o = 6 ∨ o = 7 ∨ o = 8 ∨ o = 9 by omega) with h | h | h | h | h | h | h | h | h | h <;> subst h <;> decide
  · unfold tightOf
    rw [List.getD_eq_getElem?_getD, List.getElem?_eq_none (by simp; omega)]
    decide
theorem tight_pos (o : Nat) (h : o < 10) : 1 ≤ tightOf o := by
  rcases (show o = 0 ∨ o = 1 ∨ o = 2 ∨ o = 3 ∨ o = 4 ∨ o = 5 ∨ o = 6 ∨ o = 7 ∨ o = 8 ∨ o = 9 by omega) with h | h | h | h | h | h | h | h | h | h <;> subst h <;> decide
theorem sign_sz (o : Nat) : (signOf o).size ≤ 2 := by
  by_cases h : o < 10
  · rcases (show o = 0 ∨ o = 1 ∨ o = 2 ∨ o = 3 ∨ o = 4 ∨ o = 5 ∨ o = 6 ∨ o = 7 ∨ o = 8 ∨ o = 9 by omega) with h | h | h | h | h | h | h | h | h | h <;> subst h <;> decide
  · unfold signOf
    rw [List.getD_eq_getElem?_getD, List.getElem?_eq_none (by simp [signs]; omega)]
    decide
theorem dec_size (v : Nat) (h : v < 18446744073709551616) : (⟨(Lib.decDigits v).toArray⟩ : ByteArray).size ≤ 20 := by
  show (Lib.decDigits v).toArray.size ≤ 20
  rw [List.size_toArray, Lib.decDigits_length]
  by_cases h0 : v < 10
  · rw [Lib.nDigits_small h0]; decide
  · have := Lib.numDigits_eq v (by omega) h
    split at this <;> omega
theorem txt_size (t : Tree) (h : ok t) (k : Int) : (txt t k).size ≤ bd t := by
  induction t generalizing k with
  | lit v p => exact dec_size v h
  | name s p => exact Nat.le_refl _
  | cell s a p ih =>
    have := ih h 0
    have e1 : (⟨#[91]⟩ : ByteArray).size = 1 := rfl
    have e2 : (⟨#[93]⟩ : ByteArray).size = 1 := rfl
    simp only [txt, bd, ByteArray.size_append, e1, e2]; omega
  | not a p ih =>
    have := ih h 9
    have e1 : (⟨#[126]⟩ : ByteArray).size = 1 := rfl
    simp only [txt, bd, ByteArray.size_append, e1]; omega
  | pick a b c p iha ihb ihc =>
    have := iha h.1 0
    have := ihb h.2.1 0
    have := ihc h.2.2 0
    have e1 : (⟨#[112, 105, 99, 107, 40]⟩ : ByteArray).size = 5 := rfl
    have e2 : (⟨#[44, 32]⟩ : ByteArray).size = 2 := rfl
    have e3 : (⟨#[41]⟩ : ByteArray).size = 1 := rfl
    simp only [txt, bd, ByteArray.size_append, e1, e2, e3]; omega
  | bin o a b p iha ihb =>
    have := iha h.2.1 (tightOf o)
    have := ihb h.2.2 (tightOf o + 1)
    have := sign_sz o
    have e1 : (⟨#[40]⟩ : ByteArray).size = 1 := rfl
    have e2 : (⟨#[32]⟩ : ByteArray).size = 1 := rfl
    have e3 : (⟨#[41]⟩ : ByteArray).size = 1 := rfl
    simp only [txt, bd]
    split <;> simp only [bare, ByteArray.size_append, e1, e2, e3] <;> omega

/-! ### Statements, declarations -/
/-- Statements, one behind the other: each its kind, name, expressions, count, body, else, place. -/
inductive Blk where
  | nil
  | cons (k : Nat) (s : ByteArray) (es : List Tree) (n : Int) (body els : Blk) (p : Int) (rest : Blk)
def Blk.wt : Blk → Nat
  | .nil => 0
  | .cons _ _ _ _ body els _ rest => 1 + body.wt + els.wt + rest.wt
def Blk.len : Blk → Nat
  | .nil => 0
  | .cons _ _ _ _ _ _ _ rest => 1 + rest.len
def Blk.app : Blk → Blk → Blk
  | .nil, c => c
  | .cons k s es n body els p rest, c => .cons k s es n body els p (rest.app c)
theorem Blk.app_nil (b : Blk) : b.app .nil = b := by
  induction b with
  | nil => rfl
  | cons k s es n body els p rest _ _ ih => simp only [Blk.app, ih]
theorem Blk.app_assoc (a b c : Blk) : (a.app b).app c = a.app (b.app c) := by
  induction a with
  | nil => rfl
  | cons k s es n body els p rest _ _ ih => simp only [Blk.app, ih]
theorem Blk.app_len (a b : Blk) : (a.app b).len = a.len + b.len := by
  induction a with
  | nil => simp [Blk.app, Blk.len]
  | cons k s es n body els p rest _ _ ih => simp only [Blk.app, Blk.len, ih]; omega
structure Dcl where
  lock : Bool
  label : Int
  name : ByteArray
  size : Int
  by' : ByteArray
  p : Int
structure Prg where
  ds : List Dcl
  ts : List Blk

/-! ### How they lie in memory -/
/-- Block g's first cells are cs. -/
def Row (w : World) (E : TypeId) (g : Nat) (cs : List Value) : Prop := ∃ cur : Array Value, w.heap[g]? = some (.cells cur E (0, 0)) ∧ ∀ (j : Nat) (u : Value), cs[j]? = some u → cur[j]? = some u
theorem Row.lt {w : World} {E : TypeId} {g : Nat} {cs : List Value} (h : Row w E g cs) : g < w.heap.size := by
  obtain ⟨cur, h, _⟩ := h
  exact lt_heap h
theorem Row.cell {w : World} {E : TypeId} {g : Nat} {cs : List Value} (h : Row w E g cs) {j : Nat} {u : Value} (hj : cs[j]? = some u) : w.cell? ⟨g, j, none⟩ = some u := by
  obtain ⟨cur, h, hc⟩ := h
  rw [blk_cell h j]; exact hc j u hj
theorem Row.same {w w' : World} {E : TypeId} {g : Nat} {cs : List Value} (h : Row w E g cs) (e : w'.heap[g]? = w.heap[g]?) : Row w' E g cs := by
  obtain ⟨cur, h, hc⟩ := h
  exact ⟨cur, e.trans h, hc⟩
theorem Row.of {w : World} {E : TypeId} {g : Nat} {cs : Array Value} (h : w.heap[g]? = some (.cells cs E (0, 0))) : Row w E g cs.toList := ⟨cs, h, fun j u hj => by simpa using hj⟩
theorem Row.own {w : World} {B : Nat} {E : TypeId} {sz n : Nat} {v : Value} {cs : List Value} (h : w.ownsRow B E sz v n cs) (g c : Nat) (hv : v = .slice (some ⟨g, 0, none⟩) n c) : Row w E g cs := by
  rcases h.2 with ⟨e, _⟩ | ⟨g', cap, cur, e, _, hg, _, _, _, ht⟩
  · rw [hv] at e; cases e
  · rw [hv] at e
    obtain rfl : g = g' := by injection e with e1 e2 e3; injection e1 with e1; injection e1
    refine ⟨cur, hg, fun j u hj => ?_⟩
    rw [← ht, List.getElem?_take] at hj
    split at hj
    · simpa using hj
    · cases hj
/-- An expression as a value. -/
structure EV where
  k : Int
  o : Int
  s : ByteArray
  v : Int
  A : Option Addr
  n : Nat
  c : Nat
  p : Int
abbrev EV.val (e : EV) : Value := .agg #[.int .i64 e.k, .int .i64 e.o, .string e.s, .int .u64 e.v, .slice e.A e.n e.c, .int .i64 e.p]
def EV.cells (e : EV) : List Value := [.int .i64 e.k, .int .i64 e.o, .string e.s, .int .u64 e.v, .slice e.A e.n e.c, .int .i64 e.p]
/-- A slice whose elements' cells are cs, n elements. -/
def Slc (w : World) (P : Nat → Prop) (E : TypeId) (A : Option Addr) (n c : Nat) (cs : List Value) : Prop :=
  (A = none ∧ n = 0 ∧ c = 0 ∧ cs = []) ∨ ∃ g, A = some ⟨g, 0, none⟩ ∧ P g ∧ n ≤ c ∧ c ≤ maxLen ∧ Row w E g cs
/-- Rows of a type stay as they were. -/
def Stay (E : TypeId) (P : Nat → Prop) (w w' : World) : Prop := ∀ g cs, P g → w.heap[g]? = some (.cells cs E (0, 0)) → w'.heap[g]? = w.heap[g]?
theorem Stay.of {E : TypeId} {P : Nat → Prop} {w w' : World} (hk : ∀ g, P g → g < w.heap.size → w'.heap[g]? = w.heap[g]?) : Stay E P w w' := fun g _ hg h => hk g hg (lt_heap h)
theorem Row.stay {w w' : World} {E : TypeId} {P : Nat → Prop} {g : Nat} {cs : List Value} (h : Row w E g cs) (hg : P g) (hk : Stay E P w w') : Row w' E g cs := by
  obtain ⟨cur, h1, h2⟩ := h
  exact ⟨cur, (hk g cur hg h1).trans h1, h2⟩
theorem Slc.stay {w w' : World} {P P' : Nat → Prop} {E : TypeId} {A : Option Addr} {n c : Nat} {cs : List Value} (h : Slc w P E A n c cs) (hP : ∀ g, P g → g < w.heap.size → P' g) (hk : Stay E P w w') : Slc w' P' E A n c cs := by
  rcases h with h | ⟨g, hA, hg, hn, hm, hr⟩
  · exact .inl h
  · exact .inr ⟨g, hA, hP g hg hr.lt, hn, hm, hr.stay hg hk⟩
theorem Slc.mono {w w' : World} {P P' : Nat → Prop} {E : TypeId} {A : Option Addr} {n c : Nat} {cs : List Value} (h : Slc w P E A n c cs) (hP : ∀ g, P g → g < w.heap.size → P' g) (hk : ∀ g, P g → g < w.heap.size → w'.heap[g]? = w.heap[g]?) : Slc w' P' E A n c cs := h.stay hP (Stay.of hk)
abbrev TE : TypeId := 42
abbrev TS : TypeId := 45
abbrev TD : TypeId := 64
abbrev TB' : TypeId := 36
/-- The tree lies in memory, its blocks are such as P says. -/
def At : Tree → (Nat → Prop) → World → EV → Prop
  | .lit v p, _, _, e => e = ⟨0, 0, ⟨#[]⟩, v, none, 0, 0, p⟩
  | .name s p, _, _, e => e = ⟨1, 0, s, 0, none, 0, 0, p⟩
  | .cell s a p, P, w, e => ∃ g c x, P g ∧ 1 ≤ c ∧ e = ⟨2, 0, s, 0, some ⟨g, 0, none⟩, 1, c, p⟩ ∧ Row w TE g x.cells ∧ At a P w x
  | .bin o a b p, P, w, e => ∃ g c x y, P g ∧ 2 ≤ c ∧ e = ⟨3, o, ⟨#[]⟩, 0, some ⟨g, 0, none⟩, 2, c, p⟩ ∧ Row w TE g (x.cells ++ y.cells) ∧ At a P w x ∧ At b P w y
  | .not a p, P, w, e => ∃ g c x, P g ∧ 1 ≤ c ∧ e = ⟨4, 0, ⟨#[]⟩, 0, some ⟨g, 0, none⟩, 1, c, p⟩ ∧ Row w TE g x.cells ∧ At a P w x
  | .pick a b d p, P, w, e => ∃ g c x y z, P g ∧ 3 ≤ c ∧ e = ⟨5, 0, ⟨#[]⟩, 0, some ⟨g, 0, none⟩, 3, c, p⟩ ∧ Row w TE g (x.cells ++ y.cells ++ z.cells) ∧ At a P w x ∧ At b P w y ∧ At d P w z
theorem At.stay {t : Tree} {P P' : Nat → Prop} {w w' : World} {e : EV} (h : At t P w e) (hP : ∀ g, P g → g < w.heap.size → P' g) (hk : Stay TE P w w') : At t P' w' e := by
  induction t generalizing e with
  | lit v p => exact h
  | name s p => exact h
  | cell s a p ih =>
    obtain ⟨g, c, x, hg, hc, he, hr, ha⟩ := h
    exact ⟨g, c, x, hP g hg hr.lt, hc, he, hr.stay hg hk, ih ha⟩
  | not a p ih =>
    obtain ⟨g, c, x, hg, hc, he, hr, ha⟩ := h
    exact ⟨g, c, x, hP g hg hr.lt, hc, he, hr.stay hg hk, ih ha⟩
  | bin o a b p iha ihb =>
    obtain ⟨g, c, x, y, hg, hc, he, hr, ha, hb⟩ := h
    exact ⟨g, c, x, y, hP g hg hr.lt, hc, he, hr.stay hg hk, iha ha, ihb hb⟩
  | pick a b d p iha ihb ihd =>
    obtain ⟨g, c, x, y, z, hg, hc, he, hr, ha, hb, hd⟩ := h
    exact ⟨g, c, x, y, z, hP g hg hr.lt, hc, he, hr.stay hg hk, iha ha, ihb hb, ihd hd⟩
theorem At.mono {t : Tree} {P P' : Nat → Prop} {w w' : World} {e : EV} (h : At t P w e) (hP : ∀ g, P g → g < w.heap.size → P' g) (hk : ∀ g, P g → g < w.heap.size → w'.heap[g]? = w.heap[g]?) : At t P' w' e := h.stay hP (Stay.of hk)
theorem At.below {t : Tree} {P : Nat → Prop} {w w' : World} {e : EV} (h : At t P w e) (hb : Below w.heap.size w w') : At t P w' e := h.mono (fun _ hg _ => hg) fun g _ hg => hb.block g hg
theorem At.alloc {t : Tree} {P : Nat → Prop} {w : World} {e : EV} (h : At t P w e) (o : Obj) : At t P (w.alloc o) e := h.below ((Below.refl _ _).alloc (Nat.le_refl _) o)

/-- Expressions, one behind the other. -/
def FA : List Tree → (Nat → Prop) → World → List EV → Prop
  | [], _, _, ys => ys = []
  | t :: ts, P, w, ys => ∃ x xs, ys = x :: xs ∧ At t P w x ∧ FA ts P w xs
theorem FA.stay {ts : List Tree} {P P' : Nat → Prop} {w w' : World} {ys : List EV} (h : FA ts P w ys) (hP : ∀ g, P g → g < w.heap.size → P' g) (hk : Stay TE P w w') : FA ts P' w' ys := by
  induction ts generalizing ys with
  | nil => exact h
  | cons t ts ih =>
    obtain ⟨x, xs, he, ha, hr⟩ := h
    exact ⟨x, xs, he, ha.stay hP hk, ih hr⟩
theorem FA.mono {ts : List Tree} {P P' : Nat → Prop} {w w' : World} {ys : List EV} (h : FA ts P w ys) (hP : ∀ g, P g → g < w.heap.size → P' g) (hk : ∀ g, P g → g < w.heap.size → w'.heap[g]? = w.heap[g]?) : FA ts P' w' ys := h.stay hP (Stay.of hk)
theorem FA.length {ts : List Tree} {P : Nat → Prop} {w : World} {ys : List EV} (h : FA ts P w ys) : ys.length = ts.length := by
  induction ts generalizing ys with
  | nil => rw [show ys = [] from h]; rfl
  | cons t ts ih =>
    obtain ⟨x, xs, rfl, _, hr⟩ := h
    simp [ih hr]
/-- The slice of a statement's expressions. -/
def Es (es : List Tree) (P : Nat → Prop) (w : World) (A : Option Addr) (n c : Nat) : Prop := n = es.length ∧ ∃ ys, FA es P w ys ∧ Slc w P TE A n c (ys.flatMap EV.cells)
theorem Es.stay {es : List Tree} {P P' : Nat → Prop} {w w' : World} {A : Option Addr} {n c : Nat} (h : Es es P w A n c) (hP : ∀ g, P g → g < w.heap.size → P' g) (hk : Stay TE P w w') : Es es P' w' A n c := by
  obtain ⟨hn, ys, hf, hs⟩ := h
  exact ⟨hn, ys, hf.stay hP hk, hs.stay hP hk⟩
theorem Es.mono {es : List Tree} {P P' : Nat → Prop} {w w' : World} {A : Option Addr} {n c : Nat} (h : Es es P w A n c) (hP : ∀ g, P g → g < w.heap.size → P' g) (hk : ∀ g, P g → g < w.heap.size → w'.heap[g]? = w.heap[g]?) : Es es P' w' A n c := h.stay hP (Stay.of hk)
/-- A statement as a value. -/
structure SV where
  k : Int
  s : ByteArray
  eA : Option Addr
  en : Nat
  ec : Nat
  n : Int
  bA : Option Addr
  bn : Nat
  bc : Nat
  lA : Option Addr
  ln : Nat
  lc : Nat
  p : Int
abbrev SV.val (e : SV) : Value := .agg #[.int .i64 e.k, .string e.s, .slice e.eA e.en e.ec, .int .i64 e.n, .slice e.bA e.bn e.bc, .slice e.lA e.ln e.lc, .int .i64 e.p]
def SV.cells (e : SV) : List Value := [.int .i64 e.k, .string e.s, .slice e.eA e.en e.ec, .int .i64 e.n, .slice e.bA e.bn e.bc, .slice e.lA e.ln e.lc, .int .i64 e.p]
/-- The statements lie in memory as values. -/
def BA : Blk → (Nat → Prop) → World → List SV → Prop
  | .nil, _, _, l => l = []
  | .cons k s es n body els p rest, P, w, l => ∃ x xs, l = x :: xs ∧ x.k = k ∧ x.s = s ∧ x.n = n ∧ x.p = p ∧ Es es P w x.eA x.en x.ec ∧
      (∃ l1, BA body P w l1 ∧ x.bn = body.len ∧ Slc w P TS x.bA x.bn x.bc (l1.flatMap SV.cells)) ∧ (∃ l2, BA els P w l2 ∧ x.ln = els.len ∧ Slc w P TS x.lA x.ln x.lc (l2.flatMap SV.cells)) ∧ BA rest P w xs
theorem BA.stay {b : Blk} {P P' : Nat → Prop} {w w' : World} {l : List SV} (h : BA b P w l) (hP : ∀ g, P g → g < w.heap.size → P' g) (hk : Stay TE P w w') (hs : Stay TS P w w') : BA b P' w' l := by
  induction b generalizing l with
  | nil => exact h
  | cons k s es n body els p rest ib ie ir =>
    obtain ⟨x, xs, h1, h2, h3, h4, h5, h6, ⟨l1, h7, h8, h9⟩, ⟨l2, h10, h11, h12⟩, h13⟩ := h
    exact ⟨x, xs, h1, h2, h3, h4, h5, h6.stay hP hk, ⟨l1, ib h7, h8, h9.stay hP hs⟩, ⟨l2, ie h10, h11, h12.stay hP hs⟩, ir h13⟩
theorem BA.mono {b : Blk} {P P' : Nat → Prop} {w w' : World} {l : List SV} (h : BA b P w l) (hP : ∀ g, P g → g < w.heap.size → P' g) (hk : ∀ g, P g → g < w.heap.size → w'.heap[g]? = w.heap[g]?) : BA b P' w' l := h.stay hP (Stay.of hk) (Stay.of hk)
theorem BA.length {b : Blk} {P : Nat → Prop} {w : World} {l : List SV} (h : BA b P w l) : l.length = b.len := by
  induction b generalizing l with
  | nil => rw [show l = [] from h]; rfl
  | cons k s es n body els p rest ib ie ir =>
    obtain ⟨x, xs, rfl, _, _, _, _, _, _, _, h⟩ := h
    simp only [List.length_cons, Blk.len, ir h]; omega
theorem BA.app {a b : Blk} {P : Nat → Prop} {w : World} {l m : List SV} (h : BA a P w l) (h' : BA b P w m) : BA (a.app b) P w (l ++ m) := by
  induction a generalizing l with
  | nil => rw [show l = [] from h]; exact h'
  | cons k s es n body els p rest ib ie ir =>
    obtain ⟨x, xs, rfl, h2, h3, h4, h5, h6, h7, h8, h9⟩ := h
    exact ⟨x, xs ++ m, rfl, h2, h3, h4, h5, h6, h7, h8, ir h9⟩
/-- A slice of statements. -/
def Bs (b : Blk) (P : Nat → Prop) (w : World) (A : Option Addr) (n c : Nat) : Prop := n = b.len ∧ ∃ l, BA b P w l ∧ Slc w P TS A n c (l.flatMap SV.cells)
theorem Bs.stay {b : Blk} {P P' : Nat → Prop} {w w' : World} {A : Option Addr} {n c : Nat} (h : Bs b P w A n c) (hP : ∀ g, P g → g < w.heap.size → P' g) (hk : Stay TE P w w') (ht : Stay TS P w w') : Bs b P' w' A n c := by
  obtain ⟨hn, ys, hf, hs⟩ := h
  exact ⟨hn, ys, hf.stay hP hk ht, hs.stay hP ht⟩
theorem Bs.mono {b : Blk} {P P' : Nat → Prop} {w w' : World} {A : Option Addr} {n c : Nat} (h : Bs b P w A n c) (hP : ∀ g, P g → g < w.heap.size → P' g) (hk : ∀ g, P g → g < w.heap.size → w'.heap[g]? = w.heap[g]?) : Bs b P' w' A n c := h.stay hP (Stay.of hk) (Stay.of hk)
/-- The cells of the k-th element. -/
theorem flat_get {α : Type} (f : α → List Value) (s : Nat) (hs : ∀ x, (f x).length = s) (l : List α) (k : Nat) (x : α) (hk : l[k]? = some x) (j : Nat) (hj : j < s) : (l.flatMap f)[k * s + j]? = (f x)[j]? := by
  induction l generalizing k with
  | nil => simp at hk
  | cons y ys ih =>
    rw [List.flatMap_cons]
    cases k with
    | zero =>
      simp at hk; subst hk
      rw [Nat.zero_mul, Nat.zero_add, List.getElem?_append_left (by rw [hs]; exact hj)]
    | succ k =>
      simp at hk
      rw [List.getElem?_append_right (by rw [hs, Nat.succ_mul]; omega), hs, show (k + 1) * s + j - s = k * s + j by rw [Nat.succ_mul]; omega]
      exact ih k hk
theorem flat_len {α : Type} (f : α → List Value) (s : Nat) (hs : ∀ x, (f x).length = s) (l : List α) : (l.flatMap f).length = l.length * s := by
  induction l with
  | nil => simp
  | cons y ys ih => rw [List.flatMap_cons, List.length_append, hs, ih, List.length_cons, Nat.succ_mul]; omega

/-- Nothing of what there was is changed but block b. -/
structure Kept (b : Nat) (w w' : World) : Prop where
  below : Below b w w'
  rest : ∀ g, b < g → g < w.heap.size → w'.heap[g]? = w.heap[g]?
theorem Kept.size {b : Nat} {w w' : World} (h : Kept b w w') : w.heap.size ≤ w'.heap.size := h.below.size
theorem Kept.refl (b : Nat) (w : World) : Kept b w w := ⟨Below.refl _ _, fun _ _ _ => rfl⟩
theorem Kept.trans {b : Nat} {x y z : World} (h : Kept b x y) (k : Kept b y z) : Kept b x z :=
  ⟨h.below.trans k.below, fun g hg hl => (k.rest g hg (Nat.lt_of_lt_of_le hl h.below.size)).trans (h.rest g hg hl)⟩
theorem Kept.of {b : Nat} {w w' : World} (hb : Below w.heap.size w w') (h : b ≤ w.heap.size) : Kept b w w' := ⟨hb.mono h, fun g _ hl => hb.block g hl⟩
theorem Kept.alloc {b : Nat} {a w : World} (h : Kept b a w) (hb : b ≤ w.heap.size) (o : Obj) : Kept b a (w.alloc o) := h.trans (.of ((Below.refl _ _).alloc (Nat.le_refl _) o) hb)
theorem Kept.set {b : Nat} {a w : World} (h : Kept b a w) (i : Nat) (v : Value) : Kept b a (w.setCell ⟨b, i, none⟩ v) :=
  h.trans ⟨(Below.refl b w).setCell (p := ⟨b, i, none⟩) (Nat.le_refl b) v, fun g hg _ => Below.heap_setCell w ⟨b, i, none⟩ v g (by show g ≠ b; omega)⟩
theorem Kept.far {b : Nat} {a w : World} (h : Kept b a w) (hb : b ≤ a.heap.size) {p : Addr} (hp : a.heap.size ≤ p.block) (v : Value) : Kept b a (w.setCell p v) :=
  ⟨h.below.setCell (Nat.le_trans hb hp) v, fun g hg hl => (Below.heap_setCell w p v g (by omega)).trans (h.rest g hg hl)⟩
theorem Kept.get {b : Nat} {w w' : World} (h : Kept b w w') {g : Nat} (hg : g ≠ b) (hl : g < w.heap.size) : w'.heap[g]? = w.heap[g]? := by
  rcases Nat.lt_or_gt_of_ne hg with h1 | h1
  · exact h.below.block g h1
  · exact h.rest g h1 hl
end Go.Proofs.YtcdgjgoplogiiaaDoor.PT
