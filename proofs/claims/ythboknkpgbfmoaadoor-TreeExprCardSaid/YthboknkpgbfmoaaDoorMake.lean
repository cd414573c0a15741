/- The contracts of the maker's expressions: public, cellOf, secretly. -/
import Derived.Test.YthboknkpgbfmoaaDoorLeaf
import Derived.LoopN
namespace Go.Proofs.YthboknkpgbfmoaaDoor.PQ
open Go.RowKit Go.Lib Go.Proofs.YthboknkpgbfmoaaDoorW.PrintWords
set_option linter.unusedVariables false
set_option linter.unusedSimpArgs false

/-- What comes of an expression that is made. -/
def MadePost (b N : Nat) (w : World) (e : Ending) (w' : World) : Prop := ∃ t x, e = .returned (EV.val x) ∧ At t w.heap.size w' x ∧ ok t ∧ bd t ≤ N ∧ MK w' b ∧ Kept b w w'
def CellPost (b N : Nat) (s : ByteArray) (w : World) (e : Ending) (w' : World) : Prop := ∃ s' t x, s'.size = s.size ∧ e = .returned (.tuple #[.string s', EV.val x]) ∧ At t w.heap.size w' x ∧ ok t ∧ bd t ≤ N ∧ MK w' b ∧ Kept b w w'
def Pb : Nat → Nat
  | 0 => 100
  | k + 1 => 2 * Pb k + 200
def PubSays (b k : Nat) : Prop := ∀ (deep : Int) (w : World), 0 ≤ deep → deep ≤ 100 → 4 ≤ deep + k → MK w b → Calls Tryd.prog 10 #[.pointer (some ⟨b, 0, none⟩), .int .i64 deep] w (MadePost b (Pb k) w)
theorem MK.cells {w : World} {b : Nat} (h : MK w b) : ∃ A n c, w.heap[b]? = some (.cells (mkCells A n c) 29 (0, 0)) := by
  obtain ⟨A, n, c, _, _, _, h⟩ := h
  exact ⟨A, n, c, h⟩

/-- A result's block, not yet written. -/
def ZB (w : World) (g : Nat) : Prop := w.heap[g]? = some (.cells #[.int .i64 0, .int .i64 0, .string ⟨#[]⟩, .int .u64 0, .slice none 0 0, .int .i64 0] 35 (0, 0))
theorem ZB.new (w : World) : ZB (w.alloc (.cells #[.int .i64 0, .int .i64 0, .string ⟨#[]⟩, .int .u64 0, .slice none 0 0, .int .i64 0] 35)) w.heap.size := blk_new _ _
theorem ZB.kept {w w' : World} {b g : Nat} (h : ZB w g) (hk : Kept b w w') (hb : b < g) : ZB w' g := (hk.rest g hb (lt_heap h)).trans h
theorem ZB.below {w w' : World} {g : Nat} (h : ZB w g) (hk : Below w.heap.size w w') : ZB w' g := blk_below h hk
theorem ZB.facts {w : World} {g : Nat} (h : ZB w g) : g < w.heap.size ∧ (w.cell? ⟨g, 0, none⟩ = some (.int .i64 0) ∧ w.cell? ⟨g, 1, none⟩ = some (.int .i64 0) ∧ w.cell? ⟨g, 2, none⟩ = some (.string ⟨#[]⟩) ∧ w.cell? ⟨g, 3, none⟩ = some (.int .u64 0) ∧ w.cell? ⟨g, 4, none⟩ = some (.slice none 0 0) ∧ w.cell? ⟨g, 5, none⟩ = some (.int .i64 0)) ∧
    w.frozen? ⟨g, 0, none⟩ = false ∧ w.frozen? ⟨g, 1, none⟩ = false ∧ w.frozen? ⟨g, 2, none⟩ = false ∧ w.frozen? ⟨g, 3, none⟩ = false ∧ w.frozen? ⟨g, 4, none⟩ = false ∧ w.frozen? ⟨g, 5, none⟩ = false :=
  ⟨lt_heap h, ⟨(blk_cell h 0).trans rfl, (blk_cell h 1).trans rfl, (blk_cell h 2).trans rfl, (blk_cell h 3).trans rfl, (blk_cell h 4).trans rfl, (blk_cell h 5).trans rfl⟩, blk_frozen h 0, blk_frozen h 1, blk_frozen h 2, blk_frozen h 3, blk_frozen h 4, blk_frozen h 5⟩
/-- An expression is stored into a block. -/
abbrev put6 (w : World) (g : Nat) (x : EV) : World := (((((w.setCell ⟨g, 0, none⟩ (.int .i64 x.k)).setCell ⟨g, 1, none⟩ (.int .i64 x.o)).setCell ⟨g, 2, none⟩ (.string x.s)).setCell ⟨g, 3, none⟩ (.int .u64 x.v)).setCell ⟨g, 4, none⟩ (.slice x.A x.n x.n)).setCell ⟨g, 5, none⟩ (.int .i64 0)
theorem put6_row {w : World} {g : Nat} (h : ZB w g) (x : EV) : Row1 (put6 w g x) g x :=
  blk_put (blk_put (blk_put (blk_put (blk_put (blk_put h 0 (.int .i64 x.k) rfl) 1 (.int .i64 x.o) rfl) 2 (.string x.s) rfl) 3 (.int .u64 x.v) rfl) 4 (.slice x.A x.n x.n) rfl) 5 (.int .i64 0) rfl
theorem Row1.facts {w : World} {g : Nat} {x : EV} (h : Row1 w g x) : w.cell? ⟨g, 0, none⟩ = some (.int .i64 x.k) ∧ w.cell? ⟨g, 1, none⟩ = some (.int .i64 x.o) ∧ w.cell? ⟨g, 2, none⟩ = some (.string x.s) ∧ w.cell? ⟨g, 3, none⟩ = some (.int .u64 x.v) ∧ w.cell? ⟨g, 4, none⟩ = some (.slice x.A x.n x.n) ∧ w.cell? ⟨g, 5, none⟩ = some (.int .i64 0) :=
  ⟨(blk_cell h 0).trans rfl, (blk_cell h 1).trans rfl, (blk_cell h 2).trans rfl, (blk_cell h 3).trans rfl, (blk_cell h 4).trans rfl, (blk_cell h 5).trans rfl⟩
theorem Kept.put6 {b : Nat} {a w : World} (h : Kept b a w) (hb : b ≤ a.heap.size) {g : Nat} (hg : a.heap.size ≤ g) (x : EV) : Kept b a (put6 w g x) :=
  (((((h.far hb (p := ⟨g, 0, none⟩) hg _).far hb (p := ⟨g, 1, none⟩) hg _).far hb (p := ⟨g, 2, none⟩) hg _).far hb (p := ⟨g, 3, none⟩) hg _).far hb (p := ⟨g, 4, none⟩) hg _).far hb (p := ⟨g, 5, none⟩) hg _
theorem At.put6 {t : Tree} {B : Nat} {w : World} {e : EV} (h : At t B w e) {g : Nat} (hg : g < B) (x : EV) : At t B (put6 w g x) e :=
  (((((h.set (p := ⟨g, 0, none⟩) hg _).set (p := ⟨g, 1, none⟩) hg _).set (p := ⟨g, 2, none⟩) hg _).set (p := ⟨g, 3, none⟩) hg _).set (p := ⟨g, 4, none⟩) hg _).set (p := ⟨g, 5, none⟩) hg _
theorem MK.put6 {w : World} {b : Nat} (h : MK w b) {g : Nat} (hg : b < g) (x : EV) : MK (put6 w g x) b :=
  (((((h.set (p := ⟨g, 0, none⟩) hg _).set (p := ⟨g, 1, none⟩) hg _).set (p := ⟨g, 2, none⟩) hg _).set (p := ⟨g, 3, none⟩) hg _).set (p := ⟨g, 4, none⟩) hg _).set (p := ⟨g, 5, none⟩) hg _
theorem put6_size (w : World) (g : Nat) (x : EV) : (put6 w g x).heap.size = w.heap.size := by simp
theorem Kept.fin0 {b : Nat} {w w1 w3 : World} {o : Obj} (hl : b < w.heap.size) (h1 : Kept b (w.alloc o) w1) (h3 : Kept b w1 w3) (x : EV) : Kept b w (PQ.put6 w3 w.heap.size x) :=
  Kept.put6 ((((Kept.refl b w).alloc (Nat.le_of_lt hl) o).trans h1).trans h3) (Nat.le_of_lt hl) (Nat.le_refl _) x
theorem Kept.fin {b : Nat} {w w1 w3 : World} {o : Obj} (hl : b < w.heap.size) (h1 : Kept b (w.alloc o) w1) (h3 : Kept b w1 w3) (x : EV) (o' : Obj) : Kept b w ((PQ.put6 w3 w.heap.size x).alloc o') := by
  have h := Kept.fin0 hl h1 h3 x
  exact h.alloc (Nat.le_trans (Nat.le_of_lt hl) (h.size hl)) o'
/-- Rows of new expressions. -/
abbrev row1 (x : EV) : Obj := .cells #[.int .i64 x.k, .int .i64 x.o, .string x.s, .int .u64 x.v, .slice x.A x.n x.n, .int .i64 0] 35
abbrev row2 (x y : EV) : Obj := .cells #[.int .i64 x.k, .int .i64 x.o, .string x.s, .int .u64 x.v, .slice x.A x.n x.n, .int .i64 0, .int .i64 y.k, .int .i64 y.o, .string y.s, .int .u64 y.v, .slice y.A y.n y.n, .int .i64 0] 35
abbrev row3 (x y z : EV) : Obj := .cells #[.int .i64 x.k, .int .i64 x.o, .string x.s, .int .u64 x.v, .slice x.A x.n x.n, .int .i64 0, .int .i64 y.k, .int .i64 y.o, .string y.s, .int .u64 y.v, .slice y.A y.n y.n, .int .i64 0, .int .i64 z.k, .int .i64 z.o, .string z.s, .int .u64 z.v, .slice z.A z.n z.n, .int .i64 0] 35
theorem At.cell_mk {a : Tree} {B : Nat} {w : World} {x : EV} (s : ByteArray) (h : At a B w x) {n : Nat} (hn : n = w.heap.size) (hB : B ≤ n) : At (.cell s a) B (w.alloc (row1 x)) ⟨2, 0, s, 0, some ⟨n, 0, none⟩, 1⟩ :=
  ⟨n, x, hB, rfl, by subst hn; exact blk_new _ _, h.alloc _⟩
theorem At.not_mk {a : Tree} {B : Nat} {w : World} {x : EV} (h : At a B w x) {n : Nat} (hn : n = w.heap.size) (hB : B ≤ n) : At (.not a) B (w.alloc (row1 x)) ⟨4, 0, ⟨#[]⟩, 0, some ⟨n, 0, none⟩, 1⟩ :=
  ⟨n, x, hB, rfl, by subst hn; exact blk_new _ _, h.alloc _⟩
theorem At.bin_mk {a c : Tree} {B : Nat} {w : World} {x y : EV} (o : Nat) (h : At a B w x) (h' : At c B w y) {n : Nat} (hn : n = w.heap.size) (hB : B ≤ n) : At (.bin o a c) B (w.alloc (row2 x y)) ⟨3, o, ⟨#[]⟩, 0, some ⟨n, 0, none⟩, 2⟩ :=
  ⟨n, x, y, hB, rfl, by subst hn; exact blk_new _ _, h.alloc _, h'.alloc _⟩
theorem At.pick_mk {a c d : Tree} {B : Nat} {w : World} {x y z : EV} (h : At a B w x) (h' : At c B w y) (h'' : At d B w z) {n : Nat} (hn : n = w.heap.size) (hB : B ≤ n) : At (.pick a c d) B (w.alloc (row3 x y z)) ⟨5, 0, ⟨#[]⟩, 0, some ⟨n, 0, none⟩, 3⟩ :=
  ⟨n, x, y, z, hB, rfl, by subst hn; exact blk_new _ _, h.alloc _, h'.alloc _, h''.alloc _⟩

set_option maxHeartbeats 1000000 in
theorem cellOf_calls (b k : Nat) (hp : Hid (PubSays b k)) (s : ByteArray) (deep : Int) (w : World) (h0 : 0 ≤ deep) (h1 : deep ≤ 50) (h4 : 4 ≤ deep + 1 + k) (hm : MK w b) :
    Calls Tryd.prog 12 #[.pointer (some ⟨b, 0, none⟩), .string s, .int .i64 deep] w (CellPost b (100 + Pb k) s w) := by
  have HM := Lib.hid hm
  clear hm
  go_enter Tryd.func12, Tryd.ntmps12
  go_wp2_with fail
  refine (next_calls b 3 (by omega) (by omega) _ (HM.out.alloc _)).mono ?_
  rintro e w1 ⟨kk, rfl, hk, hM1, hK1⟩
  obtain ⟨A, n, c, hb⟩ := hM1.cells
  have c1 : w1.cell? ⟨b, 1, none⟩ = some (.slice none 0 0) := (blk_cell hb 1).trans rfl
  have HB := Lib.hid hb
  have HM1 := Lib.hid hM1
  have HK1 := Lib.hid hK1
  clear hb hM1 hK1
  rcases (show kk = 1 ∨ (kk = 0 ∨ kk = 2) by omega) with rfl | hk2
  · go_wp2_with fail
    refine (hp.out (deep + 1) _ (by omega) (by omega) (by omega) HM1.out).mono ?_
    rintro e w2 ⟨t, x, rfl, hat, hok, hbd, hM2, hK2⟩
    have HA := Lib.hid hat
    have HM2 := Lib.hid hM2
    have HK2 := Lib.hid hK2
    have HO := Lib.hid hok
    have HD := Lib.hid hbd
    clear hat hM2 hK2 hok hbd
    go_wp2_with fail
    refine (literal_calls _ 3 (by omega) (by omega) _).mono ?_
    rintro e w3 ⟨rfl, hb3⟩
    have HZ := Lib.hid (((ZB.new w).kept HK1.out HM.out.lt).kept HK2.out HM.out.lt |>.below hb3)
    have HB3 := Lib.hid hb3
    clear hb3
    obtain ⟨z, ⟨z0, z1, z2, z3, z4, z5⟩, f0, f1, f2, f3, f4, f5⟩ := HZ.out.facts
    have s1 : w.heap.size + 1 ≤ w1.heap.size := by have := HK1.out.below.size; simpa using this
    have s2 : w1.heap.size ≤ w2.heap.size := HK2.out.size HM1.out.lt
    have s3 : w2.heap.size ≤ w3.heap.size := HB3.out.size
    have hl := HM.out.lt
    go_wp2
    obtain ⟨r0, r1, r2, r3, r4, r5⟩ := Row1.facts (blk_alloc (put6_row HZ.out ⟨3, 3, ⟨#[]⟩, 0, some ⟨w3.heap.size, 0, none⟩, 2⟩) (row2 x ⟨0, 0, ⟨#[]⟩, 3, none, 0⟩))
    refine bodyPost_ret (v := .tuple #[.string s, EV.val ⟨3, 3, ⟨#[]⟩, 0, some ⟨w3.heap.size, 0, none⟩, 2⟩]) (by simp [results, Tryd.results12, go_sem, r0, r1, r2, r3, r4, r5]) rfl ⟨s, .bin 3 t (.lit 3), ⟨3, 3, ⟨#[]⟩, 0, some ⟨w3.heap.size, 0, none⟩, 2⟩, rfl, rfl, ?_, ⟨by omega, HO.out, by show 3 < 18446744073709551616; omega⟩, ?_, ?_, ?_⟩
    · have hA : At t (w.heap.size + 1) (put6 w3 w.heap.size ⟨3, 3, ⟨#[]⟩, 0, some ⟨w3.heap.size, 0, none⟩, 2⟩) x := At.put6 (At.below (At.more HA.out s1) HB3.out) (Nat.lt_succ_self _) _
      have hL : At (.lit 3) (w.heap.size + 1) (put6 w3 w.heap.size ⟨3, 3, ⟨#[]⟩, 0, some ⟨w3.heap.size, 0, none⟩, 2⟩) ⟨0, 0, ⟨#[]⟩, 3, none, 0⟩ := rfl
      exact At.more (At.bin_mk 3 hA hL (put6_size _ _ _).symm z) (Nat.le_succ _)
    · have := HD.out
      simp only [bd]; omega
    · exact MK.alloc (MK.put6 (HM2.out.below HB3.out) hl ⟨3, 3, ⟨#[]⟩, 0, some ⟨w3.heap.size, 0, none⟩, 2⟩) _
    · exact Kept.fin hl HK1.out (HK2.out.trans (Kept.of HB3.out (by omega))) ⟨3, 3, ⟨#[]⟩, 0, some ⟨w3.heap.size, 0, none⟩, 2⟩ (row2 x ⟨0, 0, ⟨#[]⟩, 3, none, 0⟩)
  · rcases hk2 with rfl | rfl
    · go_wp2_with fail
      refine wp_loop_rounds 1 ?_
      rw [rounds_succ]
      go_wp2_with fail
      refine (next_calls b 4 (by omega) (by omega) _ HM1.out).mono ?_
      rintro e w2 ⟨v, rfl, hv, hM2, hK2⟩
      have HM2 := Lib.hid hM2
      have HK2 := Lib.hid hK2
      clear hM2 hK2
      go_wp2_with fail
      refine (literal_calls _ v (by omega) (by omega) _).mono ?_
      rintro e w3 ⟨rfl, hb3⟩
      have HZ := Lib.hid (((ZB.new w).kept HK1.out HM.out.lt).kept HK2.out HM.out.lt |>.below hb3)
      have HB3 := Lib.hid hb3
      clear hb3
      obtain ⟨z, ⟨z0, z1, z2, z3, z4, z5⟩, f0, f1, f2, f3, f4, f5⟩ := HZ.out.facts
      have s1 : w.heap.size + 1 ≤ w1.heap.size := by have := HK1.out.below.size; simpa using this
      have s2 : w1.heap.size ≤ w2.heap.size := HK2.out.size HM1.out.lt
      have s3 : w2.heap.size ≤ w3.heap.size := HB3.out.size
      have hl := HM.out.lt
      go_wp2
      obtain ⟨r0, r1, r2, r3, r4, r5⟩ := Row1.facts (put6_row HZ.out ⟨0, 0, ⟨#[]⟩, v, none, 0⟩)
      refine bodyPost_ret (v := .tuple #[.string s, EV.val ⟨0, 0, ⟨#[]⟩, v, none, 0⟩]) (by simp [results, Tryd.results12, go_sem, r0, r1, r2, r3, r4, r5]) rfl ⟨s, .lit v, ⟨0, 0, ⟨#[]⟩, v, none, 0⟩, rfl, rfl, rfl, (by show v < 18446744073709551616; omega), ?_, ?_, ?_⟩
      · simp only [bd]; omega
      · exact MK.put6 (HM2.out.below HB3.out) hl ⟨0, 0, ⟨#[]⟩, v, none, 0⟩
      · exact Kept.fin0 hl HK1.out (HK2.out.trans (Kept.of HB3.out (by omega))) ⟨0, 0, ⟨#[]⟩, v, none, 0⟩
    · go_wp2_with fail
      refine (next_calls b 4 (by omega) (by omega) _ HM1.out).mono ?_
      rintro e w2 ⟨v, rfl, hv, hM2, hK2⟩
      have HM2 := Lib.hid hM2
      have HK2 := Lib.hid hK2
      clear hM2 hK2
      go_wp2_with fail
      refine (literal_calls _ v (by omega) (by omega) _).mono ?_
      rintro e w3 ⟨rfl, hb3⟩
      have HZ := Lib.hid (((ZB.new w).kept HK1.out HM.out.lt).kept HK2.out HM.out.lt |>.below hb3)
      have HB3 := Lib.hid hb3
      clear hb3
      obtain ⟨z, ⟨z0, z1, z2, z3, z4, z5⟩, f0, f1, f2, f3, f4, f5⟩ := HZ.out.facts
      have s1 : w.heap.size + 1 ≤ w1.heap.size := by have := HK1.out.below.size; simpa using this
      have s2 : w1.heap.size ≤ w2.heap.size := HK2.out.size HM1.out.lt
      have s3 : w2.heap.size ≤ w3.heap.size := HB3.out.size
      have hl := HM.out.lt
      go_wp2
      obtain ⟨r0, r1, r2, r3, r4, r5⟩ := Row1.facts (put6_row HZ.out ⟨0, 0, ⟨#[]⟩, v, none, 0⟩)
      refine bodyPost_ret (v := .tuple #[.string s, EV.val ⟨0, 0, ⟨#[]⟩, v, none, 0⟩]) (by simp [results, Tryd.results12, go_sem, r0, r1, r2, r3, r4, r5]) rfl ⟨s, .lit v, ⟨0, 0, ⟨#[]⟩, v, none, 0⟩, rfl, rfl, rfl, (by show v < 18446744073709551616; omega), ?_, ?_, ?_⟩
      · simp only [bd]; omega
      · exact MK.put6 (HM2.out.below HB3.out) hl ⟨0, 0, ⟨#[]⟩, v, none, 0⟩
      · exact Kept.fin0 hl HK1.out (HK2.out.trans (Kept.of HB3.out (by omega))) ⟨0, 0, ⟨#[]⟩, v, none, 0⟩

theorem MK.facts {w : World} {b : Nat} (h : MK w b) : b < w.heap.size ∧ w.cell? ⟨b, 1, none⟩ = some (.slice none 0 0) ∧ w.cell? ⟨b, 4, none⟩ = some (.bool false) ∧ w.cell? ⟨b, 5, none⟩ = some (.int .i64 0) := by
  obtain ⟨A, n, c, hb⟩ := h.cells
  exact ⟨lt_heap hb, (blk_cell hb 1).trans rfl, (blk_cell hb 4).trans rfl, (blk_cell hb 5).trans rfl⟩
theorem Pb_ge (k : Nat) : 100 ≤ Pb k := by
  induction k with
  | zero => decide
  | succ k ih => simp only [Pb]; omega
def Sb : Nat → Nat
  | 0 => 100
  | k + 1 => 3 * Sb k + Pb k + 300
theorem Sb_ge (k : Nat) : 100 ≤ Sb k := by cases k <;> simp only [Sb] <;> omega

set_option maxHeartbeats 1000000 in
theorem pub_deep (b : Nat) (deep : Int) (w : World) (h0 : 3 < deep) (h1 : deep ≤ 100) (hm : MK w b) : Calls Tryd.prog 10 #[.pointer (some ⟨b, 0, none⟩), .int .i64 deep] w (MadePost b (Pb 0) w) := by
  obtain ⟨hl, _, _, hm5⟩ := hm.facts
  have HM := Lib.hid hm
  clear hm
  go_enter Tryd.func10, Tryd.ntmps10
  go_wp2_with fail
  refine (digit0 _).mono ?_
  rintro e w' ⟨rfl, rfl⟩
  go_wp2_with fail
  refine (next_calls b 8 (by omega) (by omega) _ (HM.out.alloc _)).mono ?_
  rintro e w1 ⟨kk, rfl, hk, hM1, hK1⟩
  obtain ⟨hl1, m1, m4, _⟩ := hM1.facts
  have HM1 := Lib.hid hM1
  have HK1 := Lib.hid hK1
  clear hM1 hK1 hm5
  have s1 : w.heap.size + 1 ≤ w1.heap.size := by have := HK1.out.below.size; simpa using this
  go_wp2_with fail
  refine (next_calls b 256 (by omega) (by omega) _ HM1.out).mono ?_
  rintro e w2 ⟨v, rfl, hv, hM2, hK2⟩
  have HM2 := Lib.hid hM2
  have HK2 := Lib.hid hK2
  clear hM2 hK2
  go_wp2_with fail
  refine (literal_calls _ v (by omega) (by omega) _).mono ?_
  rintro e w3 ⟨rfl, hb3⟩
  have HZ := Lib.hid (((ZB.new w).kept HK1.out hl).kept HK2.out hl |>.below hb3)
  have HB3 := Lib.hid hb3
  clear hb3
  obtain ⟨z, ⟨z0, z1, z2, z3, z4, z5⟩, f0, f1, f2, f3, f4, f5⟩ := HZ.out.facts
  have s2 : w1.heap.size ≤ w2.heap.size := HK2.out.size HM1.out.lt
  have s3 : w2.heap.size ≤ w3.heap.size := HB3.out.size
  go_wp2
  obtain ⟨r0, r1, r2, r3, r4, r5⟩ := Row1.facts (put6_row HZ.out ⟨0, 0, ⟨#[]⟩, v, none, 0⟩)
  refine bodyPost_ret (v := EV.val ⟨0, 0, ⟨#[]⟩, v, none, 0⟩) (by simp [results, Tryd.results10, go_sem, r0, r1, r2, r3, r4, r5]) rfl ⟨.lit v, ⟨0, 0, ⟨#[]⟩, v, none, 0⟩, rfl, ?_, (by show v < 18446744073709551616; omega), ?_, ?_, ?_⟩
  · rfl
  · simp only [bd, Pb]; omega
  · exact MK.put6 (HM2.out.below HB3.out) hl ⟨0, 0, ⟨#[]⟩, v, none, 0⟩
  · exact Kept.fin0 hl HK1.out (HK2.out.trans (Kept.of HB3.out (by omega))) ⟨0, 0, ⟨#[]⟩, v, none, 0⟩

set_option maxHeartbeats 2000000 in
theorem pub_mid (b k : Nat) (hp : Hid (PubSays b k)) (deep : Int) (w : World) (h0 : 0 ≤ deep) (h1 : deep ≤ 3) (h4 : 4 ≤ deep + 1 + k) (hm : MK w b) : Calls Tryd.prog 10 #[.pointer (some ⟨b, 0, none⟩), .int .i64 deep] w (MadePost b (Pb (k + 1)) w) := by
  obtain ⟨hl, _, _, hm5⟩ := hm.facts
  have HM := Lib.hid hm
  clear hm
  go_enter Tryd.func10, Tryd.ntmps10
  go_wp2_with fail
  refine (digit0 _).mono ?_
  rintro e w' ⟨rfl, rfl⟩
  go_wp2_with fail
  refine (next_calls b 8 (by omega) (by omega) _ (HM.out.alloc _)).mono ?_
  rintro e w1 ⟨kk, rfl, hk, hM1, hK1⟩
  obtain ⟨hl1, m1, m4, _⟩ := hM1.facts
  have HM1 := Lib.hid hM1
  have HK1 := Lib.hid hK1
  clear hM1 hK1 hm5
  have s1 : w.heap.size + 1 ≤ w1.heap.size := by have := HK1.out.below.size; simpa using this
  have hq := hp
  rcases (show kk = 0 ∨ kk = 1 ∨ kk = 3 ∨ kk = 5 ∨ (kk = 2 ∨ kk = 4 ∨ kk = 6 ∨ kk = 7) by omega) with rfl | rfl | rfl | rfl | hkk
  · go_wp2_with fail
    refine (next_calls b 256 (by omega) (by omega) _ HM1.out).mono ?_
    rintro e w2 ⟨v, rfl, hv, hM2, hK2⟩
    have HM2 := Lib.hid hM2
    have HK2 := Lib.hid hK2
    clear hM2 hK2
    go_wp2_with fail
    refine (literal_calls _ v (by omega) (by omega) _).mono ?_
    rintro e w3 ⟨rfl, hb3⟩
    have HZ := Lib.hid (((ZB.new w).kept HK1.out hl).kept HK2.out hl |>.below hb3)
    have HB3 := Lib.hid hb3
    clear hb3
    obtain ⟨z, ⟨z0, z1, z2, z3, z4, z5⟩, f0, f1, f2, f3, f4, f5⟩ := HZ.out.facts
    have s2 : w1.heap.size ≤ w2.heap.size := HK2.out.size HM1.out.lt
    have s3 : w2.heap.size ≤ w3.heap.size := HB3.out.size
    go_wp2
    obtain ⟨r0, r1, r2, r3, r4, r5⟩ := Row1.facts (put6_row HZ.out ⟨0, 0, ⟨#[]⟩, v, none, 0⟩)
    refine bodyPost_ret (v := EV.val ⟨0, 0, ⟨#[]⟩, v, none, 0⟩) (by simp [results, Tryd.results10, go_sem, r0, r1, r2, r3, r4, r5]) rfl ⟨.lit v, ⟨0, 0, ⟨#[]⟩, v, none, 0⟩, rfl, ?_, (by show v < 18446744073709551616; omega), ?_, ?_, ?_⟩
    · rfl
    · simp only [bd, Pb]; omega
    · exact MK.put6 (HM2.out.below HB3.out) hl ⟨0, 0, ⟨#[]⟩, v, none, 0⟩
    · exact Kept.fin0 hl HK1.out (HK2.out.trans (Kept.of HB3.out (by omega))) ⟨0, 0, ⟨#[]⟩, v, none, 0⟩
  · go_wp2_with fail
    refine (name_any _ _ (by decide)).mono ?_
    rintro e w3 ⟨x, t, rfl, hat, hok, hbd, hb3⟩
    have HAt := Lib.hid hat
    have HOt := Lib.hid hok
    have HDt := Lib.hid hbd
    have HZ := Lib.hid (((ZB.new w).kept HK1.out hl) |>.below hb3)
    have HB3 := Lib.hid hb3
    clear hb3 hat hok hbd
    obtain ⟨z, ⟨z0, z1, z2, z3, z4, z5⟩, f0, f1, f2, f3, f4, f5⟩ := HZ.out.facts
    have s3 : w1.heap.size ≤ w3.heap.size := HB3.out.size
    go_wp2
    obtain ⟨r0, r1, r2, r3, r4, r5⟩ := Row1.facts (put6_row HZ.out x)
    refine bodyPost_ret (v := EV.val x) (by simp [results, Tryd.results10, go_sem, r0, r1, r2, r3, r4, r5]) rfl ⟨t, x, rfl, ?_, HOt.out, ?_, ?_, ?_⟩
    · exact HAt.out _ _
    · have := HDt.out
      simp only [Pb, Sb]; omega
    · exact MK.put6 (HM1.out.below HB3.out) hl x
    · exact Kept.fin0 hl HK1.out (Kept.of HB3.out (by omega)) x
  · go_wp2_with fail
    refine (cellOf_calls b k hq _ _ _ (by omega) (by omega) (by omega) HM1.out).mono ?_
    rintro e w2 ⟨s, t, x, hs, rfl, hat, hok, hbd, hM, hK⟩
    have HM2 := Lib.hid hM
    have HK2 := Lib.hid hK
    have HAt := Lib.hid hat
    have HOt := Lib.hid hok
    have HDt := Lib.hid hbd
    have s2 : w1.heap.size ≤ w2.heap.size := hK.size HM1.out.lt
    have HS := Lib.hid (show s.size = 2 from hs.trans rfl)
    clear hs hat hM hK hok hbd
    have HZ := Lib.hid (((ZB.new w).kept HK1.out hl).kept HK2.out hl)
    obtain ⟨z, ⟨z0, z1, z2, z3, z4, z5⟩, f0, f1, f2, f3, f4, f5⟩ := HZ.out.facts
    go_wp2
    obtain ⟨r0, r1, r2, r3, r4, r5⟩ := Row1.facts (blk_alloc (blk_alloc (put6_row HZ.out ⟨2, 0, s, 0, some ⟨w2.heap.size + 1, 0, none⟩, 1⟩) (row1 x)) (row1 x))
    refine bodyPost_ret (v := EV.val ⟨2, 0, s, 0, some ⟨w2.heap.size + 1, 0, none⟩, 1⟩) (by simp [results, Tryd.results10, go_sem, r0, r1, r2, r3, r4, r5]) rfl ⟨.cell s t, ⟨2, 0, s, 0, some ⟨w2.heap.size + 1, 0, none⟩, 1⟩, rfl, ?_, HOt.out, ?_, ?_, ?_⟩
    · have hA : At t (w.heap.size + 1) ((put6 w2 w.heap.size ⟨2, 0, s, 0, some ⟨w2.heap.size + 1, 0, none⟩, 1⟩).alloc (row1 x)) x := At.alloc (At.put6 (At.more HAt.out s1) (Nat.lt_succ_self _) _) _
      exact At.more (At.cell_mk s hA (n := w2.heap.size + 1) (by simp) (by omega)) (Nat.le_succ _)
    · have := HDt.out
      have := HS.out
      simp only [bd, Pb, Sb]; omega
    · exact MK.alloc (MK.alloc (MK.put6 HM2.out hl ⟨2, 0, s, 0, some ⟨w2.heap.size + 1, 0, none⟩, 1⟩) _) _
    · exact (Kept.fin hl HK1.out HK2.out ⟨2, 0, s, 0, some ⟨w2.heap.size + 1, 0, none⟩, 1⟩ (row1 x)).alloc (by simp; omega) (row1 x)
  · go_wp2_with fail
    refine (hp.out (deep + 1) _ (by omega) (by omega) (by omega) HM1.out).mono ?_
    rintro e w2 ⟨t, x, rfl, hat, hok, hbd, hM, hK⟩
    have HM2 := Lib.hid hM
    have HK2 := Lib.hid hK
    have HAt := Lib.hid hat
    have HOt := Lib.hid hok
    have HDt := Lib.hid hbd
    have s2 : w1.heap.size ≤ w2.heap.size := hK.size HM1.out.lt
    clear hat hM hK hok hbd
    have HZ := Lib.hid (((ZB.new w).kept HK1.out hl).kept HK2.out hl)
    obtain ⟨z, ⟨z0, z1, z2, z3, z4, z5⟩, f0, f1, f2, f3, f4, f5⟩ := HZ.out.facts
    go_wp2
    obtain ⟨r0, r1, r2, r3, r4, r5⟩ := Row1.facts (blk_alloc (put6_row HZ.out ⟨4, 0, ⟨#[]⟩, 0, some ⟨w2.heap.size, 0, none⟩, 1⟩) (row1 x))
    refine bodyPost_ret (v := EV.val ⟨4, 0, ⟨#[]⟩, 0, some ⟨w2.heap.size, 0, none⟩, 1⟩) (by simp [results, Tryd.results10, go_sem, r0, r1, r2, r3, r4, r5]) rfl ⟨.not t, ⟨4, 0, ⟨#[]⟩, 0, some ⟨w2.heap.size, 0, none⟩, 1⟩, rfl, ?_, HOt.out, ?_, ?_, ?_⟩
    · have hA0 : At t (w.heap.size + 1) (put6 w2 w.heap.size ⟨4, 0, ⟨#[]⟩, 0, some ⟨w2.heap.size, 0, none⟩, 1⟩) x := At.put6 (At.more HAt.out (by omega)) (Nat.lt_succ_self _) _
      exact At.more (At.not_mk hA0 (put6_size _ _ _).symm z) (Nat.le_succ _)
    · have d0 := HDt.out
      simp only [bd, Pb, Sb]; omega
    · exact MK.alloc (MK.put6 HM2.out hl ⟨4, 0, ⟨#[]⟩, 0, some ⟨w2.heap.size, 0, none⟩, 1⟩) _
    · exact Kept.fin hl HK1.out HK2.out ⟨4, 0, ⟨#[]⟩, 0, some ⟨w2.heap.size, 0, none⟩, 1⟩ (row1 x)
  · rcases hkk with rfl | rfl | rfl | rfl
    all_goals
      go_wp2_with fail
      refine (next_calls b 10 (by omega) (by omega) _ HM1.out).mono ?_
      rintro e w2 ⟨o, rfl, ho, hM2, hK2⟩
      have HM2 := Lib.hid hM2
      have HK2 := Lib.hid hK2
      have s2 : w1.heap.size ≤ w2.heap.size := hK2.size HM1.out.lt
      clear hM2 hK2
      go_wp2_with fail
      refine (hp.out (deep + 1) _ (by omega) (by omega) (by omega) HM2.out).mono ?_
      rintro e w3 ⟨t, x, rfl, hat, hok, hbd, hM, hK⟩
      have HM3 := Lib.hid hM
      have HK3 := Lib.hid hK
      have HAt := Lib.hid hat
      have HOt := Lib.hid hok
      have HDt := Lib.hid hbd
      have s3 : w2.heap.size ≤ w3.heap.size := hK.size HM2.out.lt
      clear hat hM hK hok hbd
      go_wp2_with fail
      refine (hp.out (deep + 1) _ (by omega) (by omega) (by omega) HM3.out).mono ?_
      rintro e w4 ⟨u, y, rfl, hat, hok, hbd, hM, hK⟩
      have HM4 := Lib.hid hM
      have HK4 := Lib.hid hK
      have HAu := Lib.hid hat
      have HOu := Lib.hid hok
      have HDu := Lib.hid hbd
      have s4 : w3.heap.size ≤ w4.heap.size := hK.size HM3.out.lt
      clear hat hM hK hok hbd
      have HZ := Lib.hid (((((ZB.new w).kept HK1.out hl).kept HK2.out hl).kept HK3.out hl).kept HK4.out hl)
      obtain ⟨z, ⟨z0, z1, z2, z3, z4, z5⟩, f0, f1, f2, f3, f4, f5⟩ := HZ.out.facts
      go_wp2
      obtain ⟨r0, r1, r2, r3, r4, r5⟩ := Row1.facts (blk_alloc (put6_row HZ.out ⟨3, o, ⟨#[]⟩, 0, some ⟨w4.heap.size, 0, none⟩, 2⟩) (row2 x y))
      refine bodyPost_ret (v := EV.val ⟨3, o, ⟨#[]⟩, 0, some ⟨w4.heap.size, 0, none⟩, 2⟩) (by simp [results, Tryd.results10, go_sem, r0, r1, r2, r3, r4, r5]) rfl ⟨.bin o t u, ⟨3, o, ⟨#[]⟩, 0, some ⟨w4.heap.size, 0, none⟩, 2⟩, rfl, ?_, ⟨by omega, HOt.out, HOu.out⟩, ?_, ?_, ?_⟩
      · have hA0 : At t (w.heap.size + 1) (put6 w4 w.heap.size ⟨3, o, ⟨#[]⟩, 0, some ⟨w4.heap.size, 0, none⟩, 2⟩) x := At.put6 (At.more (At.kept HAt.out HK4.out (Nat.lt_of_lt_of_le HM2.out.lt (Nat.le_refl _))) (by omega)) (Nat.lt_succ_self _) _
        have hA1 : At u (w.heap.size + 1) (put6 w4 w.heap.size ⟨3, o, ⟨#[]⟩, 0, some ⟨w4.heap.size, 0, none⟩, 2⟩) y := At.put6 (At.more HAu.out (by omega)) (Nat.lt_succ_self _) _
        exact At.more (At.bin_mk o hA0 hA1 (put6_size _ _ _).symm z) (Nat.le_succ _)
      · have d0 := HDt.out
        have d1 := HDu.out
        simp only [bd, Pb, Sb]; omega
      · exact MK.alloc (MK.put6 HM4.out hl ⟨3, o, ⟨#[]⟩, 0, some ⟨w4.heap.size, 0, none⟩, 2⟩) _
      · exact Kept.fin hl HK1.out ((HK2.out.trans HK3.out).trans HK4.out) ⟨3, o, ⟨#[]⟩, 0, some ⟨w4.heap.size, 0, none⟩, 2⟩ (row2 x y)

theorem pub_all (b k : Nat) : PubSays b k := by
  induction k with
  | zero => exact fun deep w h0 h1 h4 hm => pub_deep b deep w (by omega) h1 hm
  | succ k ih =>
    intro deep w h0 h1 h4 hm
    by_cases h : 3 < deep
    · exact (pub_deep b deep w h h1 hm).mono fun e w' ⟨t, x, h1, h2, h3, h4, h5⟩ => ⟨t, x, h1, h2, h3, Nat.le_trans h4 (Pb_ge (k + 1)), h5⟩
    · exact pub_mid b k (Lib.hid ih) deep w h0 (by omega) (by omega) hm

def SecSays (b k : Nat) : Prop := ∀ (deep : Int) (w : World), 0 ≤ deep → deep ≤ 50 → 4 ≤ deep + k → MK w b → Calls Tryd.prog 6 #[.pointer (some ⟨b, 0, none⟩), .int .i64 deep] w (MadePost b (Sb k) w)
set_option maxHeartbeats 1000000 in
theorem sec_deep (b : Nat) (deep : Int) (w : World) (h0 : 3 < deep) (h1 : deep ≤ 50) (hm : MK w b) : Calls Tryd.prog 6 #[.pointer (some ⟨b, 0, none⟩), .int .i64 deep] w (MadePost b (Sb 0) w) := by
  have hq := Lib.hid (pub_all b 0)
  obtain ⟨hl, _, _, hm5⟩ := hm.facts
  have HM := Lib.hid hm
  clear hm
  go_enter Tryd.func6, Tryd.ntmps6
  go_wp2_with fail
  refine (digit0 _).mono ?_
  rintro e w' ⟨rfl, rfl⟩
  go_wp2_with fail
  refine (next_calls b 8 (by omega) (by omega) _ (HM.out.alloc _)).mono ?_
  rintro e w1 ⟨kk, rfl, hk, hM1, hK1⟩
  obtain ⟨hl1, m1, m4, _⟩ := hM1.facts
  have HM1 := Lib.hid hM1
  have HK1 := Lib.hid hK1
  clear hM1 hK1 hm5
  have s1 : w.heap.size + 1 ≤ w1.heap.size := by have := HK1.out.below.size; simpa using this
  go_wp2_with fail
  refine (hq.out (deep + 1) _ (by omega) (by omega) (by omega) HM1.out).mono ?_
  rintro e w2 ⟨t, x, rfl, hat, hok, hbd, hM, hK⟩
  have HM2 := Lib.hid hM
  have HK2 := Lib.hid hK
  have HAt := Lib.hid hat
  have HOt := Lib.hid hok
  have HDt := Lib.hid hbd
  have s2 : w1.heap.size ≤ w2.heap.size := hK.size HM1.out.lt
  clear hat hM hK hok hbd
  have HZ := Lib.hid (((ZB.new w).kept HK1.out hl).kept HK2.out hl)
  obtain ⟨z, ⟨z0, z1, z2, z3, z4, z5⟩, f0, f1, f2, f3, f4, f5⟩ := HZ.out.facts
  go_wp2
  obtain ⟨r0, r1, r2, r3, r4, r5⟩ := Row1.facts (put6_row HZ.out x)
  refine bodyPost_ret (v := EV.val x) (by simp [results, Tryd.results6, go_sem, r0, r1, r2, r3, r4, r5]) rfl ⟨t, x, rfl, ?_, HOt.out, ?_, ?_, ?_⟩
  · exact At.more (At.put6 (At.more HAt.out s1) (Nat.lt_succ_self _) x) (Nat.le_succ _)
  · have := HDt.out
    simp only [Pb, Sb] at *; omega
  · exact MK.put6 HM2.out hl x
  · exact Kept.fin0 hl HK1.out HK2.out x

set_option maxHeartbeats 2000000 in
theorem sec_mid (b k : Nat) (hp : Hid (SecSays b k)) (deep : Int) (w : World) (h0 : 0 ≤ deep) (h1 : deep ≤ 3) (h4 : 4 ≤ deep + 1 + k) (hm : MK w b) : Calls Tryd.prog 6 #[.pointer (some ⟨b, 0, none⟩), .int .i64 deep] w (MadePost b (Sb (k + 1)) w) := by
  have hq := Lib.hid (pub_all b k)
  obtain ⟨hl, _, _, hm5⟩ := hm.facts
  have HM := Lib.hid hm
  clear hm
  go_enter Tryd.func6, Tryd.ntmps6
  go_wp2_with fail
  refine (digit0 _).mono ?_
  rintro e w' ⟨rfl, rfl⟩
  go_wp2_with fail
  refine (next_calls b 8 (by omega) (by omega) _ (HM.out.alloc _)).mono ?_
  rintro e w1 ⟨kk, rfl, hk, hM1, hK1⟩
  obtain ⟨hl1, m1, m4, _⟩ := hM1.facts
  have HM1 := Lib.hid hM1
  have HK1 := Lib.hid hK1
  clear hM1 hK1 hm5
  have s1 : w.heap.size + 1 ≤ w1.heap.size := by have := HK1.out.below.size; simpa using this
  rcases (show kk = 0 ∨ kk = 1 ∨ kk = 2 ∨ kk = 5 ∨ (kk = 3 ∨ kk = 4 ∨ kk = 6 ∨ kk = 7) by omega) with rfl | rfl | rfl | rfl | hkk
  · go_wp2_with fail
    refine (hq.out (deep + 1) _ (by omega) (by omega) (by omega) HM1.out).mono ?_
    rintro e w2 ⟨t, x, rfl, hat, hok, hbd, hM, hK⟩
    have HM2 := Lib.hid hM
    have HK2 := Lib.hid hK
    have HAt := Lib.hid hat
    have HOt := Lib.hid hok
    have HDt := Lib.hid hbd
    have s2 : w1.heap.size ≤ w2.heap.size := hK.size HM1.out.lt
    clear hat hM hK hok hbd
    have HZ := Lib.hid (((ZB.new w).kept HK1.out hl).kept HK2.out hl)
    obtain ⟨z, ⟨z0, z1, z2, z3, z4, z5⟩, f0, f1, f2, f3, f4, f5⟩ := HZ.out.facts
    go_wp2
    obtain ⟨r0, r1, r2, r3, r4, r5⟩ := Row1.facts (put6_row HZ.out x)
    refine bodyPost_ret (v := EV.val x) (by simp [results, Tryd.results6, go_sem, r0, r1, r2, r3, r4, r5]) rfl ⟨t, x, rfl, ?_, HOt.out, ?_, ?_, ?_⟩
    · exact At.more (At.put6 (At.more HAt.out s1) (Nat.lt_succ_self _) x) (Nat.le_succ _)
    · have := HDt.out
      simp only [Pb, Sb] at *; omega
    · exact MK.put6 HM2.out hl x
    · exact Kept.fin0 hl HK1.out HK2.out x
  · go_wp2_with fail
    refine (name_any _ _ (by decide)).mono ?_
    rintro e w3 ⟨x, t, rfl, hat, hok, hbd, hb3⟩
    have HAt := Lib.hid hat
    have HOt := Lib.hid hok
    have HDt := Lib.hid hbd
    have HZ := Lib.hid (((ZB.new w).kept HK1.out hl) |>.below hb3)
    have HB3 := Lib.hid hb3
    clear hb3 hat hok hbd
    obtain ⟨z, ⟨z0, z1, z2, z3, z4, z5⟩, f0, f1, f2, f3, f4, f5⟩ := HZ.out.facts
    have s3 : w1.heap.size ≤ w3.heap.size := HB3.out.size
    go_wp2
    obtain ⟨r0, r1, r2, r3, r4, r5⟩ := Row1.facts (put6_row HZ.out x)
    refine bodyPost_ret (v := EV.val x) (by simp [results, Tryd.results6, go_sem, r0, r1, r2, r3, r4, r5]) rfl ⟨t, x, rfl, ?_, HOt.out, ?_, ?_, ?_⟩
    · exact HAt.out _ _
    · have := HDt.out
      simp only [Pb, Sb]; omega
    · exact MK.put6 (HM1.out.below HB3.out) hl x
    · exact Kept.fin0 hl HK1.out (Kept.of HB3.out (by omega)) x
  · go_wp2_with fail
    refine (cellOf_calls b k hq _ _ _ (by omega) (by omega) (by omega) HM1.out).mono ?_
    rintro e w2 ⟨s, t, x, hs, rfl, hat, hok, hbd, hM, hK⟩
    have HM2 := Lib.hid hM
    have HK2 := Lib.hid hK
    have HAt := Lib.hid hat
    have HOt := Lib.hid hok
    have HDt := Lib.hid hbd
    have s2 : w1.heap.size ≤ w2.heap.size := hK.size HM1.out.lt
    have HS := Lib.hid (show s.size = 2 from hs.trans rfl)
    clear hs hat hM hK hok hbd
    have HZ := Lib.hid (((ZB.new w).kept HK1.out hl).kept HK2.out hl)
    obtain ⟨z, ⟨z0, z1, z2, z3, z4, z5⟩, f0, f1, f2, f3, f4, f5⟩ := HZ.out.facts
    go_wp2
    obtain ⟨r0, r1, r2, r3, r4, r5⟩ := Row1.facts (blk_alloc (blk_alloc (put6_row HZ.out ⟨2, 0, s, 0, some ⟨w2.heap.size + 1, 0, none⟩, 1⟩) (row1 x)) (row1 x))
    refine bodyPost_ret (v := EV.val ⟨2, 0, s, 0, some ⟨w2.heap.size + 1, 0, none⟩, 1⟩) (by simp [results, Tryd.results6, go_sem, r0, r1, r2, r3, r4, r5]) rfl ⟨.cell s t, ⟨2, 0, s, 0, some ⟨w2.heap.size + 1, 0, none⟩, 1⟩, rfl, ?_, HOt.out, ?_, ?_, ?_⟩
    · have hA : At t (w.heap.size + 1) ((put6 w2 w.heap.size ⟨2, 0, s, 0, some ⟨w2.heap.size + 1, 0, none⟩, 1⟩).alloc (row1 x)) x := At.alloc (At.put6 (At.more HAt.out s1) (Nat.lt_succ_self _) _) _
      exact At.more (At.cell_mk s hA (n := w2.heap.size + 1) (by simp) (by omega)) (Nat.le_succ _)
    · have := HDt.out
      have := HS.out
      simp only [bd, Pb, Sb]; omega
    · exact MK.alloc (MK.alloc (MK.put6 HM2.out hl ⟨2, 0, s, 0, some ⟨w2.heap.size + 1, 0, none⟩, 1⟩) _) _
    · exact (Kept.fin hl HK1.out HK2.out ⟨2, 0, s, 0, some ⟨w2.heap.size + 1, 0, none⟩, 1⟩ (row1 x)).alloc (by simp; omega) (row1 x)
  · go_wp2_with fail
    refine (hp.out (deep + 1) _ (by omega) (by omega) (by omega) HM1.out).mono ?_
    rintro e w2 ⟨t, x, rfl, hat, hok, hbd, hM, hK⟩
    have HM2 := Lib.hid hM
    have HK2 := Lib.hid hK
    have HAt := Lib.hid hat
    have HOt := Lib.hid hok
    have HDt := Lib.hid hbd
    have s2 : w1.heap.size ≤ w2.heap.size := hK.size HM1.out.lt
    clear hat hM hK hok hbd
    go_wp2_with fail
    refine (hp.out (deep + 1) _ (by omega) (by omega) (by omega) HM2.out).mono ?_
    rintro e w3 ⟨u, y, rfl, hat, hok, hbd, hM, hK⟩
    have HM3 := Lib.hid hM
    have HK3 := Lib.hid hK
    have HAu := Lib.hid hat
    have HOu := Lib.hid hok
    have HDu := Lib.hid hbd
    have s3 : w2.heap.size ≤ w3.heap.size := hK.size HM2.out.lt
    clear hat hM hK hok hbd
    go_wp2_with fail
    refine (hp.out (deep + 1) _ (by omega) (by omega) (by omega) HM3.out).mono ?_
    rintro e w4 ⟨v, q, rfl, hat, hok, hbd, hM, hK⟩
    have HM4 := Lib.hid hM
    have HK4 := Lib.hid hK
    have HAv := Lib.hid hat
    have HOv := Lib.hid hok
    have HDv := Lib.hid hbd
    have s4 : w3.heap.size ≤ w4.heap.size := hK.size HM3.out.lt
    clear hat hM hK hok hbd
    have HZ := Lib.hid (((((ZB.new w).kept HK1.out hl).kept HK2.out hl).kept HK3.out hl).kept HK4.out hl)
    obtain ⟨z, ⟨z0, z1, z2, z3, z4, z5⟩, f0, f1, f2, f3, f4, f5⟩ := HZ.out.facts
    go_wp2
    obtain ⟨r0, r1, r2, r3, r4, r5⟩ := Row1.facts (blk_alloc (put6_row HZ.out ⟨5, 0, ⟨#[]⟩, 0, some ⟨w4.heap.size, 0, none⟩, 3⟩) (row3 x y q))
    refine bodyPost_ret (v := EV.val ⟨5, 0, ⟨#[]⟩, 0, some ⟨w4.heap.size, 0, none⟩, 3⟩) (by simp [results, Tryd.results6, go_sem, r0, r1, r2, r3, r4, r5]) rfl ⟨.pick t u v, ⟨5, 0, ⟨#[]⟩, 0, some ⟨w4.heap.size, 0, none⟩, 3⟩, rfl, ?_, ⟨HOt.out, HOu.out, HOv.out⟩, ?_, ?_, ?_⟩
    · have hA0 : At t (w.heap.size + 1) (put6 w4 w.heap.size ⟨5, 0, ⟨#[]⟩, 0, some ⟨w4.heap.size, 0, none⟩, 3⟩) x := At.put6 (At.more (At.kept (At.kept HAt.out HK3.out (Nat.lt_of_lt_of_le HM1.out.lt (Nat.le_refl _))) HK4.out (Nat.lt_of_lt_of_le HM1.out.lt (Nat.le_refl _))) (by omega)) (Nat.lt_succ_self _) _
      have hA1 : At u (w.heap.size + 1) (put6 w4 w.heap.size ⟨5, 0, ⟨#[]⟩, 0, some ⟨w4.heap.size, 0, none⟩, 3⟩) y := At.put6 (At.more (At.kept HAu.out HK4.out (Nat.lt_of_lt_of_le HM2.out.lt (Nat.le_refl _))) (by omega)) (Nat.lt_succ_self _) _
      have hA2 : At v (w.heap.size + 1) (put6 w4 w.heap.size ⟨5, 0, ⟨#[]⟩, 0, some ⟨w4.heap.size, 0, none⟩, 3⟩) q := At.put6 (At.more HAv.out (by omega)) (Nat.lt_succ_self _) _
      exact At.more (At.pick_mk hA0 hA1 hA2 (put6_size _ _ _).symm z) (Nat.le_succ _)
    · have d0 := HDt.out
      have d1 := HDu.out
      have d2 := HDv.out
      simp only [bd, Pb, Sb]; omega
    · exact MK.alloc (MK.put6 HM4.out hl ⟨5, 0, ⟨#[]⟩, 0, some ⟨w4.heap.size, 0, none⟩, 3⟩) _
    · exact Kept.fin hl HK1.out ((HK2.out.trans HK3.out).trans HK4.out) ⟨5, 0, ⟨#[]⟩, 0, some ⟨w4.heap.size, 0, none⟩, 3⟩ (row3 x y q)
  · rcases hkk with rfl | rfl | rfl | rfl
    all_goals
      go_wp2_with fail
      refine (next_calls b 10 (by omega) (by omega) _ HM1.out).mono ?_
      rintro e w2 ⟨o, rfl, ho, hM2, hK2⟩
      have HM2 := Lib.hid hM2
      have HK2 := Lib.hid hK2
      have s2 : w1.heap.size ≤ w2.heap.size := hK2.size HM1.out.lt
      clear hM2 hK2
      go_wp2_with fail
      refine (hp.out (deep + 1) _ (by omega) (by omega) (by omega) HM2.out).mono ?_
      rintro e w3 ⟨t, x, rfl, hat, hok, hbd, hM, hK⟩
      have HM3 := Lib.hid hM
      have HK3 := Lib.hid hK
      have HAt := Lib.hid hat
      have HOt := Lib.hid hok
      have HDt := Lib.hid hbd
      have s3 : w2.heap.size ≤ w3.heap.size := hK.size HM2.out.lt
      clear hat hM hK hok hbd
      go_wp2_with fail
      refine (hp.out (deep + 1) _ (by omega) (by omega) (by omega) HM3.out).mono ?_
      rintro e w4 ⟨u, y, rfl, hat, hok, hbd, hM, hK⟩
      have HM4 := Lib.hid hM
      have HK4 := Lib.hid hK
      have HAu := Lib.hid hat
      have HOu := Lib.hid hok
      have HDu := Lib.hid hbd
      have s4 : w3.heap.size ≤ w4.heap.size := hK.size HM3.out.lt
      clear hat hM hK hok hbd
      have HZ := Lib.hid (((((ZB.new w).kept HK1.out hl).kept HK2.out hl).kept HK3.out hl).kept HK4.out hl)
      obtain ⟨z, ⟨z0, z1, z2, z3, z4, z5⟩, f0, f1, f2, f3, f4, f5⟩ := HZ.out.facts
      go_wp2
      obtain ⟨r0, r1, r2, r3, r4, r5⟩ := Row1.facts (blk_alloc (put6_row HZ.out ⟨3, o, ⟨#[]⟩, 0, some ⟨w4.heap.size, 0, none⟩, 2⟩) (row2 x y))
      refine bodyPost_ret (v := EV.val ⟨3, o, ⟨#[]⟩, 0, some ⟨w4.heap.size, 0, none⟩, 2⟩) (by simp [results, Tryd.results6, go_sem, r0, r1, r2, r3, r4, r5]) rfl ⟨.bin o t u, ⟨3, o, ⟨#[]⟩, 0, some ⟨w4.heap.size, 0, none⟩, 2⟩, rfl, ?_, ⟨by omega, HOt.out, HOu.out⟩, ?_, ?_, ?_⟩
      · have hA0 : At t (w.heap.size + 1) (put6 w4 w.heap.size ⟨3, o, ⟨#[]⟩, 0, some ⟨w4.heap.size, 0, none⟩, 2⟩) x := At.put6 (At.more (At.kept HAt.out HK4.out (Nat.lt_of_lt_of_le HM2.out.lt (Nat.le_refl _))) (by omega)) (Nat.lt_succ_self _) _
        have hA1 : At u (w.heap.size + 1) (put6 w4 w.heap.size ⟨3, o, ⟨#[]⟩, 0, some ⟨w4.heap.size, 0, none⟩, 2⟩) y := At.put6 (At.more HAu.out (by omega)) (Nat.lt_succ_self _) _
        exact At.more (At.bin_mk o hA0 hA1 (put6_size _ _ _).symm z) (Nat.le_succ _)
      · have d0 := HDt.out
        have d1 := HDu.out
        simp only [bd, Pb, Sb]; omega
      · exact MK.alloc (MK.put6 HM4.out hl ⟨3, o, ⟨#[]⟩, 0, some ⟨w4.heap.size, 0, none⟩, 2⟩) _
      · exact Kept.fin hl HK1.out ((HK2.out.trans HK3.out).trans HK4.out) ⟨3, o, ⟨#[]⟩, 0, some ⟨w4.heap.size, 0, none⟩, 2⟩ (row2 x y)

theorem sec_all (b k : Nat) : SecSays b k := by
  induction k with
  | zero => exact fun deep w h0 h1 h4 hm => sec_deep b deep w (by omega) h1 hm
  | succ k ih =>
    intro deep w h0 h1 h4 hm
    by_cases h : 3 < deep
    · exact (sec_deep b deep w h h1 hm).mono fun e w' ⟨t, x, h1, h2, h3, h4, h5⟩ => ⟨t, x, h1, h2, h3, Nat.le_trans h4 (by have := Sb_ge (k + 1); simp only [Sb] at *; omega), h5⟩
    · exact sec_mid b k (Lib.hid ih) deep w h0 (by omega) (by omega) hm
#print axioms sec_all
end Go.Proofs.YthboknkpgbfmoaaDoor.PQ
