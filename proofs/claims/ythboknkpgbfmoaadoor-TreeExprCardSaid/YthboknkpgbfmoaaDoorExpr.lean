/- The contract of tree.Expr: an expression's text is txt's. -/
import Derived.Test.YthboknkpgbfmoaaDoorMake
import Derived.Test.YthboknkpgbfmoaaDoorUint
import Derived.Deep.RegionHeld3
import Derived.Deep.DeepCutAuto
import Derived.KernelRfl
namespace Go.Proofs.YthboknkpgbfmoaaDoor.PQ
open Go.RowKit Go.Lib Go.Proofs.YthboknkpgbfmoaaDoorW.PrintWords
set_option linter.unusedVariables false

theorem gTab : Tryd.prog.globalNamed "internal/strconv.uint64pow10" = some 0 := by kernel_rfl
theorem TB.below {w w' : World} (h : TB w) (hb : Below w.heap.size w w') : TB w' := Go.Joins.tab_stays gTab h hb (Nat.le_refl _)
theorem TB.alloc {w : World} (h : TB w) (o : Obj) : TB (w.alloc o) := h.below ((Below.refl _ _).alloc (Nat.le_refl _) o)
/-- A call answers with a text, and changes nothing that there was. -/
def Says (w : World) (r : ByteArray) (e : Ending) (w' : World) : Prop := e = .returned (.string r) ∧ Below w.heap.size w w'
def ExprSays (t : Tree) : Prop := ∀ (x : EV) (B : Nat) (w : World) (tight : Int), At t B w x → ok t → bd t ≤ 1000000 → TB w → 0 ≤ tight → tight ≤ 20 → Calls Tryd.prog 7 #[x.val, .int .i64 tight] w (Says w (txt t tight))
/-- The k-th expression of a row. -/
def Elem (w : World) (g k : Nat) (y : EV) : Prop := (w.cell? ⟨g, k * 6, none⟩ = some (.int .i64 y.k) ∧ w.cell? ⟨g, k * 6 + 1, none⟩ = some (.int .i64 y.o)) ∧ (w.cell? ⟨g, k * 6 + 2, none⟩ = some (.string y.s) ∧ w.cell? ⟨g, k * 6 + 3, none⟩ = some (.int .u64 y.v)) ∧ w.cell? ⟨g, k * 6 + 4, none⟩ = some (.slice y.A y.n y.n) ∧ w.cell? ⟨g, k * 6 + 5, none⟩ = some (.int .i64 0)

set_option maxHeartbeats 1000000 in
theorem kid_calls (ge g k n : Nat) (hk3 : k < 3) (x y : EV) (tight : Int) (r : ByteArray) (w : World) (hx : w.cell? ⟨ge, 4, none⟩ = some (.slice (some ⟨g, 0, none⟩) n n)) (hk : k < n) (he : Elem w g k y)
    (hy : Hid (Calls Tryd.prog 7 #[y.val, .int .i64 tight] w (Says w r))) :
    Calls Tryd.prog 13 #[.int .i64 k, .int .i64 tight, .pointer (some ⟨ge, 0, none⟩)] w (Says w r) := by
  obtain ⟨⟨e0, e1⟩, ⟨e2, e3⟩, e4, e5⟩ := he
  rcases (show k = 0 ∨ k = 1 ∨ k = 2 by omega) with rfl | rfl | rfl
  all_goals
    simp only [Nat.zero_mul, Nat.one_mul, Nat.zero_add, Nat.reduceMul, Nat.reduceAdd] at e0 e1 e2 e3 e4 e5
    have hn : (n : Int) ≤ 3 → True := fun _ => trivial
    clear hn
    go_enter Tryd.func13, Tryd.ntmps13
    go_wp2_with (go_at_call 7; refine hy.out.mono ?_; rintro e w' ⟨rfl, hb⟩)
    go_ret
    exact ⟨rfl, hb⟩

theorem Row1.elem {w : World} {g : Nat} {x : EV} (h : Row1 w g x) : Elem w g 0 x := ⟨⟨(blk_cell h 0).trans rfl, (blk_cell h 1).trans rfl⟩, ⟨(blk_cell h 2).trans rfl, (blk_cell h 3).trans rfl⟩, (blk_cell h 4).trans rfl, (blk_cell h 5).trans rfl⟩
theorem Row2.elem {w : World} {g : Nat} {x y : EV} (h : Row2 w g x y) : Elem w g 0 x ∧ Elem w g 1 y := ⟨⟨⟨(blk_cell h 0).trans rfl, (blk_cell h 1).trans rfl⟩, ⟨(blk_cell h 2).trans rfl, (blk_cell h 3).trans rfl⟩, (blk_cell h 4).trans rfl, (blk_cell h 5).trans rfl⟩,
  ⟨⟨(blk_cell h 6).trans rfl, (blk_cell h 7).trans rfl⟩, ⟨(blk_cell h 8).trans rfl, (blk_cell h 9).trans rfl⟩, (blk_cell h 10).trans rfl, (blk_cell h 11).trans rfl⟩⟩
theorem Row3.elem {w : World} {g : Nat} {x y z : EV} (h : Row3 w g x y z) : Elem w g 0 x ∧ Elem w g 1 y ∧ Elem w g 2 z := ⟨⟨⟨(blk_cell h 0).trans rfl, (blk_cell h 1).trans rfl⟩, ⟨(blk_cell h 2).trans rfl, (blk_cell h 3).trans rfl⟩, (blk_cell h 4).trans rfl, (blk_cell h 5).trans rfl⟩,
  ⟨⟨(blk_cell h 6).trans rfl, (blk_cell h 7).trans rfl⟩, ⟨(blk_cell h 8).trans rfl, (blk_cell h 9).trans rfl⟩, (blk_cell h 10).trans rfl, (blk_cell h 11).trans rfl⟩,
  ⟨⟨(blk_cell h 12).trans rfl, (blk_cell h 13).trans rfl⟩, ⟨(blk_cell h 14).trans rfl, (blk_cell h 15).trans rfl⟩, (blk_cell h 16).trans rfl, (blk_cell h 17).trans rfl⟩⟩

theorem sign_cell {w : World} {g : Nat} (h : w.heap[g]? = some (.cells (signs.map Value.string).toArray 9 (0, 0))) (o : Nat) (ho : o < 10) : w.cell? ⟨g, o, none⟩ = some (.string (signOf o)) := by
  rw [blk_cell h o]
  rcases (show o = 0 ∨ o = 1 ∨ o = 2 ∨ o = 3 ∨ o = 4 ∨ o = 5 ∨ o = 6 ∨ o = 7 ∨ o = 8 ∨ o = 9 by omega) with h | h | h | h | h | h | h | h | h | h <;> subst h <;> rfl
theorem expr_lit (v : Nat) : ExprSays (.lit v) := by
  intro x B w tight hat hok hbd ht h0 h1
  obtain rfl : x = ⟨0, 0, ⟨#[]⟩, v, none, 0⟩ := hat
  have HT := Lib.hid ht
  have HO : Hid (v < 18446744073709551616) := Lib.hid hok
  clear ht hok hbd
  go_enter Tryd.func7, Tryd.ntmps7
  go_wp2_with fail
  refine (FormatUint_all v HO.out _ (TB.alloc HT.out _)).mono ?_
  rintro e w' ⟨rfl, hb⟩
  go_wp2
  go_ret
  exact ⟨rfl, ((Below.refl _ _).alloc (Nat.le_refl _) _).trans (hb.mono (by simp))⟩
theorem expr_name (s : ByteArray) : ExprSays (.name s) := by
  intro x B w tight hat hok hbd ht h0 h1
  obtain rfl : x = ⟨1, 0, s, 0, none, 0⟩ := hat
  clear ht hok hbd
  go_enter Tryd.func7, Tryd.ntmps7
  go_wp2
  go_ret
  exact ⟨rfl, (Below.refl _ _).alloc (Nat.le_refl _) _⟩
set_option maxHeartbeats 1000000 in
theorem expr_not (a : Tree) (ih : ExprSays a) : ExprSays (.not a) := by
  intro x B w tight hat hok hbd ht h0 h1
  obtain ⟨g, y, hg, rfl, hr, ha⟩ := hat
  have hsz := txt_size a hok 9
  simp only [bd] at hbd
  have hs : (txt a 9).size ≤ 1000000 := by omega
  have hgl := lt_heap hr
  obtain ⟨r, hrr⟩ : ∃ r, r = txt a 9 := ⟨_, rfl⟩
  have HK := Lib.hid (ih y B (w.alloc (row1 ⟨4, 0, ⟨#[]⟩, 0, some ⟨g, 0, none⟩, 1⟩)) 9 (ha.alloc _) hok (by omega) (ht.alloc _) (by omega) (by omega))
  have HE := Lib.hid (Row1.elem (blk_alloc hr (row1 ⟨4, 0, ⟨#[]⟩, 0, some ⟨g, 0, none⟩, 1⟩)))
  rw [← hrr] at hs HK
  have HR := Lib.hid hrr
  clear ht hok hbd hr ha hsz hrr
  go_enter Tryd.func7, Tryd.ntmps7
  go_wp2_with fail
  refine (kid_calls w.heap.size g 0 1 (by omega) ⟨4, 0, ⟨#[]⟩, 0, some ⟨g, 0, none⟩, 1⟩ y 9 r _ ((blk_cell (blk_new _ _) 4).trans rfl) (by omega) HE.out HK).mono ?_
  rintro e w' ⟨rfl, hb⟩
  go_wp2
  go_ret
  exact ⟨by rw [HR.out]; rfl, ((Below.refl _ _).alloc (Nat.le_refl _) _).trans (hb.mono (by simp))⟩

set_option maxHeartbeats 1000000 in
theorem expr_cell (s : ByteArray) (a : Tree) (ih : ExprSays a) : ExprSays (.cell s a) := by
  intro x B w tight hat hok hbd ht h0 h1
  obtain ⟨g, y, hg, rfl, hr, ha⟩ := hat
  have hsz := txt_size a hok 0
  simp only [bd] at hbd
  have hs : (txt a 0).size ≤ 1000000 := by omega
  have hs2 : s.size ≤ 1000000 := by omega
  have hgl := lt_heap hr
  obtain ⟨r, hrr⟩ : ∃ r, r = txt a 0 := ⟨_, rfl⟩
  have K := fun (w1 : World) (hb : Below w.heap.size w w1) => Lib.hid (ih y B w1 0 (ha.below hb) hok (by omega) (ht.below hb) (by omega) (by omega))
  rw [← hrr] at hs K
  have HR := Lib.hid hrr
  obtain ⟨w0, hw0⟩ : ∃ w0, w0 = w.alloc (row1 ⟨2, 0, s, 0, some ⟨g, 0, none⟩, 1⟩) := ⟨_, rfl⟩
  have hX : w0.heap[w.heap.size]? = some (row1 ⟨2, 0, s, 0, some ⟨g, 0, none⟩, 1⟩) := by rw [hw0]; exact blk_new _ _
  have hB0 : Below w.heap.size w w0 := by rw [hw0]; exact (Below.refl _ _).alloc (Nat.le_refl _) _
  have c2 : w0.cell? ⟨w.heap.size, 2, none⟩ = some (.string s) := (blk_cell hX 2).trans rfl
  have HC := Lib.hid c2
  have HB := Lib.hid hB0
  have HKID : Hid (∀ w', Below w0.heap.size w0 w' → Calls Tryd.prog 13 #[.int .i64 0, .int .i64 0, .pointer (some ⟨w.heap.size, 0, none⟩)] w' (Says w' r)) := Lib.hid fun w' hw =>
    kid_calls w.heap.size g 0 1 (by omega) ⟨2, 0, s, 0, some ⟨g, 0, none⟩, 1⟩ y 0 r w' ((blk_cell (blk_below hX hw) 4).trans rfl) (by omega) (Row1.elem (blk_below (blk_below hr hB0) hw)) (K w' (hB0.trans (hw.mono hB0.size)))
  have HW := Lib.hid hw0
  clear ht hok hbd hr ha hsz hrr K hw0 hX hB0 c2
  go_enter Tryd.func7, Tryd.ntmps7
  go_wp2_with fail
  rw [← HW.out]
  have z2 := HC.out
  have q1 : ¬ (9223372036854775807 < s.size + 1) := by omega
  have q2 : ¬ (9223372036854775807 < s.size + 1 + r.size) := by omega
  have q3 : ¬ (9223372036854775807 < s.size + 1 + r.size + 1) := by omega
  go_region_held3 (fun w' => Below w0.heap.size w0 w' ∧ w'.cell? ⟨w.heap.size, 2, none⟩ = some (.string s))
    (first
      | exact ⟨(Below.refl _ _).drew, HC.out⟩
      | exact ⟨Below.refl _ _, HC.out⟩
      | exact ⟨hbz.out, (hbz.out.cell (World.block_lt_of_cell? w0 _ HC.out)).trans HC.out⟩
      | (go_split_ands; exact ⟨by assumption, by assumption⟩)
      | (go_split_ands
         have hbs3 := Below.trans (by assumption : Below w0.heap.size w0 _) (hbz.out.mono (Below.size (by assumption : Below w0.heap.size w0 _)))
         exact ⟨hbs3, (hbs3.cell (World.block_lt_of_cell? w0 _ HC.out)).trans HC.out⟩))
    (first | (go_at_call 13; go_split_ands; refine (HKID.out _ (by first | assumption | exact Below.refl _ _)).mono ?_; rintro e w' ⟨rfl, hbz0⟩; have hbz := Lib.hid hbz0; clear hbz0))
  go_wp2
  go_ret
  have h0' : w0.heap.size = w0.drew.heap.size := rfl
  exact ⟨by rw [HR.out]; rfl, HB.out.trans (((Below.refl _ _).drew.trans (hbz.out.mono (by rw [← h0']; exact Nat.le_refl _))).mono HB.out.size)⟩

set_option maxHeartbeats 1000000 in
theorem expr_pick (a b c : Tree) (iha : ExprSays a) (ihb : ExprSays b) (ihc : ExprSays c) : ExprSays (.pick a b c) := by
  intro x B w tight hat hok hbd ht h0 h1
  obtain ⟨g, y1, y2, y3, hg, rfl, hr, ha, hb, hc⟩ := hat
  have z1 := txt_size a hok.1 0
  have z2 := txt_size b hok.2.1 0
  have z3 := txt_size c hok.2.2 0
  simp only [bd] at hbd
  have hs1 : (txt a 0).size ≤ 1000000 := by omega
  have hs2 : (txt b 0).size ≤ 1000000 := by omega
  have hs3 : (txt c 0).size ≤ 1000000 := by omega
  have hgl := lt_heap hr
  obtain ⟨r1, hr1⟩ : ∃ r, r = txt a 0 := ⟨_, rfl⟩
  obtain ⟨r2, hr2⟩ : ∃ r, r = txt b 0 := ⟨_, rfl⟩
  obtain ⟨r3, hr3⟩ : ∃ r, r = txt c 0 := ⟨_, rfl⟩
  have K1 := fun (w1 : World) (hw : Below w.heap.size w w1) => Lib.hid (iha y1 B w1 0 (ha.below hw) hok.1 (by omega) (ht.below hw) (by omega) (by omega))
  have K2 := fun (w1 : World) (hw : Below w.heap.size w w1) => Lib.hid (ihb y2 B w1 0 (hb.below hw) hok.2.1 (by omega) (ht.below hw) (by omega) (by omega))
  have K3 := fun (w1 : World) (hw : Below w.heap.size w w1) => Lib.hid (ihc y3 B w1 0 (hc.below hw) hok.2.2 (by omega) (ht.below hw) (by omega) (by omega))
  rw [← hr1] at hs1 K1
  rw [← hr2] at hs2 K2
  rw [← hr3] at hs3 K3
  have HK1 := Lib.hid K1
  have HK2 := Lib.hid K2
  have HK3 := Lib.hid K3
  have HE := Lib.hid hr
  have HR1 := Lib.hid hr1
  have HR2 := Lib.hid hr2
  have HR3 := Lib.hid hr3
  clear ht hok hbd hr ha hb hc z1 z2 z3 hr1 hr2 hr3 K1 K2 K3
  have HX := Lib.hid (blk_new w (row1 ⟨5, 0, ⟨#[]⟩, 0, some ⟨g, 0, none⟩, 3⟩))
  have HB := Lib.hid ((Below.refl w.heap.size w).alloc (Nat.le_refl _) (row1 ⟨5, 0, ⟨#[]⟩, 0, some ⟨g, 0, none⟩, 3⟩))
  go_enter Tryd.func7, Tryd.ntmps7
  go_wp2_with fail
  refine (kid_calls w.heap.size g 0 3 (by omega) ⟨5, 0, ⟨#[]⟩, 0, some ⟨g, 0, none⟩, 3⟩ y1 0 r1 _ ((blk_cell HX.out 4).trans rfl) (by omega) (Row3.elem (blk_below HE.out HB.out)).1 (HK1.out _ HB.out)).mono ?_
  rintro e w1 ⟨rfl, hb1⟩
  have HX1 := Lib.hid (blk_below HX.out hb1)
  have HB1 := Lib.hid (HB.out.trans (hb1.mono (by simp)))
  clear hb1
  go_wp2_with fail
  refine (kid_calls w.heap.size g 1 3 (by omega) ⟨5, 0, ⟨#[]⟩, 0, some ⟨g, 0, none⟩, 3⟩ y2 0 r2 _ ((blk_cell HX1.out 4).trans rfl) (by omega) (Row3.elem (blk_below HE.out HB1.out)).2.1 (HK2.out _ HB1.out)).mono ?_
  rintro e w2 ⟨rfl, hb2⟩
  have HX2 := Lib.hid (blk_below HX1.out hb2)
  have HB2 := Lib.hid (HB1.out.trans (hb2.mono HB1.out.size))
  clear hb2
  go_wp2_with fail
  refine (kid_calls w.heap.size g 2 3 (by omega) ⟨5, 0, ⟨#[]⟩, 0, some ⟨g, 0, none⟩, 3⟩ y3 0 r3 _ ((blk_cell HX2.out 4).trans rfl) (by omega) (Row3.elem (blk_below HE.out HB2.out)).2.2 (HK3.out _ HB2.out)).mono ?_
  rintro e w3 ⟨rfl, hb3⟩
  have HB3 := Lib.hid (HB2.out.trans (hb3.mono HB2.out.size))
  clear hb3
  go_wp2
  go_ret
  exact ⟨by rw [HR1.out, HR2.out, HR3.out]; rfl, HB3.out⟩

end Go.Proofs.YthboknkpgbfmoaaDoor.PQ
