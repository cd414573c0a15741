/- The contract of tree.Expr: an expression's text is txt's. -/
import Derived.Test.YtcdgjgoplogiiaaDoorDat
import Derived.Test.YtcdgjgoplogiiaaDoorUint
import Derived.Deep.RegionHeld3
import Derived.Deep.DeepCutAuto
import Derived.Deep.RegionWith
import Derived.KernelRfl
namespace Go.Proofs.YtcdgjgoplogiiaaDoor.PT
open Go.RowKit Go.Lib
set_option linter.unusedVariables false
set_option linter.unusedSimpArgs false

theorem gTab : Tryd.prog.globalNamed "internal/strconv.uint64pow10" = some 1 := by kernel_rfl
theorem TB.below {w w' : World} (h : TB w) (hb : Below w.heap.size w w') : TB w' := Go.Joins.tab_stays gTab h hb (Nat.le_refl _)
theorem TB.alloc {w : World} (h : TB w) (o : Obj) : TB (w.alloc o) := h.below ((Below.refl _ _).alloc (Nat.le_refl _) o)
/-- A call answers with a text, and changes nothing that there was. -/
def Says (w : World) (r : ByteArray) (e : Ending) (w' : World) : Prop := e = .returned (.string r) ∧ Below w.heap.size w w'
def ExprSays (t : Tree) : Prop := ∀ (x : EV) (P : Nat → Prop) (w : World) (tight : Int), At t P w x → ok t → bd t ≤ 1000000 → TB w → 0 ≤ tight → tight ≤ 20 → Calls Tryd.prog 17 #[x.val, .int .i64 tight] w (Says w (txt t tight))
/-- The k-th expression of a row. -/
def Elem (w : World) (g k : Nat) (y : EV) : Prop := (w.cell? ⟨g, k * 6, none⟩ = some (.int .i64 y.k) ∧ w.cell? ⟨g, k * 6 + 1, none⟩ = some (.int .i64 y.o)) ∧ (w.cell? ⟨g, k * 6 + 2, none⟩ = some (.string y.s) ∧ w.cell? ⟨g, k * 6 + 3, none⟩ = some (.int .u64 y.v)) ∧ w.cell? ⟨g, k * 6 + 4, none⟩ = some (.slice y.A y.n y.c) ∧ w.cell? ⟨g, k * 6 + 5, none⟩ = some (.int .i64 y.p)
theorem Row.elem {w : World} {g : Nat} {ys : List EV} (h : Row w TE g (ys.flatMap EV.cells)) (k : Nat) (y : EV) (hk : ys[k]? = some y) : Elem w g k y := by
  have hh : ∀ j, j < 6 → (ys.flatMap EV.cells)[k * 6 + j]? = (EV.cells y)[j]? := fun j hj => flat_get EV.cells 6 (fun _ => rfl) ys k y hk j hj
  exact ⟨⟨h.cell (hh 0 (by omega)), h.cell (hh 1 (by omega))⟩, ⟨h.cell (hh 2 (by omega)), h.cell (hh 3 (by omega))⟩, h.cell (hh 4 (by omega)), h.cell (hh 5 (by omega))⟩
theorem Row.elem1 {w : World} {g : Nat} {x : EV} (h : Row w TE g x.cells) : Elem w g 0 x := Row.elem (ys := [x]) (by simpa using h) 0 x rfl
theorem Row.elem2 {w : World} {g : Nat} {x y : EV} (h : Row w TE g (x.cells ++ y.cells)) : Elem w g 0 x ∧ Elem w g 1 y :=
  have h' : Row w TE g ([x, y].flatMap EV.cells) := by simpa using h
  ⟨h'.elem 0 x rfl, h'.elem 1 y rfl⟩
theorem Row.elem3 {w : World} {g : Nat} {x y z : EV} (h : Row w TE g (x.cells ++ y.cells ++ z.cells)) : Elem w g 0 x ∧ Elem w g 1 y ∧ Elem w g 2 z :=
  have h' : Row w TE g ([x, y, z].flatMap EV.cells) := by simpa using h
  ⟨h'.elem 0 x rfl, h'.elem 1 y rfl, h'.elem 2 z rfl⟩

/-- The box of a parameter. -/
abbrev box (x : EV) : Obj := .cells #[.int .i64 x.k, .int .i64 x.o, .string x.s, .int .u64 x.v, .slice x.A x.n x.c, .int .i64 x.p] TE
set_option maxHeartbeats 1000000 in
theorem kid_calls (ge g k n c : Nat) (hk3 : k < 3) (hk : k < n) (hnc : n ≤ c) (x y : EV) (tight : Int) (r : ByteArray) (w : World) (hx : w.cell? ⟨ge, 4, none⟩ = some (.slice (some ⟨g, 0, none⟩) n c)) (he : Elem w g k y)
    (hy : Hid (Calls Tryd.prog 17 #[y.val, .int .i64 tight] w (Says w r))) :
    Calls Tryd.prog 35 #[.int .i64 k, .int .i64 tight, .pointer (some ⟨ge, 0, none⟩)] w (Says w r) := by
  obtain ⟨⟨e0, e1⟩, ⟨e2, e3⟩, e4, e5⟩ := he
  rcases (show k = 0 ∨ k = 1 ∨ k = 2 by omega) with rfl | rfl | rfl
  all_goals
    simp only [Nat.zero_mul, Nat.one_mul, Nat.zero_add, Nat.reduceMul, Nat.reduceAdd] at e0 e1 e2 e3 e4 e5
    go_enter Tryd.func35, Tryd.ntmps35
    go_wp2_with (go_at_call 17; refine hy.out.mono ?_; rintro e w' ⟨rfl, hb⟩)
    go_ret
    exact ⟨rfl, hb⟩

theorem Row.below {w w' : World} {E : TypeId} {g : Nat} {cs : List Value} (h : Row w E g cs) (hb : Below w.heap.size w w') : Row w' E g cs := h.same (hb.block g h.lt)

set_option maxHeartbeats 4000000 in
theorem tight_calls (o : Nat) (h : o < 10) (w : World) :
    Calls Tryd.prog 37 #[.int .i64 o] w fun e w' => e = .returned (.int .i64 (tightOf o)) ∧ Below w.heap.size w w' := by
  rcases (show o = 0 ∨ o = 1 ∨ o = 2 ∨ o = 3 ∨ o = 4 ∨ o = 5 ∨ o = 6 ∨ o = 7 ∨ o = 8 ∨ o = 9 by omega) with h | h | h | h | h | h | h | h | h | h <;> subst h
  all_goals
    go_enter Tryd.func37, Tryd.ntmps37
    go_wp2
    go_ret
    exact ⟨rfl, (Below.refl _ _).alloc (Nat.le_refl _) _⟩

theorem signs_calls (w : World) :
    Calls Tryd.prog 38 #[] w fun e w' => ∃ g, e = .returned (.slice (some ⟨g, 0, none⟩) 10 10) ∧ w.heap.size ≤ g ∧ w'.heap[g]? = some (.cells (signs.map Value.string).toArray 9 (0, 0)) ∧ Below w.heap.size w w' := by
  go_enter Tryd.func38, Tryd.ntmps38
  go_wp2
  go_ret
  exact ⟨w.heap.size, rfl, Nat.le_refl _, by rw [World.alloc]; simp [signs], (Below.refl _ _).alloc (Nat.le_refl _) _⟩

theorem sign_cell {w : World} {g : Nat} (h : w.heap[g]? = some (.cells (signs.map Value.string).toArray 9 (0, 0))) (o : Nat) (ho : o < 10) : w.cell? ⟨g, o, none⟩ = some (.string (signOf o)) := by
  rw [blk_cell h o]
  rcases (show o = 0 ∨ o = 1 ∨ o = 2 ∨ o = 3 ∨ o = 4 ∨ o = 5 ∨ o = 6 ∨ o = 7 ∨ o = 8 ∨ o = 9 by omega) with h | h | h | h | h | h | h | h | h | h <;> subst h <;> rfl
theorem expr_lit (v : Nat) (p : Int) : ExprSays (.lit v p) := by
  intro x P w tight hat hok hbd ht h0 h1
  obtain rfl : x = ⟨0, 0, ⟨#[]⟩, v, none, 0, 0, p⟩ := hat
  have HT := Lib.hid ht
  have HO : Hid (v < 18446744073709551616) := Lib.hid hok
  clear ht hok hbd
  go_enter Tryd.func17, Tryd.ntmps17
  go_wp2_with fail
  refine (FormatUint_all v HO.out _ (TB.alloc HT.out _)).mono ?_
  rintro e w' ⟨rfl, hb⟩
  go_wp2
  go_ret
  exact ⟨rfl, ((Below.refl _ _).alloc (Nat.le_refl _) _).trans (hb.mono (by simp))⟩
theorem expr_name (s : ByteArray) (p : Int) : ExprSays (.name s p) := by
  intro x P w tight hat hok hbd ht h0 h1
  obtain rfl : x = ⟨1, 0, s, 0, none, 0, 0, p⟩ := hat
  clear ht hok hbd
  go_enter Tryd.func17, Tryd.ntmps17
  go_wp2
  go_ret
  exact ⟨rfl, (Below.refl _ _).alloc (Nat.le_refl _) _⟩
set_option maxHeartbeats 1000000 in
theorem expr_not (a : Tree) (p : Int) (ih : ExprSays a) : ExprSays (.not a p) := by
  intro x P w tight hat hok hbd ht h0 h1
  obtain ⟨g, c, y, hg, hc, rfl, hr, ha⟩ := hat
  have hsz := txt_size a hok 9
  simp only [bd] at hbd
  have hs : (txt a 9).size ≤ 1000000 := by omega
  have hgl := hr.lt
  obtain ⟨r, hrr⟩ : ∃ r, r = txt a 9 := ⟨_, rfl⟩
  have HK := Lib.hid (ih y P (w.alloc (box ⟨4, 0, ⟨#[]⟩, 0, some ⟨g, 0, none⟩, 1, c, p⟩)) 9 (ha.alloc _) hok (by omega) (ht.alloc _) (by omega) (by omega))
  have HE := Lib.hid (Row.elem1 (hr.below ((Below.refl _ _).alloc (Nat.le_refl _) (box ⟨4, 0, ⟨#[]⟩, 0, some ⟨g, 0, none⟩, 1, c, p⟩))))
  rw [← hrr] at hs HK
  have HR := Lib.hid hrr
  clear ht hok hbd hr ha hsz hrr
  go_enter Tryd.func17, Tryd.ntmps17
  go_wp2_with fail
  refine (kid_calls w.heap.size g 0 1 c (by omega) (by omega) hc ⟨4, 0, ⟨#[]⟩, 0, some ⟨g, 0, none⟩, 1, c, p⟩ y 9 r _ ((blk_cell (blk_new _ _) 4).trans rfl) HE.out HK).mono ?_
  rintro e w' ⟨rfl, hb⟩
  go_wp2
  go_ret
  exact ⟨by rw [HR.out]; rfl, ((Below.refl _ _).alloc (Nat.le_refl _) _).trans (hb.mono (by simp))⟩

set_option maxHeartbeats 1000000 in
theorem expr_cell (s : ByteArray) (a : Tree) (p : Int) (ih : ExprSays a) : ExprSays (.cell s a p) := by
  intro x P w tight hat hok hbd ht h0 h1
  obtain ⟨g, c, y, hg, hc, rfl, hr, ha⟩ := hat
  have hsz := txt_size a hok 0
  simp only [bd] at hbd
  have hs : (txt a 0).size ≤ 1000000 := by omega
  have hs2 : s.size ≤ 1000000 := by omega
  have hgl := hr.lt
  obtain ⟨r, hrr⟩ : ∃ r, r = txt a 0 := ⟨_, rfl⟩
  have K := fun (w1 : World) (hb : Below w.heap.size w w1) => Lib.hid (ih y P w1 0 (ha.below hb) hok (by omega) (ht.below hb) (by omega) (by omega))
  rw [← hrr] at hs K
  have HR := Lib.hid hrr
  obtain ⟨w0, hw0⟩ : ∃ w0, w0 = w.alloc (box ⟨2, 0, s, 0, some ⟨g, 0, none⟩, 1, c, p⟩) := ⟨_, rfl⟩
  have hX : w0.heap[w.heap.size]? = some (box ⟨2, 0, s, 0, some ⟨g, 0, none⟩, 1, c, p⟩) := by rw [hw0]; exact blk_new _ _
  have hB0 : Below w.heap.size w w0 := by rw [hw0]; exact (Below.refl _ _).alloc (Nat.le_refl _) _
  have c2 : w0.cell? ⟨w.heap.size, 2, none⟩ = some (.string s) := (blk_cell hX 2).trans rfl
  have HC := Lib.hid c2
  have HB := Lib.hid hB0
  have HKID : Hid (∀ w', Below w0.heap.size w0 w' → Calls Tryd.prog 35 #[.int .i64 0, .int .i64 0, .pointer (some ⟨w.heap.size, 0, none⟩)] w' (Says w' r)) := Lib.hid fun w' hw =>
    kid_calls w.heap.size g 0 1 c (by omega) (by omega) hc ⟨2, 0, s, 0, some ⟨g, 0, none⟩, 1, c, p⟩ y 0 r w' ((blk_cell (blk_below hX hw) 4).trans rfl) (Row.elem1 ((hr.below hB0).below hw)) (K w' (hB0.trans (hw.mono hB0.size)))
  have HW := Lib.hid hw0
  clear ht hok hbd hr ha hsz hrr K hw0 hX hB0 c2
  go_enter Tryd.func17, Tryd.ntmps17
  go_wp2_with fail
  rw [← HW.out]
  have z2 := HC.out
  have q1 : ¬ (9223372036854775807 < s.size + 1) := by omega
  have q2 : ¬ (9223372036854775807 < s.size + 1 + r.size) := by omega
  have q3 : ¬ (9223372036854775807 < s.size + 1 + r.size + 1) := by omega
  go_region_held3 (fun w' => Below w0.heap.size w0 w' ∧ w'.cell? ⟨w.heap.size, 2, none⟩ = some (.string s))
    (first
      | exact ⟨(Below.refl _ _).drew, HC.out⟩
      | exact ⟨Below.refl _ _, HC.out⟩
      | exact ⟨hbz.out, (hbz.out.cell (World.block_lt_of_cell? w0 _ HC.out)).trans HC.out⟩
      | (go_split_ands; exact ⟨by assumption, by assumption⟩)
      | (go_split_ands
         have hbs3 := Below.trans (by assumption : Below w0.heap.size w0 _) (hbz.out.mono (Below.size (by assumption : Below w0.heap.size w0 _)))
         exact ⟨hbs3, (hbs3.cell (World.block_lt_of_cell? w0 _ HC.out)).trans HC.out⟩))
    (first | (go_at_call 35; go_split_ands; refine (HKID.out _ (by first | assumption | exact Below.refl _ _)).mono ?_; rintro e w' ⟨rfl, hbz0⟩; have hbz := Lib.hid hbz0; clear hbz0))
  go_wp2
  go_ret
  have h0' : w0.heap.size = w0.drew.heap.size := rfl
  exact ⟨by rw [HR.out]; rfl, HB.out.trans (((Below.refl _ _).drew.trans (hbz.out.mono (by rw [← h0']; exact Nat.le_refl _))).mono HB.out.size)⟩

set_option maxHeartbeats 1000000 in
theorem expr_pick (a b d : Tree) (p : Int) (iha : ExprSays a) (ihb : ExprSays b) (ihc : ExprSays d) : ExprSays (.pick a b d p) := by
  intro x P w tight hat hok hbd ht h0 h1
  obtain ⟨g, c, y1, y2, y3, hg, hcc, rfl, hr, ha, hb, hc⟩ := hat
  have z1 := txt_size a hok.1 0
  have z2 := txt_size b hok.2.1 0
  have z3 := txt_size d hok.2.2 0
  simp only [bd] at hbd
  have hs1 : (txt a 0).size ≤ 1000000 := by omega
  have hs2 : (txt b 0).size ≤ 1000000 := by omega
  have hs3 : (txt d 0).size ≤ 1000000 := by omega
  have hgl := hr.lt
  obtain ⟨r1, hr1⟩ : ∃ r, r = txt a 0 := ⟨_, rfl⟩
  obtain ⟨r2, hr2⟩ : ∃ r, r = txt b 0 := ⟨_, rfl⟩
  obtain ⟨r3, hr3⟩ : ∃ r, r = txt d 0 := ⟨_, rfl⟩
  have K1 := fun (w1 : World) (hw : Below w.heap.size w w1) => Lib.hid (iha y1 P w1 0 (ha.below hw) hok.1 (by omega) (ht.below hw) (by omega) (by omega))
  have K2 := fun (w1 : World) (hw : Below w.heap.size w w1) => Lib.hid (ihb y2 P w1 0 (hb.below hw) hok.2.1 (by omega) (ht.below hw) (by omega) (by omega))
  have K3 := fun (w1 : World) (hw : Below w.heap.size w w1) => Lib.hid (ihc y3 P w1 0 (hc.below hw) hok.2.2 (by omega) (ht.below hw) (by omega) (by omega))
  rw [← hr1] at hs1 K1
  rw [← hr2] at hs2 K2
  rw [← hr3] at hs3 K3
  have HK1 := Lib.hid K1
  have HK2 := Lib.hid K2
  have HK3 := Lib.hid K3
  have HE := Lib.hid hr
  have HR1 := Lib.hid hr1
  have HR2 := Lib.hid hr2
  have HR3 := Lib.hid hr3
  clear ht hok hbd hr ha hb hc z1 z2 z3 hr1 hr2 hr3 K1 K2 K3
  have HX := Lib.hid (blk_new w (box ⟨5, 0, ⟨#[]⟩, 0, some ⟨g, 0, none⟩, 3, c, p⟩))
  have HB := Lib.hid ((Below.refl w.heap.size w).alloc (Nat.le_refl _) (box ⟨5, 0, ⟨#[]⟩, 0, some ⟨g, 0, none⟩, 3, c, p⟩))
  go_enter Tryd.func17, Tryd.ntmps17
  go_wp2_with fail
  refine (kid_calls w.heap.size g 0 3 c (by omega) (by omega) hcc ⟨5, 0, ⟨#[]⟩, 0, some ⟨g, 0, none⟩, 3, c, p⟩ y1 0 r1 _ ((blk_cell HX.out 4).trans rfl) (Row.elem3 (HE.out.below HB.out)).1 (HK1.out _ HB.out)).mono ?_
  rintro e w1 ⟨rfl, hb1⟩
  have HX1 := Lib.hid (blk_below HX.out hb1)
  have HB1 := Lib.hid (HB.out.trans (hb1.mono (by simp)))
  clear hb1
  go_wp2_with fail
  refine (kid_calls w.heap.size g 1 3 c (by omega) (by omega) hcc ⟨5, 0, ⟨#[]⟩, 0, some ⟨g, 0, none⟩, 3, c, p⟩ y2 0 r2 _ ((blk_cell HX1.out 4).trans rfl) (Row.elem3 (HE.out.below HB1.out)).2.1 (HK2.out _ HB1.out)).mono ?_
  rintro e w2 ⟨rfl, hb2⟩
  have HX2 := Lib.hid (blk_below HX1.out hb2)
  have HB2 := Lib.hid (HB1.out.trans (hb2.mono HB1.out.size))
  clear hb2
  go_wp2_with fail
  refine (kid_calls w.heap.size g 2 3 c (by omega) (by omega) hcc ⟨5, 0, ⟨#[]⟩, 0, some ⟨g, 0, none⟩, 3, c, p⟩ y3 0 r3 _ ((blk_cell HX2.out 4).trans rfl) (Row.elem3 (HE.out.below HB2.out)).2.2 (HK3.out _ HB2.out)).mono ?_
  rintro e w3 ⟨rfl, hb3⟩
  have HB3 := Lib.hid (HB2.out.trans (hb3.mono HB2.out.size))
  clear hb3
  go_wp2
  go_ret
  exact ⟨by rw [HR1.out, HR2.out, HR3.out]; rfl, HB3.out⟩


set_option maxHeartbeats 6000000 in
theorem expr_bin (o : Nat) (a b : Tree) (p : Int) (iha : ExprSays a) (ihb : ExprSays b) : ExprSays (.bin o a b p) := by
  intro x P w tight hat hok hbd ht h0 h1
  obtain ⟨g, c, y1, y2, hg, hcc, rfl, hr, ha, hb⟩ := hat
  have ho : o < 10 := hok.1
  obtain ⟨tb0, tb1⟩ := tight_bd o
  have tp := tight_pos o ho
  have z1 := txt_size a hok.2.1 (tightOf o)
  have z2 := txt_size b hok.2.2 (tightOf o + 1)
  simp only [bd] at hbd
  have hs1 : (txt a (tightOf o)).size ≤ 1000000 := by omega
  have hs2 : (txt b (tightOf o + 1)).size ≤ 1000000 := by omega
  have hgl := hr.lt
  obtain ⟨r1, hr1⟩ : ∃ r, r = txt a (tightOf o) := ⟨_, rfl⟩
  obtain ⟨r2, hr2⟩ : ∃ r, r = txt b (tightOf o + 1) := ⟨_, rfl⟩
  have K1 := fun (w1 : World) (hw : Below w.heap.size w w1) => Lib.hid (iha y1 P w1 (tightOf o) (ha.below hw) hok.2.1 (by omega) (ht.below hw) (by omega) (by omega))
  have K2 := fun (w1 : World) (hw : Below w.heap.size w w1) => Lib.hid (ihb y2 P w1 (tightOf o + 1) (hb.below hw) hok.2.2 (by omega) (ht.below hw) (by omega) (by omega))
  rw [← hr1] at hs1 K1
  rw [← hr2] at hs2 K2
  obtain ⟨tt, htt⟩ : ∃ tt, tt = tightOf o := ⟨_, rfl⟩
  rw [← htt] at tb0 tb1 tp K1 K2 hr1 hr2
  have HK1 := Lib.hid K1
  have HK2 := Lib.hid K2
  have HE := Lib.hid hr
  have HR1 := Lib.hid hr1
  have HR2 := Lib.hid hr2
  have HTT := Lib.hid htt
  have hsg := sign_sz o
  obtain ⟨sg, hsgg⟩ : ∃ sg, sg = signOf o := ⟨_, rfl⟩
  rw [← hsgg] at hsg
  have HSG := Lib.hid hsgg
  clear ht hok hbd hr ha hb z1 z2 hr1 hr2 K1 K2 htt hsgg
  have HX := Lib.hid (blk_new w (box ⟨3, o, ⟨#[]⟩, 0, some ⟨g, 0, none⟩, 2, c, p⟩))
  have HB := Lib.hid ((Below.refl w.heap.size w).alloc (Nat.le_refl _) (box ⟨3, o, ⟨#[]⟩, 0, some ⟨g, 0, none⟩, 2, c, p⟩))
  go_enter Tryd.func17, Tryd.ntmps17
  go_wp2_with fail
  refine (tight_calls o ho _).mono ?_
  rintro e w1 ⟨rfl, hb1⟩
  rw [← HTT.out]
  have HX1 := Lib.hid (blk_below HX.out hb1)
  have HB1 := Lib.hid (HB.out.trans (hb1.mono (by simp)))
  clear hb1
  have HKID1 : Hid (∀ w', Below w1.heap.size w1 w' → Calls Tryd.prog 35 #[.int .i64 0, .int .i64 tt, .pointer (some ⟨w.heap.size, 0, none⟩)] w' (Says w' r1)) := Lib.hid fun w' hw =>
    kid_calls w.heap.size g 0 2 c (by omega) (by omega) hcc ⟨3, o, ⟨#[]⟩, 0, some ⟨g, 0, none⟩, 2, c, p⟩ y1 tt r1 w' ((blk_cell (blk_below HX1.out hw) 4).trans rfl) (Row.elem2 ((HE.out.below HB1.out).below hw)).1 (HK1.out w' (HB1.out.trans (hw.mono HB1.out.size)))
  have HKID2 : Hid (∀ w', Below w1.heap.size w1 w' → Calls Tryd.prog 35 #[.int .i64 1, .int .i64 (tt + 1), .pointer (some ⟨w.heap.size, 0, none⟩)] w' (Says w' r2)) := Lib.hid fun w' hw =>
    kid_calls w.heap.size g 1 2 c (by omega) (by omega) hcc ⟨3, o, ⟨#[]⟩, 0, some ⟨g, 0, none⟩, 2, c, p⟩ y2 (tt + 1) r2 w' ((blk_cell (blk_below HX1.out hw) 4).trans rfl) (Row.elem2 ((HE.out.below HB1.out).below hw)).2 (HK2.out w' (HB1.out.trans (hw.mono HB1.out.size)))
  have z0 : w1.cell? ⟨w.heap.size, 0, none⟩ = some (.int .i64 3) := (blk_cell HX1.out 0).trans rfl
  have z1 : w1.cell? ⟨w.heap.size, 1, none⟩ = some (.int .i64 o) := (blk_cell HX1.out 1).trans rfl
  have HC := Lib.hid z1
  go_wp2_with fail
  clear z0
  have o0 : (0 : Int) ≤ (o : Int) := by omega
  have o1 : (o : Int) < 10 := by omega
  have q1 : ¬ (9223372036854775807 < r1.size + 1) := by omega
  have q2 : ¬ (9223372036854775807 < r1.size + 1 + sg.size) := by omega
  have q3 : ¬ (9223372036854775807 < r1.size + 1 + sg.size + 1) := by omega
  have q4 : ¬ (9223372036854775807 < r1.size + 1 + sg.size + 1 + r2.size) := by omega
  have q5 : IntKind.i64.wrap (tt + 1) = tt + 1 := IntWalk.i64_in _ (by omega)
  have hB0 : Below w1.heap.size w1 w1 := Below.refl _ _
  go_region_with (first
      | ((go_at_call 38); refine (signs_calls _).mono ?_; rintro e w' ⟨gs, rfl, hgs, hrow, hbz0⟩; have hbz := Below.trans (by assumption : Below w1.heap.size w1 _) (hbz0.mono (Below.size (by assumption : Below w1.heap.size w1 _))); have zz := (hbz.cell (World.block_lt_of_cell? w1 _ HC.out)).trans HC.out; have hsc : World.cell? w' ⟨gs, o, none⟩ = some (.string sg) := (sign_cell hrow o ho).trans (by rw [HSG.out]); clear hbz0 hrow hgs)
      | ((go_at_call 35); (with_reducible refine (HKID1.out _ (by first | assumption | exact (Below.refl _ _).drew)).mono ?_); rintro e w' ⟨rfl, hbz0⟩; have hbz := Below.trans (by first | assumption | exact (Below.refl _ _).drew : Below w1.heap.size w1 _) (hbz0.mono (Below.size (by first | assumption | exact (Below.refl _ _).drew : Below w1.heap.size w1 _))); have zz := (hbz.cell (World.block_lt_of_cell? w1 _ HC.out)).trans HC.out; clear hbz0)
      | ((go_at_call 35); (with_reducible refine (HKID2.out _ (by assumption)).mono ?_); rintro e w' ⟨rfl, hbz0⟩; have hbz := Below.trans (by assumption : Below w1.heap.size w1 _) (hbz0.mono (Below.size (by assumption : Below w1.heap.size w1 _))); have zz := (hbz.cell (World.block_lt_of_cell? w1 _ HC.out)).trans HC.out; (try (have hsc2 := (Below.cell hbz0 (World.block_lt_of_cell? _ _ hsc)).trans hsc)); clear hbz0))
  all_goals
    clear q1 q2 q3 q4 q5
    by_cases hlt : tt < tight
    · go_wp2
      go_ret
      refine ⟨?_, HB1.out.trans (Below.mono (by assumption) HB1.out.size)⟩
      have e : txt (.bin o a b p) tight = ⟨#[40]⟩ ++ bare o (txt a (tightOf o)) (txt b (tightOf o + 1)) ++ ⟨#[41]⟩ := if_pos (by rw [← HTT.out]; omega)
      rw [e, ← HTT.out, ← HR1.out, ← HR2.out]
      unfold bare
      rw [← HSG.out]
      rfl
    · go_wp2
      go_ret
      refine ⟨?_, HB1.out.trans (Below.mono (by assumption) HB1.out.size)⟩
      have e : txt (.bin o a b p) tight = bare o (txt a (tightOf o)) (txt b (tightOf o + 1)) := if_neg (by rw [← HTT.out]; omega)
      rw [e, ← HTT.out, ← HR1.out, ← HR2.out]
      unfold bare
      rw [← HSG.out]
      rfl

theorem expr_all (t : Tree) : ExprSays t := by
  induction t with
  | lit v p => exact expr_lit v p
  | name s p => exact expr_name s p
  | cell s a p ih => exact expr_cell s a p ih
  | not a p ih => exact expr_not a p ih
  | pick a b c p iha ihb ihc => exact expr_pick a b c p iha ihb ihc
  | bin o a b p iha ihb => exact expr_bin o a b p iha ihb
end Go.Proofs.YtcdgjgoplogiiaaDoor.PT
