/- (*parser).decl. -/
import Derived.Test.YtcdgjgoplogiiaaDoorStu
import Derived.Test.YtcdgjgoplogiiaaDoorPgm
namespace Go.Proofs.YtcdgjgoplogiiaaDoor.PT
open Go.RowKit Go.Lib
set_option linter.unusedVariables false
set_option linter.unusedSimpArgs false
abbrev dz : Dcl := ⟨false, 0, ⟨#[]⟩, 0, ⟨#[]⟩, 0⟩
def DPost (w : World) (b g c : Nat) (ts : List Tok) (r : Dcl × PS) (dp : Nat) (e : Ending) (w' : World) : Prop := e = .returned r.1.val ∧ PT w b g c ts r.2 dp w'
/-- A declaration's variable in block S, its result's in the first new block. -/
structure DI (w : World) (b g c : Nat) (ts : List Tok) (dp S : Nat) (x : Dcl) (q : PS) (w' : World) : Prop where
  pt : PT w b g c ts q dp w'
  R : w'.heap[w.heap.size]? = some (.cells dz.cells.toArray TD (0, 0))
  blk : w'.heap[S]? = some (.cells x.cells.toArray TD (0, 0))
  hS : w.heap.size < S
theorem DI.go {w : World} {b g c : Nat} {ts : List Tok} {dp S : Nat} {x : Dcl} {q q' : PS} {w' w'' : World} (h : DI w b g c ts dp S x q w') (hp : PT w' b g c ts q' dp w'') : DI w b g c ts dp S x q' w'' :=
  ⟨h.pt.trans hp, blk_pm h.pt.1 hp.2 h.R (by decide), blk_pm h.pt.1 hp.2 h.blk (by decide), h.hS⟩
theorem DI.put {w : World} {b g c : Nat} {ts : List Tok} {dp S : Nat} {x : Dcl} {q : PS} {w' : World} (h : DI w b g c ts dp S x q w') (x' : Dcl) (j : Nat) (v : Value) (e : x.cells.toArray.setIfInBounds j v = x'.cells.toArray) : DI w b g c ts dp S x' q (w'.setCell ⟨S, j, none⟩ v) := by
  have hlt := h.hS
  have far : ∀ i, i ≠ S → (w'.setCell ⟨S, j, none⟩ v).heap[i]? = w'.heap[i]? := fun i hi => Below.heap_setCell _ _ _ _ hi
  exact ⟨⟨h.pt.1.off (by decide) h.blk far, gb_far h.pt.2 (show w.heap.size ≤ S by omega) v⟩, (far _ (by omega)).trans h.R, blk_put h.blk j v e, hlt⟩
theorem cellsD {w : World} {S : Nat} {x : Dcl} (h : w.heap[S]? = some (.cells x.cells.toArray TD (0, 0))) :
    w.cell? ⟨S, 0, none⟩ = some (.bool x.lock) ∧ w.cell? ⟨S, 1, none⟩ = some (.int .i64 x.label) ∧ w.cell? ⟨S, 2, none⟩ = some (.string x.name) ∧ w.cell? ⟨S, 3, none⟩ = some (.int .i64 x.size) ∧ w.cell? ⟨S, 4, none⟩ = some (.string x.by') ∧ w.cell? ⟨S, 5, none⟩ = some (.int .i64 x.p) :=
  ⟨(blk_cell h 0).trans rfl, (blk_cell h 1).trans rfl, (blk_cell h 2).trans rfl, (blk_cell h 3).trans rfl, (blk_cell h 4).trans rfl, (blk_cell h 5).trans rfl⟩
theorem freeD {w : World} {S : Nat} {cs : Array Value} {E : TypeId} (h : w.heap[S]? = some (.cells cs E (0, 0))) :
    w.frozen? ⟨S, 0, none⟩ = false ∧ w.frozen? ⟨S, 1, none⟩ = false ∧ w.frozen? ⟨S, 2, none⟩ = false ∧ w.frozen? ⟨S, 3, none⟩ = false ∧ w.frozen? ⟨S, 4, none⟩ = false ∧ w.frozen? ⟨S, 5, none⟩ = false :=
  ⟨blk_frozen h 0, blk_frozen h 1, blk_frozen h 2, blk_frozen h 3, blk_frozen h 4, blk_frozen h 5⟩
def setD (w : World) (R : Nat) (x : Dcl) : World :=
  (((((w.setCell ⟨R, 0, none⟩ (.bool x.lock)).setCell ⟨R, 1, none⟩ (.int .i64 x.label)).setCell ⟨R, 2, none⟩ (.string x.name)).setCell ⟨R, 3, none⟩ (.int .i64 x.size)).setCell ⟨R, 4, none⟩ (.string x.by')).setCell ⟨R, 5, none⟩ (.int .i64 x.p)
theorem setD_far (w : World) (R : Nat) (x : Dcl) (i : Nat) (h : i ≠ R) : (setD w R x).heap[i]? = w.heap[i]? := by
  unfold setD
  rw [Below.heap_setCell _ _ _ _ h, Below.heap_setCell _ _ _ _ h, Below.heap_setCell _ _ _ _ h, Below.heap_setCell _ _ _ _ h, Below.heap_setCell _ _ _ _ h, Below.heap_setCell _ _ _ _ h]
theorem setD_blk {w : World} {R : Nat} {y : Dcl} (h : w.heap[R]? = some (.cells y.cells.toArray TD (0, 0))) (x : Dcl) : (setD w R x).heap[R]? = some (.cells x.cells.toArray TD (0, 0)) := by
  unfold setD
  rw [blk_set (blk_set (blk_set (blk_set (blk_set (blk_set h 0 _) 1 _) 2 _) 3 _) 4 _) 5 _]
  simp [Dcl.cells]
theorem setD_gb {w w1 : World} {b : Option Nat} (h : w.grownBy w1 b) {R : Nat} (hR : w.heap.size ≤ R) (x : Dcl) : w.grownBy (setD w1 R x) b := by
  unfold setD
  exact gb_far (gb_far (gb_far (gb_far (gb_far (gb_far h hR _) hR _) hR _) hR _) hR _) hR _
theorem DI.ret {w : World} {b g c : Nat} {ts : List Tok} {dp S : Nat} {x : Dcl} {q : PS} {wf : World} {res : Dcl × PS} {tmps : Array Value} (h : DI w b g c ts dp S x q wf) (hres : res = (x, q)) (h2 : tmps.getD 2 undef = .pointer (some ⟨w.heap.size, 0, none⟩)) :
    bodyPost Tryd.prog Tryd.f30 (DPost w b g c ts res dp) Exit.ret ⟨tmps, []⟩ (setD wf w.heap.size x) := by
  subst hres
  have hR : (setD wf w.heap.size x).heap[w.heap.size]? = some (.cells x.cells.toArray TD (0, 0)) := setD_blk h.R x
  have hp : PT w b g c ts q dp (setD wf w.heap.size x) := ⟨h.pt.1.off (by decide) h.R (setD_far _ _ _), setD_gb h.pt.2 (Nat.le_refl _) x⟩
  obtain ⟨r0, r1, r2, r3, r4, r5⟩ := cellsD hR
  rw [Array.getD_eq_getD_getElem?] at h2
  exact bodyPost_ret (v := x.val) (by simp [results, Tryd.results30, go_sem, h2, r0, r1, r2, r3, r4, r5]) rfl ⟨rfl, hp⟩
set_option maxRecDepth 100000 in
set_option maxHeartbeats 8000000 in
theorem pdecl_lock (b g c : Nat) (ts : List Tok) (q : PS) (dp : Nat) (w : World) (hts : Toks ts) (h : PM w b g c ts q dp) (hl : isp ts ⟨#[108, 111, 99, 107]⟩ q = true) :
    Calls Tryd.prog 30 #[.pointer (some ⟨b, 0, none⟩)] w (DPost w b g c ts (declp ts q) dp) := by
  obtain ⟨res, hres⟩ : ∃ res, res = declp ts q := ⟨_, rfl⟩
  have e1 : res = (⟨true, 0, (namep ts (adv q)).1, 0, ⟨#[]⟩, (nxt ts q).p⟩, wantp ts ⟨#[59]⟩ (namep ts (adv q)).2) := by rw [hres]; unfold declp; rw [if_pos hl]
  obtain ⟨t, ht⟩ : ∃ t, t = nxt ts q := ⟨_, rfl⟩
  rw [← hres]
  rw [← ht] at e1
  obtain ⟨w0, hw0⟩ : ∃ w0, w0 = w.alloc (.cells dz.cells.toArray TD) := ⟨_, rfl⟩
  have hp0 : PT w b g c ts q dp w0 := by rw [hw0]; exact PT.alloc ⟨h, gb_refl _ _⟩ _
  have hR : w0.heap[w.heap.size]? = some (.cells dz.cells.toArray TD (0, 0)) := by rw [hw0]; exact blk_new _ _
  have hn := next_calls b g c ts q dp hts w0 hp0.1
  rw [← ht] at hn
  have HRES := Lib.hid e1
  have HN := Lib.hid hn
  have HW := Lib.hid hw0
  have HP0 := Lib.hid hp0
  have HR := Lib.hid hR
  have HT := Lib.hid hts
  have HIl := Lib.hid (take_yes (x := ⟨#[108, 111, 99, 107]⟩) (dp := dp) (b := b) (g := g) (c := c) hts hl)
  clear hn hw0 hp0 hR hts h e1 hres ht hl
  go_enter Tryd.func30, Tryd.ntmps30
  go_wp2_with fail
  show Calls _ _ _ (w.alloc (.cells dz.cells.toArray TD)) _
  rw [← HW.out]
  refine HN.out.mono ?_
  rintro e w1 ⟨rfl, hb1⟩
  have HR1 := Lib.hid (blk_below HR.out hb1)
  have HP1 := Lib.hid (HP0.out.trans (PT.of HP0.out.1 hb1))
  have hlR := lt_heap HR1.out
  clear hb1
  obtain ⟨S, hS⟩ : ∃ S, S = w1.heap.size := ⟨_, rfl⟩
  obtain ⟨w2, hW2⟩ : ∃ w2, w2 = w1.alloc (.cells (Dcl.cells { dz with p := t.p }).toArray TD) := ⟨_, rfl⟩
  have HD2 : Hid (DI w b g c ts dp S { dz with p := t.p } q w2) := Lib.hid (by rw [hW2, hS]; exact ⟨HP1.out.alloc _, blk_alloc HR1.out _, blk_new _ _, hlR⟩)
  have hSl : w.heap.size < S := by omega
  have hfd := tok_place t
  go_wp2_with fail
  rw [← hS]
  show Calls _ _ _ (w1.alloc (.cells (Dcl.cells { dz with p := t.p }).toArray TD)) _
  rw [← hW2]
  clear hW2 hS hlR hfd
  refine (HIl.out w2 HD2.out.pt.1).mono ?_
  rintro e w3 ⟨rfl, hp⟩
  have HD3 := Lib.hid (HD2.out.go hp)
  clear hp
  go_wp2_with fail
  refine (name_calls b g c ts (adv q) dp HT.out w3 HD3.out.pt.1).mono ?_
  rintro e w4 ⟨rfl, hp⟩
  have HD4 := Lib.hid (HD3.out.go hp)
  clear hp
  obtain ⟨y0, y1, y2, y3, y4, y5⟩ := cellsD (x := (⟨false, 0, ⟨#[]⟩, 0, ⟨#[]⟩, t.p⟩ : Dcl)) HD4.out.blk
  obtain ⟨m0, m1, m2, m3, m4, m5⟩ := freeD HD4.out.blk
  go_wp2_with fail
  obtain ⟨w5, hw⟩ : ∃ W, W = ((w4.setCell ⟨S, 0, none⟩ (.bool true)).setCell ⟨S, 2, none⟩ (.string (namep ts (adv q)).1)) := ⟨_, rfl⟩
  have HD5 := Lib.hid ((HD4.out.put (⟨true, 0, ⟨#[]⟩, 0, ⟨#[]⟩, t.p⟩ : Dcl) 0 (.bool true) rfl).put (⟨true, 0, (namep ts (adv q)).1, 0, ⟨#[]⟩, t.p⟩ : Dcl) 2 (.string (namep ts (adv q)).1) rfl)
  rw [← hw] at HD5
  show Calls _ _ _ ((w4.setCell ⟨S, 0, none⟩ (.bool true)).setCell ⟨S, 2, none⟩ (.string (namep ts (adv q)).1)) _
  rw [← hw]
  clear hw y0 y1 y2 y3 y4 y5 m0 m1 m2 m3 m4 m5
  refine (want_calls b g c ts (namep ts (adv q)).2 dp HT.out ⟨#[59]⟩ w5 HD5.out.pt.1).mono ?_
  rintro e w6 ⟨rfl, hp⟩
  have HD6 := Lib.hid (HD5.out.go hp)
  clear hp
  obtain ⟨y0, y1, y2, y3, y4, y5⟩ := cellsD (x := (⟨true, 0, (namep ts (adv q)).1, 0, ⟨#[]⟩, t.p⟩ : Dcl)) HD6.out.blk
  obtain ⟨m0, m1, m2, m3, m4, m5⟩ := freeD HD6.out.blk
  obtain ⟨z0, z1, z2, z3, z4, z5⟩ := cellsD (x := dz) HD6.out.R
  obtain ⟨l0, l1, l2, l3, l4, l5⟩ := freeD HD6.out.R
  go_wp2
  refine HD6.out.ret HRES.out ?_
  rfl
set_option maxRecDepth 100000 in
set_option maxHeartbeats 8000000 in
theorem pdecl_pubab (b g c : Nat) (ts : List Tok) (q : PS) (dp : Nat) (w : World) (hts : Toks ts) (h : PM w b g c ts q dp) (hl : isp ts ⟨#[108, 111, 99, 107]⟩ q = false) (hp : isp ts ⟨#[112, 117, 98, 108, 105, 99]⟩ q = true) (ha : isp ts ⟨#[91]⟩ (namep ts (adv q)).2 = true) (hb : isp ts ⟨#[98, 121]⟩ (wantp ts ⟨#[93]⟩ (numberp ts 1 64 (adv (namep ts (adv q)).2)).2) = true) :
    Calls Tryd.prog 30 #[.pointer (some ⟨b, 0, none⟩)] w (DPost w b g c ts (declp ts q) dp) := by
  obtain ⟨res, hres⟩ : ∃ res, res = declp ts q := ⟨_, rfl⟩
  have e1 : res = (⟨false, 0, (namep ts (adv q)).1, (numberp ts 1 64 (adv (namep ts (adv q)).2)).1, (namep ts (adv (wantp ts ⟨#[93]⟩ (numberp ts 1 64 (adv (namep ts (adv q)).2)).2))).1, (nxt ts q).p⟩, wantp ts ⟨#[59]⟩ (namep ts (adv (wantp ts ⟨#[93]⟩ (numberp ts 1 64 (adv (namep ts (adv q)).2)).2))).2) := by rw [hres]; unfold declp; rw [if_neg (by rw [hl]; decide)]; simp only [hp, ha, hb, if_true, if_false, Bool.false_eq_true]; try rfl
  obtain ⟨t, ht⟩ : ∃ t, t = nxt ts q := ⟨_, rfl⟩
  rw [← hres]
  rw [← ht] at e1
  obtain ⟨w0, hw0⟩ : ∃ w0, w0 = w.alloc (.cells dz.cells.toArray TD) := ⟨_, rfl⟩
  have hp0 : PT w b g c ts q dp w0 := by rw [hw0]; exact PT.alloc ⟨h, gb_refl _ _⟩ _
  have hR : w0.heap[w.heap.size]? = some (.cells dz.cells.toArray TD (0, 0)) := by rw [hw0]; exact blk_new _ _
  have hn := next_calls b g c ts q dp hts w0 hp0.1
  rw [← ht] at hn
  have HRES := Lib.hid e1
  have HN := Lib.hid hn
  have HW := Lib.hid hw0
  have HP0 := Lib.hid hp0
  have HR := Lib.hid hR
  have HT := Lib.hid hts
  have HIl := Lib.hid (take_no (x := ⟨#[108, 111, 99, 107]⟩) (dp := dp) (b := b) (g := g) (c := c) hts hl)
  have HIp := Lib.hid (take_yes (x := ⟨#[112, 117, 98, 108, 105, 99]⟩) (dp := dp) (b := b) (g := g) (c := c) hts hp)
  have HIa := Lib.hid (take_yes (x := ⟨#[91]⟩) (dp := dp) (b := b) (g := g) (c := c) hts ha)
  have HIb := Lib.hid (take_yes (x := ⟨#[98, 121]⟩) (dp := dp) (b := b) (g := g) (c := c) hts hb)
  clear hn hw0 hp0 hR hts h e1 hres ht hl hp ha hb
  go_enter Tryd.func30, Tryd.ntmps30
  go_wp2_with fail
  show Calls _ _ _ (w.alloc (.cells dz.cells.toArray TD)) _
  rw [← HW.out]
  refine HN.out.mono ?_
  rintro e w1 ⟨rfl, hb1⟩
  have HR1 := Lib.hid (blk_below HR.out hb1)
  have HP1 := Lib.hid (HP0.out.trans (PT.of HP0.out.1 hb1))
  have hlR := lt_heap HR1.out
  clear hb1
  obtain ⟨S, hS⟩ : ∃ S, S = w1.heap.size := ⟨_, rfl⟩
  obtain ⟨w2, hW2⟩ : ∃ w2, w2 = w1.alloc (.cells (Dcl.cells { dz with p := t.p }).toArray TD) := ⟨_, rfl⟩
  have HD2 : Hid (DI w b g c ts dp S { dz with p := t.p } q w2) := Lib.hid (by rw [hW2, hS]; exact ⟨HP1.out.alloc _, blk_alloc HR1.out _, blk_new _ _, hlR⟩)
  have hSl : w.heap.size < S := by omega
  have hfd := tok_place t
  go_wp2_with fail
  rw [← hS]
  show Calls _ _ _ (w1.alloc (.cells (Dcl.cells { dz with p := t.p }).toArray TD)) _
  rw [← hW2]
  clear hW2 hS hlR hfd
  refine (HIl.out w2 HD2.out.pt.1).mono ?_
  rintro e w3 ⟨rfl, hp⟩
  have HD3 := Lib.hid (HD2.out.go hp)
  clear hp
  go_wp2_with fail
  refine (HIp.out w3 HD3.out.pt.1).mono ?_
  rintro e w4 ⟨rfl, hp⟩
  have HD4 := Lib.hid (HD3.out.go hp)
  clear hp
  go_wp2_with fail
  refine (name_calls b g c ts (adv q) dp HT.out w4 HD4.out.pt.1).mono ?_
  rintro e w5 ⟨rfl, hp⟩
  have HD5 := Lib.hid (HD4.out.go hp)
  clear hp
  obtain ⟨y0, y1, y2, y3, y4, y5⟩ := cellsD (x := (⟨false, 0, ⟨#[]⟩, 0, ⟨#[]⟩, t.p⟩ : Dcl)) HD5.out.blk
  obtain ⟨m0, m1, m2, m3, m4, m5⟩ := freeD HD5.out.blk
  go_wp2_with fail
  obtain ⟨w6, hw⟩ : ∃ W, W = (w5.setCell ⟨S, 2, none⟩ (.string (namep ts (adv q)).1)) := ⟨_, rfl⟩
  have HD6 := Lib.hid (HD5.out.put (⟨false, 0, (namep ts (adv q)).1, 0, ⟨#[]⟩, t.p⟩ : Dcl) 2 (.string (namep ts (adv q)).1) rfl)
  rw [← hw] at HD6
  show Calls _ _ _ (w5.setCell ⟨S, 2, none⟩ (.string (namep ts (adv q)).1)) _
  rw [← hw]
  clear hw y0 y1 y2 y3 y4 y5 m0 m1 m2 m3 m4 m5
  refine (HIa.out w6 HD6.out.pt.1).mono ?_
  rintro e w7 ⟨rfl, hp⟩
  have HD7 := Lib.hid (HD6.out.go hp)
  clear hp
  go_wp2_with fail
  refine (numberp_calls b g c ts (adv (namep ts (adv q)).2) dp 64 (.inr rfl) HT.out w7 HD7.out.pt.1).mono ?_
  rintro e w8 ⟨rfl, hp⟩
  have HD8 := Lib.hid (HD7.out.go hp)
  clear hp
  obtain ⟨y0, y1, y2, y3, y4, y5⟩ := cellsD (x := (⟨false, 0, (namep ts (adv q)).1, 0, ⟨#[]⟩, t.p⟩ : Dcl)) HD8.out.blk
  obtain ⟨m0, m1, m2, m3, m4, m5⟩ := freeD HD8.out.blk
  go_wp2_with fail
  obtain ⟨w9, hw⟩ : ∃ W, W = (w8.setCell ⟨S, 3, none⟩ (.int .i64 (numberp ts 1 64 (adv (namep ts (adv q)).2)).1)) := ⟨_, rfl⟩
  have HD9 := Lib.hid (HD8.out.put (⟨false, 0, (namep ts (adv q)).1, (numberp ts 1 64 (adv (namep ts (adv q)).2)).1, ⟨#[]⟩, t.p⟩ : Dcl) 3 (.int .i64 (numberp ts 1 64 (adv (namep ts (adv q)).2)).1) rfl)
  rw [← hw] at HD9
  show Calls _ _ _ (w8.setCell ⟨S, 3, none⟩ (.int .i64 (numberp ts 1 64 (adv (namep ts (adv q)).2)).1)) _
  rw [← hw]
  clear hw y0 y1 y2 y3 y4 y5 m0 m1 m2 m3 m4 m5
  refine (want_calls b g c ts (numberp ts 1 64 (adv (namep ts (adv q)).2)).2 dp HT.out ⟨#[93]⟩ w9 HD9.out.pt.1).mono ?_
  rintro e w10 ⟨rfl, hp⟩
  have HD10 := Lib.hid (HD9.out.go hp)
  clear hp
  go_wp2_with fail
  refine (HIb.out w10 HD10.out.pt.1).mono ?_
  rintro e w11 ⟨rfl, hp⟩
  have HD11 := Lib.hid (HD10.out.go hp)
  clear hp
  go_wp2_with fail
  refine (name_calls b g c ts (adv (wantp ts ⟨#[93]⟩ (numberp ts 1 64 (adv (namep ts (adv q)).2)).2)) dp HT.out w11 HD11.out.pt.1).mono ?_
  rintro e w12 ⟨rfl, hp⟩
  have HD12 := Lib.hid (HD11.out.go hp)
  clear hp
  obtain ⟨y0, y1, y2, y3, y4, y5⟩ := cellsD (x := (⟨false, 0, (namep ts (adv q)).1, (numberp ts 1 64 (adv (namep ts (adv q)).2)).1, ⟨#[]⟩, t.p⟩ : Dcl)) HD12.out.blk
  obtain ⟨m0, m1, m2, m3, m4, m5⟩ := freeD HD12.out.blk
  go_wp2_with fail
  obtain ⟨w13, hw⟩ : ∃ W, W = (w12.setCell ⟨S, 4, none⟩ (.string (namep ts (adv (wantp ts ⟨#[93]⟩ (numberp ts 1 64 (adv (namep ts (adv q)).2)).2))).1)) := ⟨_, rfl⟩
  have HD13 := Lib.hid (HD12.out.put (⟨false, 0, (namep ts (adv q)).1, (numberp ts 1 64 (adv (namep ts (adv q)).2)).1, (namep ts (adv (wantp ts ⟨#[93]⟩ (numberp ts 1 64 (adv (namep ts (adv q)).2)).2))).1, t.p⟩ : Dcl) 4 (.string (namep ts (adv (wantp ts ⟨#[93]⟩ (numberp ts 1 64 (adv (namep ts (adv q)).2)).2))).1) rfl)
  rw [← hw] at HD13
  show Calls _ _ _ (w12.setCell ⟨S, 4, none⟩ (.string (namep ts (adv (wantp ts ⟨#[93]⟩ (numberp ts 1 64 (adv (namep ts (adv q)).2)).2))).1)) _
  rw [← hw]
  clear hw y0 y1 y2 y3 y4 y5 m0 m1 m2 m3 m4 m5
  refine (want_calls b g c ts (namep ts (adv (wantp ts ⟨#[93]⟩ (numberp ts 1 64 (adv (namep ts (adv q)).2)).2))).2 dp HT.out ⟨#[59]⟩ w13 HD13.out.pt.1).mono ?_
  rintro e w14 ⟨rfl, hp⟩
  have HD14 := Lib.hid (HD13.out.go hp)
  clear hp
  obtain ⟨y0, y1, y2, y3, y4, y5⟩ := cellsD (x := (⟨false, 0, (namep ts (adv q)).1, (numberp ts 1 64 (adv (namep ts (adv q)).2)).1, (namep ts (adv (wantp ts ⟨#[93]⟩ (numberp ts 1 64 (adv (namep ts (adv q)).2)).2))).1, t.p⟩ : Dcl)) HD14.out.blk
  obtain ⟨m0, m1, m2, m3, m4, m5⟩ := freeD HD14.out.blk
  obtain ⟨z0, z1, z2, z3, z4, z5⟩ := cellsD (x := dz) HD14.out.R
  obtain ⟨l0, l1, l2, l3, l4, l5⟩ := freeD HD14.out.R
  go_wp2
  refine HD14.out.ret HRES.out ?_
  rfl
set_option maxRecDepth 100000 in
set_option maxHeartbeats 8000000 in
theorem pdecl_puban (b g c : Nat) (ts : List Tok) (q : PS) (dp : Nat) (w : World) (hts : Toks ts) (h : PM w b g c ts q dp) (hl : isp ts ⟨#[108, 111, 99, 107]⟩ q = false) (hp : isp ts ⟨#[112, 117, 98, 108, 105, 99]⟩ q = true) (ha : isp ts ⟨#[91]⟩ (namep ts (adv q)).2 = true) (hb : isp ts ⟨#[98, 121]⟩ (wantp ts ⟨#[93]⟩ (numberp ts 1 64 (adv (namep ts (adv q)).2)).2) = false) :
    Calls Tryd.prog 30 #[.pointer (some ⟨b, 0, none⟩)] w (DPost w b g c ts (declp ts q) dp) := by
  obtain ⟨res, hres⟩ : ∃ res, res = declp ts q := ⟨_, rfl⟩
  have e1 : res = (⟨false, 0, (namep ts (adv q)).1, (numberp ts 1 64 (adv (namep ts (adv q)).2)).1, ⟨#[]⟩, (nxt ts q).p⟩, wantp ts ⟨#[59]⟩ (wantp ts ⟨#[93]⟩ (numberp ts 1 64 (adv (namep ts (adv q)).2)).2)) := by rw [hres]; unfold declp; rw [if_neg (by rw [hl]; decide)]; simp only [hp, ha, hb, if_true, if_false, Bool.false_eq_true]; try rfl
  obtain ⟨t, ht⟩ : ∃ t, t = nxt ts q := ⟨_, rfl⟩
  rw [← hres]
  rw [← ht] at e1
  obtain ⟨w0, hw0⟩ : ∃ w0, w0 = w.alloc (.cells dz.cells.toArray TD) := ⟨_, rfl⟩
  have hp0 : PT w b g c ts q dp w0 := by rw [hw0]; exact PT.alloc ⟨h, gb_refl _ _⟩ _
  have hR : w0.heap[w.heap.size]? = some (.cells dz.cells.toArray TD (0, 0)) := by rw [hw0]; exact blk_new _ _
  have hn := next_calls b g c ts q dp hts w0 hp0.1
  rw [← ht] at hn
  have HRES := Lib.hid e1
  have HN := Lib.hid hn
  have HW := Lib.hid hw0
  have HP0 := Lib.hid hp0
  have HR := Lib.hid hR
  have HT := Lib.hid hts
  have HIl := Lib.hid (take_no (x := ⟨#[108, 111, 99, 107]⟩) (dp := dp) (b := b) (g := g) (c := c) hts hl)
  have HIp := Lib.hid (take_yes (x := ⟨#[112, 117, 98, 108, 105, 99]⟩) (dp := dp) (b := b) (g := g) (c := c) hts hp)
  have HIa := Lib.hid (take_yes (x := ⟨#[91]⟩) (dp := dp) (b := b) (g := g) (c := c) hts ha)
  have HIb := Lib.hid (take_no (x := ⟨#[98, 121]⟩) (dp := dp) (b := b) (g := g) (c := c) hts hb)
  clear hn hw0 hp0 hR hts h e1 hres ht hl hp ha hb
  go_enter Tryd.func30, Tryd.ntmps30
  go_wp2_with fail
  show Calls _ _ _ (w.alloc (.cells dz.cells.toArray TD)) _
  rw [← HW.out]
  refine HN.out.mono ?_
  rintro e w1 ⟨rfl, hb1⟩
  have HR1 := Lib.hid (blk_below HR.out hb1)
  have HP1 := Lib.hid (HP0.out.trans (PT.of HP0.out.1 hb1))
  have hlR := lt_heap HR1.out
  clear hb1
  obtain ⟨S, hS⟩ : ∃ S, S = w1.heap.size := ⟨_, rfl⟩
  obtain ⟨w2, hW2⟩ : ∃ w2, w2 = w1.alloc (.cells (Dcl.cells { dz with p := t.p }).toArray TD) := ⟨_, rfl⟩
  have HD2 : Hid (DI w b g c ts dp S { dz with p := t.p } q w2) := Lib.hid (by rw [hW2, hS]; exact ⟨HP1.out.alloc _, blk_alloc HR1.out _, blk_new _ _, hlR⟩)
  have hSl : w.heap.size < S := by omega
  have hfd := tok_place t
  go_wp2_with fail
  rw [← hS]
  show Calls _ _ _ (w1.alloc (.cells (Dcl.cells { dz with p := t.p }).toArray TD)) _
  rw [← hW2]
  clear hW2 hS hlR hfd
  refine (HIl.out w2 HD2.out.pt.1).mono ?_
  rintro e w3 ⟨rfl, hp⟩
  have HD3 := Lib.hid (HD2.out.go hp)
  clear hp
  go_wp2_with fail
  refine (HIp.out w3 HD3.out.pt.1).mono ?_
  rintro e w4 ⟨rfl, hp⟩
  have HD4 := Lib.hid (HD3.out.go hp)
  clear hp
  go_wp2_with fail
  refine (name_calls b g c ts (adv q) dp HT.out w4 HD4.out.pt.1).mono ?_
  rintro e w5 ⟨rfl, hp⟩
  have HD5 := Lib.hid (HD4.out.go hp)
  clear hp
  obtain ⟨y0, y1, y2, y3, y4, y5⟩ := cellsD (x := (⟨false, 0, ⟨#[]⟩, 0, ⟨#[]⟩, t.p⟩ : Dcl)) HD5.out.blk
  obtain ⟨m0, m1, m2, m3, m4, m5⟩ := freeD HD5.out.blk
  go_wp2_with fail
  obtain ⟨w6, hw⟩ : ∃ W, W = (w5.setCell ⟨S, 2, none⟩ (.string (namep ts (adv q)).1)) := ⟨_, rfl⟩
  have HD6 := Lib.hid (HD5.out.put (⟨false, 0, (namep ts (adv q)).1, 0, ⟨#[]⟩, t.p⟩ : Dcl) 2 (.string (namep ts (adv q)).1) rfl)
  rw [← hw] at HD6
  show Calls _ _ _ (w5.setCell ⟨S, 2, none⟩ (.string (namep ts (adv q)).1)) _
  rw [← hw]
  clear hw y0 y1 y2 y3 y4 y5 m0 m1 m2 m3 m4 m5
  refine (HIa.out w6 HD6.out.pt.1).mono ?_
  rintro e w7 ⟨rfl, hp⟩
  have HD7 := Lib.hid (HD6.out.go hp)
  clear hp
  go_wp2_with fail
  refine (numberp_calls b g c ts (adv (namep ts (adv q)).2) dp 64 (.inr rfl) HT.out w7 HD7.out.pt.1).mono ?_
  rintro e w8 ⟨rfl, hp⟩
  have HD8 := Lib.hid (HD7.out.go hp)
  clear hp
  obtain ⟨y0, y1, y2, y3, y4, y5⟩ := cellsD (x := (⟨false, 0, (namep ts (adv q)).1, 0, ⟨#[]⟩, t.p⟩ : Dcl)) HD8.out.blk
  obtain ⟨m0, m1, m2, m3, m4, m5⟩ := freeD HD8.out.blk
  go_wp2_with fail
  obtain ⟨w9, hw⟩ : ∃ W, W = (w8.setCell ⟨S, 3, none⟩ (.int .i64 (numberp ts 1 64 (adv (namep ts (adv q)).2)).1)) := ⟨_, rfl⟩
  have HD9 := Lib.hid (HD8.out.put (⟨false, 0, (namep ts (adv q)).1, (numberp ts 1 64 (adv (namep ts (adv q)).2)).1, ⟨#[]⟩, t.p⟩ : Dcl) 3 (.int .i64 (numberp ts 1 64 (adv (namep ts (adv q)).2)).1) rfl)
  rw [← hw] at HD9
  show Calls _ _ _ (w8.setCell ⟨S, 3, none⟩ (.int .i64 (numberp ts 1 64 (adv (namep ts (adv q)).2)).1)) _
  rw [← hw]
  clear hw y0 y1 y2 y3 y4 y5 m0 m1 m2 m3 m4 m5
  refine (want_calls b g c ts (numberp ts 1 64 (adv (namep ts (adv q)).2)).2 dp HT.out ⟨#[93]⟩ w9 HD9.out.pt.1).mono ?_
  rintro e w10 ⟨rfl, hp⟩
  have HD10 := Lib.hid (HD9.out.go hp)
  clear hp
  go_wp2_with fail
  refine (HIb.out w10 HD10.out.pt.1).mono ?_
  rintro e w11 ⟨rfl, hp⟩
  have HD11 := Lib.hid (HD10.out.go hp)
  clear hp
  go_wp2_with fail
  refine (want_calls b g c ts (wantp ts ⟨#[93]⟩ (numberp ts 1 64 (adv (namep ts (adv q)).2)).2) dp HT.out ⟨#[59]⟩ w11 HD11.out.pt.1).mono ?_
  rintro e w12 ⟨rfl, hp⟩
  have HD12 := Lib.hid (HD11.out.go hp)
  clear hp
  obtain ⟨y0, y1, y2, y3, y4, y5⟩ := cellsD (x := (⟨false, 0, (namep ts (adv q)).1, (numberp ts 1 64 (adv (namep ts (adv q)).2)).1, ⟨#[]⟩, t.p⟩ : Dcl)) HD12.out.blk
  obtain ⟨m0, m1, m2, m3, m4, m5⟩ := freeD HD12.out.blk
  obtain ⟨z0, z1, z2, z3, z4, z5⟩ := cellsD (x := dz) HD12.out.R
  obtain ⟨l0, l1, l2, l3, l4, l5⟩ := freeD HD12.out.R
  go_wp2
  refine HD12.out.ret HRES.out ?_
  rfl
set_option maxRecDepth 100000 in
set_option maxHeartbeats 8000000 in
theorem pdecl_pubcb (b g c : Nat) (ts : List Tok) (q : PS) (dp : Nat) (w : World) (hts : Toks ts) (h : PM w b g c ts q dp) (hl : isp ts ⟨#[108, 111, 99, 107]⟩ q = false) (hp : isp ts ⟨#[112, 117, 98, 108, 105, 99]⟩ q = true) (ha : isp ts ⟨#[91]⟩ (namep ts (adv q)).2 = false) (hb : isp ts ⟨#[98, 121]⟩ (namep ts (adv q)).2 = true) :
    Calls Tryd.prog 30 #[.pointer (some ⟨b, 0, none⟩)] w (DPost w b g c ts (declp ts q) dp) := by
  obtain ⟨res, hres⟩ : ∃ res, res = declp ts q := ⟨_, rfl⟩
  have e1 : res = (⟨false, 0, (namep ts (adv q)).1, 0, (namep ts (adv (namep ts (adv q)).2)).1, (nxt ts q).p⟩, wantp ts ⟨#[59]⟩ (namep ts (adv (namep ts (adv q)).2)).2) := by rw [hres]; unfold declp; rw [if_neg (by rw [hl]; decide)]; simp only [hp, ha, hb, if_true, if_false, Bool.false_eq_true]; try rfl
  obtain ⟨t, ht⟩ : ∃ t, t = nxt ts q := ⟨_, rfl⟩
  rw [← hres]
  rw [← ht] at e1
  obtain ⟨w0, hw0⟩ : ∃ w0, w0 = w.alloc (.cells dz.cells.toArray TD) := ⟨_, rfl⟩
  have hp0 : PT w b g c ts q dp w0 := by rw [hw0]; exact PT.alloc ⟨h, gb_refl _ _⟩ _
  have hR : w0.heap[w.heap.size]? = some (.cells dz.cells.toArray TD (0, 0)) := by rw [hw0]; exact blk_new _ _
  have hn := next_calls b g c ts q dp hts w0 hp0.1
  rw [← ht] at hn
  have HRES := Lib.hid e1
  have HN := Lib.hid hn
  have HW := Lib.hid hw0
  have HP0 := Lib.hid hp0
  have HR := Lib.hid hR
  have HT := Lib.hid hts
  have HIl := Lib.hid (take_no (x := ⟨#[108, 111, 99, 107]⟩) (dp := dp) (b := b) (g := g) (c := c) hts hl)
  have HIp := Lib.hid (take_yes (x := ⟨#[112, 117, 98, 108, 105, 99]⟩) (dp := dp) (b := b) (g := g) (c := c) hts hp)
  have HIa := Lib.hid (take_no (x := ⟨#[91]⟩) (dp := dp) (b := b) (g := g) (c := c) hts ha)
  have HIb := Lib.hid (take_yes (x := ⟨#[98, 121]⟩) (dp := dp) (b := b) (g := g) (c := c) hts hb)
  clear hn hw0 hp0 hR hts h e1 hres ht hl hp ha hb
  go_enter Tryd.func30, Tryd.ntmps30
  go_wp2_with fail
  show Calls _ _ _ (w.alloc (.cells dz.cells.toArray TD)) _
  rw [← HW.out]
  refine HN.out.mono ?_
  rintro e w1 ⟨rfl, hb1⟩
  have HR1 := Lib.hid (blk_below HR.out hb1)
  have HP1 := Lib.hid (HP0.out.trans (PT.of HP0.out.1 hb1))
  have hlR := lt_heap HR1.out
  clear hb1
  obtain ⟨S, hS⟩ : ∃ S, S = w1.heap.size := ⟨_, rfl⟩
  obtain ⟨w2, hW2⟩ : ∃ w2, w2 = w1.alloc (.cells (Dcl.cells { dz with p := t.p }).toArray TD) := ⟨_, rfl⟩
  have HD2 : Hid (DI w b g c ts dp S { dz with p := t.p } q w2) := Lib.hid (by rw [hW2, hS]; exact ⟨HP1.out.alloc _, blk_alloc HR1.out _, blk_new _ _, hlR⟩)
  have hSl : w.heap.size < S := by omega
  have hfd := tok_place t
  go_wp2_with fail
  rw [← hS]
  show Calls _ _ _ (w1.alloc (.cells (Dcl.cells { dz with p := t.p }).toArray TD)) _
  rw [← hW2]
  clear hW2 hS hlR hfd
  refine (HIl.out w2 HD2.out.pt.1).mono ?_
  rintro e w3 ⟨rfl, hp⟩
  have HD3 := Lib.hid (HD2.out.go hp)
  clear hp
  go_wp2_with fail
  refine (HIp.out w3 HD3.out.pt.1).mono ?_
  rintro e w4 ⟨rfl, hp⟩
  have HD4 := Lib.hid (HD3.out.go hp)
  clear hp
  go_wp2_with fail
  refine (name_calls b g c ts (adv q) dp HT.out w4 HD4.out.pt.1).mono ?_
  rintro e w5 ⟨rfl, hp⟩
  have HD5 := Lib.hid (HD4.out.go hp)
  clear hp
  obtain ⟨y0, y1, y2, y3, y4, y5⟩ := cellsD (x := (⟨false, 0, ⟨#[]⟩, 0, ⟨#[]⟩, t.p⟩ : Dcl)) HD5.out.blk
  obtain ⟨m0, m1, m2, m3, m4, m5⟩ := freeD HD5.out.blk
  go_wp2_with fail
  obtain ⟨w6, hw⟩ : ∃ W, W = (w5.setCell ⟨S, 2, none⟩ (.string (namep ts (adv q)).1)) := ⟨_, rfl⟩
  have HD6 := Lib.hid (HD5.out.put (⟨false, 0, (namep ts (adv q)).1, 0, ⟨#[]⟩, t.p⟩ : Dcl) 2 (.string (namep ts (adv q)).1) rfl)
  rw [← hw] at HD6
  show Calls _ _ _ (w5.setCell ⟨S, 2, none⟩ (.string (namep ts (adv q)).1)) _
  rw [← hw]
  clear hw y0 y1 y2 y3 y4 y5 m0 m1 m2 m3 m4 m5
  refine (HIa.out w6 HD6.out.pt.1).mono ?_
  rintro e w7 ⟨rfl, hp⟩
  have HD7 := Lib.hid (HD6.out.go hp)
  clear hp
  go_wp2_with fail
  refine (HIb.out w7 HD7.out.pt.1).mono ?_
  rintro e w8 ⟨rfl, hp⟩
  have HD8 := Lib.hid (HD7.out.go hp)
  clear hp
  go_wp2_with fail
  refine (name_calls b g c ts (adv (namep ts (adv q)).2) dp HT.out w8 HD8.out.pt.1).mono ?_
  rintro e w9 ⟨rfl, hp⟩
  have HD9 := Lib.hid (HD8.out.go hp)
  clear hp
  obtain ⟨y0, y1, y2, y3, y4, y5⟩ := cellsD (x := (⟨false, 0, (namep ts (adv q)).1, 0, ⟨#[]⟩, t.p⟩ : Dcl)) HD9.out.blk
  obtain ⟨m0, m1, m2, m3, m4, m5⟩ := freeD HD9.out.blk
  go_wp2_with fail
  obtain ⟨w10, hw⟩ : ∃ W, W = (w9.setCell ⟨S, 4, none⟩ (.string (namep ts (adv (namep ts (adv q)).2)).1)) := ⟨_, rfl⟩
  have HD10 := Lib.hid (HD9.out.put (⟨false, 0, (namep ts (adv q)).1, 0, (namep ts (adv (namep ts (adv q)).2)).1, t.p⟩ : Dcl) 4 (.string (namep ts (adv (namep ts (adv q)).2)).1) rfl)
  rw [← hw] at HD10
  show Calls _ _ _ (w9.setCell ⟨S, 4, none⟩ (.string (namep ts (adv (namep ts (adv q)).2)).1)) _
  rw [← hw]
  clear hw y0 y1 y2 y3 y4 y5 m0 m1 m2 m3 m4 m5
  refine (want_calls b g c ts (namep ts (adv (namep ts (adv q)).2)).2 dp HT.out ⟨#[59]⟩ w10 HD10.out.pt.1).mono ?_
  rintro e w11 ⟨rfl, hp⟩
  have HD11 := Lib.hid (HD10.out.go hp)
  clear hp
  obtain ⟨y0, y1, y2, y3, y4, y5⟩ := cellsD (x := (⟨false, 0, (namep ts (adv q)).1, 0, (namep ts (adv (namep ts (adv q)).2)).1, t.p⟩ : Dcl)) HD11.out.blk
  obtain ⟨m0, m1, m2, m3, m4, m5⟩ := freeD HD11.out.blk
  obtain ⟨z0, z1, z2, z3, z4, z5⟩ := cellsD (x := dz) HD11.out.R
  obtain ⟨l0, l1, l2, l3, l4, l5⟩ := freeD HD11.out.R
  go_wp2
  refine HD11.out.ret HRES.out ?_
  rfl
set_option maxRecDepth 100000 in
set_option maxHeartbeats 8000000 in
theorem pdecl_pubcn (b g c : Nat) (ts : List Tok) (q : PS) (dp : Nat) (w : World) (hts : Toks ts) (h : PM w b g c ts q dp) (hl : isp ts ⟨#[108, 111, 99, 107]⟩ q = false) (hp : isp ts ⟨#[112, 117, 98, 108, 105, 99]⟩ q = true) (ha : isp ts ⟨#[91]⟩ (namep ts (adv q)).2 = false) (hb : isp ts ⟨#[98, 121]⟩ (namep ts (adv q)).2 = false) :
    Calls Tryd.prog 30 #[.pointer (some ⟨b, 0, none⟩)] w (DPost w b g c ts (declp ts q) dp) := by
  obtain ⟨res, hres⟩ : ∃ res, res = declp ts q := ⟨_, rfl⟩
  have e1 : res = (⟨false, 0, (namep ts (adv q)).1, 0, ⟨#[]⟩, (nxt ts q).p⟩, wantp ts ⟨#[59]⟩ (namep ts (adv q)).2) := by rw [hres]; unfold declp; rw [if_neg (by rw [hl]; decide)]; simp only [hp, ha, hb, if_true, if_false, Bool.false_eq_true]; try rfl
  obtain ⟨t, ht⟩ : ∃ t, t = nxt ts q := ⟨_, rfl⟩
  rw [← hres]
  rw [← ht] at e1
  obtain ⟨w0, hw0⟩ : ∃ w0, w0 = w.alloc (.cells dz.cells.toArray TD) := ⟨_, rfl⟩
  have hp0 : PT w b g c ts q dp w0 := by rw [hw0]; exact PT.alloc ⟨h, gb_refl _ _⟩ _
  have hR : w0.heap[w.heap.size]? = some (.cells dz.cells.toArray TD (0, 0)) := by rw [hw0]; exact blk_new _ _
  have hn := next_calls b g c ts q dp hts w0 hp0.1
  rw [← ht] at hn
  have HRES := Lib.hid e1
  have HN := Lib.hid hn
  have HW := Lib.hid hw0
  have HP0 := Lib.hid hp0
  have HR := Lib.hid hR
  have HT := Lib.hid hts
  have HIl := Lib.hid (take_no (x := ⟨#[108, 111, 99, 107]⟩) (dp := dp) (b := b) (g := g) (c := c) hts hl)
  have HIp := Lib.hid (take_yes (x := ⟨#[112, 117, 98, 108, 105, 99]⟩) (dp := dp) (b := b) (g := g) (c := c) hts hp)
  have HIa := Lib.hid (take_no (x := ⟨#[91]⟩) (dp := dp) (b := b) (g := g) (c := c) hts ha)
  have HIb := Lib.hid (take_no (x := ⟨#[98, 121]⟩) (dp := dp) (b := b) (g := g) (c := c) hts hb)
  clear hn hw0 hp0 hR hts h e1 hres ht hl hp ha hb
  go_enter Tryd.func30, Tryd.ntmps30
  go_wp2_with fail
  show Calls _ _ _ (w.alloc (.cells dz.cells.toArray TD)) _
  rw [← HW.out]
  refine HN.out.mono ?_
  rintro e w1 ⟨rfl, hb1⟩
  have HR1 := Lib.hid (blk_below HR.out hb1)
  have HP1 := Lib.hid (HP0.out.trans (PT.of HP0.out.1 hb1))
  have hlR := lt_heap HR1.out
  clear hb1
  obtain ⟨S, hS⟩ : ∃ S, S = w1.heap.size := ⟨_, rfl⟩
  obtain ⟨w2, hW2⟩ : ∃ w2, w2 = w1.alloc (.cells (Dcl.cells { dz with p := t.p }).toArray TD) := ⟨_, rfl⟩
  have HD2 : Hid (DI w b g c ts dp S { dz with p := t.p } q w2) := Lib.hid (by rw [hW2, hS]; exact ⟨HP1.out.alloc _, blk_alloc HR1.out _, blk_new _ _, hlR⟩)
  have hSl : w.heap.size < S := by omega
  have hfd := tok_place t
  go_wp2_with fail
  rw [← hS]
  show Calls _ _ _ (w1.alloc (.cells (Dcl.cells { dz with p := t.p }).toArray TD)) _
  rw [← hW2]
  clear hW2 hS hlR hfd
  refine (HIl.out w2 HD2.out.pt.1).mono ?_
  rintro e w3 ⟨rfl, hp⟩
  have HD3 := Lib.hid (HD2.out.go hp)
  clear hp
  go_wp2_with fail
  refine (HIp.out w3 HD3.out.pt.1).mono ?_
  rintro e w4 ⟨rfl, hp⟩
  have HD4 := Lib.hid (HD3.out.go hp)
  clear hp
  go_wp2_with fail
  refine (name_calls b g c ts (adv q) dp HT.out w4 HD4.out.pt.1).mono ?_
  rintro e w5 ⟨rfl, hp⟩
  have HD5 := Lib.hid (HD4.out.go hp)
  clear hp
  obtain ⟨y0, y1, y2, y3, y4, y5⟩ := cellsD (x := (⟨false, 0, ⟨#[]⟩, 0, ⟨#[]⟩, t.p⟩ : Dcl)) HD5.out.blk
  obtain ⟨m0, m1, m2, m3, m4, m5⟩ := freeD HD5.out.blk
  go_wp2_with fail
  obtain ⟨w6, hw⟩ : ∃ W, W = (w5.setCell ⟨S, 2, none⟩ (.string (namep ts (adv q)).1)) := ⟨_, rfl⟩
  have HD6 := Lib.hid (HD5.out.put (⟨false, 0, (namep ts (adv q)).1, 0, ⟨#[]⟩, t.p⟩ : Dcl) 2 (.string (namep ts (adv q)).1) rfl)
  rw [← hw] at HD6
  show Calls _ _ _ (w5.setCell ⟨S, 2, none⟩ (.string (namep ts (adv q)).1)) _
  rw [← hw]
  clear hw y0 y1 y2 y3 y4 y5 m0 m1 m2 m3 m4 m5
  refine (HIa.out w6 HD6.out.pt.1).mono ?_
  rintro e w7 ⟨rfl, hp⟩
  have HD7 := Lib.hid (HD6.out.go hp)
  clear hp
  go_wp2_with fail
  refine (HIb.out w7 HD7.out.pt.1).mono ?_
  rintro e w8 ⟨rfl, hp⟩
  have HD8 := Lib.hid (HD7.out.go hp)
  clear hp
  go_wp2_with fail
  refine (want_calls b g c ts (namep ts (adv q)).2 dp HT.out ⟨#[59]⟩ w8 HD8.out.pt.1).mono ?_
  rintro e w9 ⟨rfl, hp⟩
  have HD9 := Lib.hid (HD8.out.go hp)
  clear hp
  obtain ⟨y0, y1, y2, y3, y4, y5⟩ := cellsD (x := (⟨false, 0, (namep ts (adv q)).1, 0, ⟨#[]⟩, t.p⟩ : Dcl)) HD9.out.blk
  obtain ⟨m0, m1, m2, m3, m4, m5⟩ := freeD HD9.out.blk
  obtain ⟨z0, z1, z2, z3, z4, z5⟩ := cellsD (x := dz) HD9.out.R
  obtain ⟨l0, l1, l2, l3, l4, l5⟩ := freeD HD9.out.R
  go_wp2
  refine HD9.out.ret HRES.out ?_
  rfl
set_option maxRecDepth 100000 in
set_option maxHeartbeats 8000000 in
theorem pdecl_secab (b g c : Nat) (ts : List Tok) (q : PS) (dp : Nat) (w : World) (hts : Toks ts) (h : PM w b g c ts q dp) (hl : isp ts ⟨#[108, 111, 99, 107]⟩ q = false) (hp : isp ts ⟨#[112, 117, 98, 108, 105, 99]⟩ q = false) (ha : isp ts ⟨#[91]⟩ (namep ts (wantp ts ⟨#[115, 101, 99, 114, 101, 116]⟩ q)).2 = true) (hb : isp ts ⟨#[98, 121]⟩ (wantp ts ⟨#[93]⟩ (numberp ts 1 64 (adv (namep ts (wantp ts ⟨#[115, 101, 99, 114, 101, 116]⟩ q)).2)).2) = true) :
    Calls Tryd.prog 30 #[.pointer (some ⟨b, 0, none⟩)] w (DPost w b g c ts (declp ts q) dp) := by
  obtain ⟨res, hres⟩ : ∃ res, res = declp ts q := ⟨_, rfl⟩
  have e1 : res = (⟨false, 1, (namep ts (wantp ts ⟨#[115, 101, 99, 114, 101, 116]⟩ q)).1, (numberp ts 1 64 (adv (namep ts (wantp ts ⟨#[115, 101, 99, 114, 101, 116]⟩ q)).2)).1, (namep ts (adv (wantp ts ⟨#[93]⟩ (numberp ts 1 64 (adv (namep ts (wantp ts ⟨#[115, 101, 99, 114, 101, 116]⟩ q)).2)).2))).1, (nxt ts q).p⟩, wantp ts ⟨#[59]⟩ (namep ts (adv (wantp ts ⟨#[93]⟩ (numberp ts 1 64 (adv (namep ts (wantp ts ⟨#[115, 101, 99, 114, 101, 116]⟩ q)).2)).2))).2) := by rw [hres]; unfold declp; rw [if_neg (by rw [hl]; decide)]; simp only [hp, ha, hb, if_true, if_false, Bool.false_eq_true]; try rfl
  obtain ⟨t, ht⟩ : ∃ t, t = nxt ts q := ⟨_, rfl⟩
  rw [← hres]
  rw [← ht] at e1
  obtain ⟨w0, hw0⟩ : ∃ w0, w0 = w.alloc (.cells dz.cells.toArray TD) := ⟨_, rfl⟩
  have hp0 : PT w b g c ts q dp w0 := by rw [hw0]; exact PT.alloc ⟨h, gb_refl _ _⟩ _
  have hR : w0.heap[w.heap.size]? = some (.cells dz.cells.toArray TD (0, 0)) := by rw [hw0]; exact blk_new _ _
  have hn := next_calls b g c ts q dp hts w0 hp0.1
  rw [← ht] at hn
  have HRES := Lib.hid e1
  have HN := Lib.hid hn
  have HW := Lib.hid hw0
  have HP0 := Lib.hid hp0
  have HR := Lib.hid hR
  have HT := Lib.hid hts
  have HIl := Lib.hid (take_no (x := ⟨#[108, 111, 99, 107]⟩) (dp := dp) (b := b) (g := g) (c := c) hts hl)
  have HIp := Lib.hid (take_no (x := ⟨#[112, 117, 98, 108, 105, 99]⟩) (dp := dp) (b := b) (g := g) (c := c) hts hp)
  have HIa := Lib.hid (take_yes (x := ⟨#[91]⟩) (dp := dp) (b := b) (g := g) (c := c) hts ha)
  have HIb := Lib.hid (take_yes (x := ⟨#[98, 121]⟩) (dp := dp) (b := b) (g := g) (c := c) hts hb)
  clear hn hw0 hp0 hR hts h e1 hres ht hl hp ha hb
  go_enter Tryd.func30, Tryd.ntmps30
  go_wp2_with fail
  show Calls _ _ _ (w.alloc (.cells dz.cells.toArray TD)) _
  rw [← HW.out]
  refine HN.out.mono ?_
  rintro e w1 ⟨rfl, hb1⟩
  have HR1 := Lib.hid (blk_below HR.out hb1)
  have HP1 := Lib.hid (HP0.out.trans (PT.of HP0.out.1 hb1))
  have hlR := lt_heap HR1.out
  clear hb1
  obtain ⟨S, hS⟩ : ∃ S, S = w1.heap.size := ⟨_, rfl⟩
  obtain ⟨w2, hW2⟩ : ∃ w2, w2 = w1.alloc (.cells (Dcl.cells { dz with p := t.p }).toArray TD) := ⟨_, rfl⟩
  have HD2 : Hid (DI w b g c ts dp S { dz with p := t.p } q w2) := Lib.hid (by rw [hW2, hS]; exact ⟨HP1.out.alloc _, blk_alloc HR1.out _, blk_new _ _, hlR⟩)
  have hSl : w.heap.size < S := by omega
  have hfd := tok_place t
  go_wp2_with fail
  rw [← hS]
  show Calls _ _ _ (w1.alloc (.cells (Dcl.cells { dz with p := t.p }).toArray TD)) _
  rw [← hW2]
  clear hW2 hS hlR hfd
  refine (HIl.out w2 HD2.out.pt.1).mono ?_
  rintro e w3 ⟨rfl, hp⟩
  have HD3 := Lib.hid (HD2.out.go hp)
  clear hp
  go_wp2_with fail
  refine (HIp.out w3 HD3.out.pt.1).mono ?_
  rintro e w4 ⟨rfl, hp⟩
  have HD4 := Lib.hid (HD3.out.go hp)
  clear hp
  go_wp2_with fail
  refine (want_calls b g c ts q dp HT.out ⟨#[115, 101, 99, 114, 101, 116]⟩ w4 HD4.out.pt.1).mono ?_
  rintro e w5 ⟨rfl, hp⟩
  have HD5 := Lib.hid (HD4.out.go hp)
  clear hp
  obtain ⟨y0, y1, y2, y3, y4, y5⟩ := cellsD (x := (⟨false, 0, ⟨#[]⟩, 0, ⟨#[]⟩, t.p⟩ : Dcl)) HD5.out.blk
  obtain ⟨m0, m1, m2, m3, m4, m5⟩ := freeD HD5.out.blk
  go_wp2_with fail
  obtain ⟨w6, hw⟩ : ∃ W, W = (w5.setCell ⟨S, 1, none⟩ (.int .i64 1)) := ⟨_, rfl⟩
  have HD6 := Lib.hid (HD5.out.put (⟨false, 1, ⟨#[]⟩, 0, ⟨#[]⟩, t.p⟩ : Dcl) 1 (.int .i64 1) rfl)
  rw [← hw] at HD6
  show Calls _ _ _ (w5.setCell ⟨S, 1, none⟩ (.int .i64 1)) _
  rw [← hw]
  clear hw y0 y1 y2 y3 y4 y5 m0 m1 m2 m3 m4 m5
  refine (name_calls b g c ts (wantp ts ⟨#[115, 101, 99, 114, 101, 116]⟩ q) dp HT.out w6 HD6.out.pt.1).mono ?_
  rintro e w7 ⟨rfl, hp⟩
  have HD7 := Lib.hid (HD6.out.go hp)
  clear hp
  obtain ⟨y0, y1, y2, y3, y4, y5⟩ := cellsD (x := (⟨false, 1, ⟨#[]⟩, 0, ⟨#[]⟩, t.p⟩ : Dcl)) HD7.out.blk
  obtain ⟨m0, m1, m2, m3, m4, m5⟩ := freeD HD7.out.blk
  go_wp2_with fail
  obtain ⟨w8, hw⟩ : ∃ W, W = (w7.setCell ⟨S, 2, none⟩ (.string (namep ts (wantp ts ⟨#[115, 101, 99, 114, 101, 116]⟩ q)).1)) := ⟨_, rfl⟩
  have HD8 := Lib.hid (HD7.out.put (⟨false, 1, (namep ts (wantp ts ⟨#[115, 101, 99, 114, 101, 116]⟩ q)).1, 0, ⟨#[]⟩, t.p⟩ : Dcl) 2 (.string (namep ts (wantp ts ⟨#[115, 101, 99, 114, 101, 116]⟩ q)).1) rfl)
  rw [← hw] at HD8
  show Calls _ _ _ (w7.setCell ⟨S, 2, none⟩ (.string (namep ts (wantp ts ⟨#[115, 101, 99, 114, 101, 116]⟩ q)).1)) _
  rw [← hw]
  clear hw y0 y1 y2 y3 y4 y5 m0 m1 m2 m3 m4 m5
  refine (HIa.out w8 HD8.out.pt.1).mono ?_
  rintro e w9 ⟨rfl, hp⟩
  have HD9 := Lib.hid (HD8.out.go hp)
  clear hp
  go_wp2_with fail
  refine (numberp_calls b g c ts (adv (namep ts (wantp ts ⟨#[115, 101, 99, 114, 101, 116]⟩ q)).2) dp 64 (.inr rfl) HT.out w9 HD9.out.pt.1).mono ?_
  rintro e w10 ⟨rfl, hp⟩
  have HD10 := Lib.hid (HD9.out.go hp)
  clear hp
  obtain ⟨y0, y1, y2, y3, y4, y5⟩ := cellsD (x := (⟨false, 1, (namep ts (wantp ts ⟨#[115, 101, 99, 114, 101, 116]⟩ q)).1, 0, ⟨#[]⟩, t.p⟩ : Dcl)) HD10.out.blk
  obtain ⟨m0, m1, m2, m3, m4, m5⟩ := freeD HD10.out.blk
  go_wp2_with fail
  obtain ⟨w11, hw⟩ : ∃ W, W = (w10.setCell ⟨S, 3, none⟩ (.int .i64 (numberp ts 1 64 (adv (namep ts (wantp ts ⟨#[115, 101, 99, 114, 101, 116]⟩ q)).2)).1)) := ⟨_, rfl⟩
  have HD11 := Lib.hid (HD10.out.put (⟨false, 1, (namep ts (wantp ts ⟨#[115, 101, 99, 114, 101, 116]⟩ q)).1, (numberp ts 1 64 (adv (namep ts (wantp ts ⟨#[115, 101, 99, 114, 101, 116]⟩ q)).2)).1, ⟨#[]⟩, t.p⟩ : Dcl) 3 (.int .i64 (numberp ts 1 64 (adv (namep ts (wantp ts ⟨#[115, 101, 99, 114, 101, 116]⟩ q)).2)).1) rfl)
  rw [← hw] at HD11
  show Calls _ _ _ (w10.setCell ⟨S, 3, none⟩ (.int .i64 (numberp ts 1 64 (adv (namep ts (wantp ts ⟨#[115, 101, 99, 114, 101, 116]⟩ q)).2)).1)) _
  rw [← hw]
  clear hw y0 y1 y2 y3 y4 y5 m0 m1 m2 m3 m4 m5
  refine (want_calls b g c ts (numberp ts 1 64 (adv (namep ts (wantp ts ⟨#[115, 101, 99, 114, 101, 116]⟩ q)).2)).2 dp HT.out ⟨#[93]⟩ w11 HD11.out.pt.1).mono ?_
  rintro e w12 ⟨rfl, hp⟩
  have HD12 := Lib.hid (HD11.out.go hp)
  clear hp
  go_wp2_with fail
  refine (HIb.out w12 HD12.out.pt.1).mono ?_
  rintro e w13 ⟨rfl, hp⟩
  have HD13 := Lib.hid (HD12.out.go hp)
  clear hp
  go_wp2_with fail
  refine (name_calls b g c ts (adv (wantp ts ⟨#[93]⟩ (numberp ts 1 64 (adv (namep ts (wantp ts ⟨#[115, 101, 99, 114, 101, 116]⟩ q)).2)).2)) dp HT.out w13 HD13.out.pt.1).mono ?_
  rintro e w14 ⟨rfl, hp⟩
  have HD14 := Lib.hid (HD13.out.go hp)
  clear hp
  obtain ⟨y0, y1, y2, y3, y4, y5⟩ := cellsD (x := (⟨false, 1, (namep ts (wantp ts ⟨#[115, 101, 99, 114, 101, 116]⟩ q)).1, (numberp ts 1 64 (adv (namep ts (wantp ts ⟨#[115, 101, 99, 114, 101, 116]⟩ q)).2)).1, ⟨#[]⟩, t.p⟩ : Dcl)) HD14.out.blk
  obtain ⟨m0, m1, m2, m3, m4, m5⟩ := freeD HD14.out.blk
  go_wp2_with fail
  obtain ⟨w15, hw⟩ : ∃ W, W = (w14.setCell ⟨S, 4, none⟩ (.string (namep ts (adv (wantp ts ⟨#[93]⟩ (numberp ts 1 64 (adv (namep ts (wantp ts ⟨#[115, 101, 99, 114, 101, 116]⟩ q)).2)).2))).1)) := ⟨_, rfl⟩
  have HD15 := Lib.hid (HD14.out.put (⟨false, 1, (namep ts (wantp ts ⟨#[115, 101, 99, 114, 101, 116]⟩ q)).1, (numberp ts 1 64 (adv (namep ts (wantp ts ⟨#[115, 101, 99, 114, 101, 116]⟩ q)).2)).1, (namep ts (adv (wantp ts ⟨#[93]⟩ (numberp ts 1 64 (adv (namep ts (wantp ts ⟨#[115, 101, 99, 114, 101, 116]⟩ q)).2)).2))).1, t.p⟩ : Dcl) 4 (.string (namep ts (adv (wantp ts ⟨#[93]⟩ (numberp ts 1 64 (adv (namep ts (wantp ts ⟨#[115, 101, 99, 114, 101, 116]⟩ q)).2)).2))).1) rfl)
  rw [← hw] at HD15
  show Calls _ _ _ (w14.setCell ⟨S, 4, none⟩ (.string (namep ts (adv (wantp ts ⟨#[93]⟩ (numberp ts 1 64 (adv (namep ts (wantp ts ⟨#[115, 101, 99, 114, 101, 116]⟩ q)).2)).2))).1)) _
  rw [← hw]
  clear hw y0 y1 y2 y3 y4 y5 m0 m1 m2 m3 m4 m5
  refine (want_calls b g c ts (namep ts (adv (wantp ts ⟨#[93]⟩ (numberp ts 1 64 (adv (namep ts (wantp ts ⟨#[115, 101, 99, 114, 101, 116]⟩ q)).2)).2))).2 dp HT.out ⟨#[59]⟩ w15 HD15.out.pt.1).mono ?_
  rintro e w16 ⟨rfl, hp⟩
  have HD16 := Lib.hid (HD15.out.go hp)
  clear hp
  obtain ⟨y0, y1, y2, y3, y4, y5⟩ := cellsD (x := (⟨false, 1, (namep ts (wantp ts ⟨#[115, 101, 99, 114, 101, 116]⟩ q)).1, (numberp ts 1 64 (adv (namep ts (wantp ts ⟨#[115, 101, 99, 114, 101, 116]⟩ q)).2)).1, (namep ts (adv (wantp ts ⟨#[93]⟩ (numberp ts 1 64 (adv (namep ts (wantp ts ⟨#[115, 101, 99, 114, 101, 116]⟩ q)).2)).2))).1, t.p⟩ : Dcl)) HD16.out.blk
  obtain ⟨m0, m1, m2, m3, m4, m5⟩ := freeD HD16.out.blk
  obtain ⟨z0, z1, z2, z3, z4, z5⟩ := cellsD (x := dz) HD16.out.R
  obtain ⟨l0, l1, l2, l3, l4, l5⟩ := freeD HD16.out.R
  go_wp2
  refine HD16.out.ret HRES.out ?_
  rfl
set_option maxRecDepth 100000 in
set_option maxHeartbeats 8000000 in
theorem pdecl_secan (b g c : Nat) (ts : List Tok) (q : PS) (dp : Nat) (w : World) (hts : Toks ts) (h : PM w b g c ts q dp) (hl : isp ts ⟨#[108, 111, 99, 107]⟩ q = false) (hp : isp ts ⟨#[112, 117, 98, 108, 105, 99]⟩ q = false) (ha : isp ts ⟨#[91]⟩ (namep ts (wantp ts ⟨#[115, 101, 99, 114, 101, 116]⟩ q)).2 = true) (hb : isp ts ⟨#[98, 121]⟩ (wantp ts ⟨#[93]⟩ (numberp ts 1 64 (adv (namep ts (wantp ts ⟨#[115, 101, 99, 114, 101, 116]⟩ q)).2)).2) = false) :
    Calls Tryd.prog 30 #[.pointer (some ⟨b, 0, none⟩)] w (DPost w b g c ts (declp ts q) dp) := by
  obtain ⟨res, hres⟩ : ∃ res, res = declp ts q := ⟨_, rfl⟩
  have e1 : res = (⟨false, 1, (namep ts (wantp ts ⟨#[115, 101, 99, 114, 101, 116]⟩ q)).1, (numberp ts 1 64 (adv (namep ts (wantp ts ⟨#[115, 101, 99, 114, 101, 116]⟩ q)).2)).1, ⟨#[]⟩, (nxt ts q).p⟩, wantp ts ⟨#[59]⟩ (wantp ts ⟨#[93]⟩ (numberp ts 1 64 (adv (namep ts (wantp ts ⟨#[115, 101, 99, 114, 101, 116]⟩ q)).2)).2)) := by rw [hres]; unfold declp; rw [if_neg (by rw [hl]; decide)]; simp only [hp, ha, hb, if_true, if_false, Bool.false_eq_true]; try rfl
  obtain ⟨t, ht⟩ : ∃ t, t = nxt ts q := ⟨_, rfl⟩
  rw [← hres]
  rw [← ht] at e1
  obtain ⟨w0, hw0⟩ : ∃ w0, w0 = w.alloc (.cells dz.cells.toArray TD) := ⟨_, rfl⟩
  have hp0 : PT w b g c ts q dp w0 := by rw [hw0]; exact PT.alloc ⟨h, gb_refl _ _⟩ _
  have hR : w0.heap[w.heap.size]? = some (.cells dz.cells.toArray TD (0, 0)) := by rw [hw0]; exact blk_new _ _
  have hn := next_calls b g c ts q dp hts w0 hp0.1
  rw [← ht] at hn
  have HRES := Lib.hid e1
  have HN := Lib.hid hn
  have HW := Lib.hid hw0
  have HP0 := Lib.hid hp0
  have HR := Lib.hid hR
  have HT := Lib.hid hts
  have HIl := Lib.hid (take_no (x := ⟨#[108, 111, 99, 107]⟩) (dp := dp) (b := b) (g := g) (c := c) hts hl)
  have HIp := Lib.hid (take_no (x := ⟨#[112, 117, 98, 108, 105, 99]⟩) (dp := dp) (b := b) (g := g) (c := c) hts hp)
  have HIa := Lib.hid (take_yes (x := ⟨#[91]⟩) (dp := dp) (b := b) (g := g) (c := c) hts ha)
  have HIb := Lib.hid (take_no (x := ⟨#[98, 121]⟩) (dp := dp) (b := b) (g := g) (c := c) hts hb)
  clear hn hw0 hp0 hR hts h e1 hres ht hl hp ha hb
  go_enter Tryd.func30, Tryd.ntmps30
  go_wp2_with fail
  show Calls _ _ _ (w.alloc (.cells dz.cells.toArray TD)) _
  rw [← HW.out]
  refine HN.out.mono ?_
  rintro e w1 ⟨rfl, hb1⟩
  have HR1 := Lib.hid (blk_below HR.out hb1)
  have HP1 := Lib.hid (HP0.out.trans (PT.of HP0.out.1 hb1))
  have hlR := lt_heap HR1.out
  clear hb1
  obtain ⟨S, hS⟩ : ∃ S, S = w1.heap.size := ⟨_, rfl⟩
  obtain ⟨w2, hW2⟩ : ∃ w2, w2 = w1.alloc (.cells (Dcl.cells { dz with p := t.p }).toArray TD) := ⟨_, rfl⟩
  have HD2 : Hid (DI w b g c ts dp S { dz with p := t.p } q w2) := Lib.hid (by rw [hW2, hS]; exact ⟨HP1.out.alloc _, blk_alloc HR1.out _, blk_new _ _, hlR⟩)
  have hSl : w.heap.size < S := by omega
  have hfd := tok_place t
  go_wp2_with fail
  rw [← hS]
  show Calls _ _ _ (w1.alloc (.cells (Dcl.cells { dz with p := t.p }).toArray TD)) _
  rw [← hW2]
  clear hW2 hS hlR hfd
  refine (HIl.out w2 HD2.out.pt.1).mono ?_
  rintro e w3 ⟨rfl, hp⟩
  have HD3 := Lib.hid (HD2.out.go hp)
  clear hp
  go_wp2_with fail
  refine (HIp.out w3 HD3.out.pt.1).mono ?_
  rintro e w4 ⟨rfl, hp⟩
  have HD4 := Lib.hid (HD3.out.go hp)
  clear hp
  go_wp2_with fail
  refine (want_calls b g c ts q dp HT.out ⟨#[115, 101, 99, 114, 101, 116]⟩ w4 HD4.out.pt.1).mono ?_
  rintro e w5 ⟨rfl, hp⟩
  have HD5 := Lib.hid (HD4.out.go hp)
  clear hp
  obtain ⟨y0, y1, y2, y3, y4, y5⟩ := cellsD (x := (⟨false, 0, ⟨#[]⟩, 0, ⟨#[]⟩, t.p⟩ : Dcl)) HD5.out.blk
  obtain ⟨m0, m1, m2, m3, m4, m5⟩ := freeD HD5.out.blk
  go_wp2_with fail
  obtain ⟨w6, hw⟩ : ∃ W, W = (w5.setCell ⟨S, 1, none⟩ (.int .i64 1)) := ⟨_, rfl⟩
  have HD6 := Lib.hid (HD5.out.put (⟨false, 1, ⟨#[]⟩, 0, ⟨#[]⟩, t.p⟩ : Dcl) 1 (.int .i64 1) rfl)
  rw [← hw] at HD6
  show Calls _ _ _ (w5.setCell ⟨S, 1, none⟩ (.int .i64 1)) _
  rw [← hw]
  clear hw y0 y1 y2 y3 y4 y5 m0 m1 m2 m3 m4 m5
  refine (name_calls b g c ts (wantp ts ⟨#[115, 101, 99, 114, 101, 116]⟩ q) dp HT.out w6 HD6.out.pt.1).mono ?_
  rintro e w7 ⟨rfl, hp⟩
  have HD7 := Lib.hid (HD6.out.go hp)
  clear hp
  obtain ⟨y0, y1, y2, y3, y4, y5⟩ := cellsD (x := (⟨false, 1, ⟨#[]⟩, 0, ⟨#[]⟩, t.p⟩ : Dcl)) HD7.out.blk
  obtain ⟨m0, m1, m2, m3, m4, m5⟩ := freeD HD7.out.blk
  go_wp2_with fail
  obtain ⟨w8, hw⟩ : ∃ W, W = (w7.setCell ⟨S, 2, none⟩ (.string (namep ts (wantp ts ⟨#[115, 101, 99, 114, 101, 116]⟩ q)).1)) := ⟨_, rfl⟩
  have HD8 := Lib.hid (HD7.out.put (⟨false, 1, (namep ts (wantp ts ⟨#[115, 101, 99, 114, 101, 116]⟩ q)).1, 0, ⟨#[]⟩, t.p⟩ : Dcl) 2 (.string (namep ts (wantp ts ⟨#[115, 101, 99, 114, 101, 116]⟩ q)).1) rfl)
  rw [← hw] at HD8
  show Calls _ _ _ (w7.setCell ⟨S, 2, none⟩ (.string (namep ts (wantp ts ⟨#[115, 101, 99, 114, 101, 116]⟩ q)).1)) _
  rw [← hw]
  clear hw y0 y1 y2 y3 y4 y5 m0 m1 m2 m3 m4 m5
  refine (HIa.out w8 HD8.out.pt.1).mono ?_
  rintro e w9 ⟨rfl, hp⟩
  have HD9 := Lib.hid (HD8.out.go hp)
  clear hp
  go_wp2_with fail
  refine (numberp_calls b g c ts (adv (namep ts (wantp ts ⟨#[115, 101, 99, 114, 101, 116]⟩ q)).2) dp 64 (.inr rfl) HT.out w9 HD9.out.pt.1).mono ?_
  rintro e w10 ⟨rfl, hp⟩
  have HD10 := Lib.hid (HD9.out.go hp)
  clear hp
  obtain ⟨y0, y1, y2, y3, y4, y5⟩ := cellsD (x := (⟨false, 1, (namep ts (wantp ts ⟨#[115, 101, 99, 114, 101, 116]⟩ q)).1, 0, ⟨#[]⟩, t.p⟩ : Dcl)) HD10.out.blk
  obtain ⟨m0, m1, m2, m3, m4, m5⟩ := freeD HD10.out.blk
  go_wp2_with fail
  obtain ⟨w11, hw⟩ : ∃ W, W = (w10.setCell ⟨S, 3, none⟩ (.int .i64 (numberp ts 1 64 (adv (namep ts (wantp ts ⟨#[115, 101, 99, 114, 101, 116]⟩ q)).2)).1)) := ⟨_, rfl⟩
  have HD11 := Lib.hid (HD10.out.put (⟨false, 1, (namep ts (wantp ts ⟨#[115, 101, 99, 114, 101, 116]⟩ q)).1, (numberp ts 1 64 (adv (namep ts (wantp ts ⟨#[115, 101, 99, 114, 101, 116]⟩ q)).2)).1, ⟨#[]⟩, t.p⟩ : Dcl) 3 (.int .i64 (numberp ts 1 64 (adv (namep ts (wantp ts ⟨#[115, 101, 99, 114, 101, 116]⟩ q)).2)).1) rfl)
  rw [← hw] at HD11
  show Calls _ _ _ (w10.setCell ⟨S, 3, none⟩ (.int .i64 (numberp ts 1 64 (adv (namep ts (wantp ts ⟨#[115, 101, 99, 114, 101, 116]⟩ q)).2)).1)) _
  rw [← hw]
  clear hw y0 y1 y2 y3 y4 y5 m0 m1 m2 m3 m4 m5
  refine (want_calls b g c ts (numberp ts 1 64 (adv (namep ts (wantp ts ⟨#[115, 101, 99, 114, 101, 116]⟩ q)).2)).2 dp HT.out ⟨#[93]⟩ w11 HD11.out.pt.1).mono ?_
  rintro e w12 ⟨rfl, hp⟩
  have HD12 := Lib.hid (HD11.out.go hp)
  clear hp
  go_wp2_with fail
  refine (HIb.out w12 HD12.out.pt.1).mono ?_
  rintro e w13 ⟨rfl, hp⟩
  have HD13 := Lib.hid (HD12.out.go hp)
  clear hp
  go_wp2_with fail
  refine (want_calls b g c ts (wantp ts ⟨#[93]⟩ (numberp ts 1 64 (adv (namep ts (wantp ts ⟨#[115, 101, 99, 114, 101, 116]⟩ q)).2)).2) dp HT.out ⟨#[59]⟩ w13 HD13.out.pt.1).mono ?_
  rintro e w14 ⟨rfl, hp⟩
  have HD14 := Lib.hid (HD13.out.go hp)
  clear hp
  obtain ⟨y0, y1, y2, y3, y4, y5⟩ := cellsD (x := (⟨false, 1, (namep ts (wantp ts ⟨#[115, 101, 99, 114, 101, 116]⟩ q)).1, (numberp ts 1 64 (adv (namep ts (wantp ts ⟨#[115, 101, 99, 114, 101, 116]⟩ q)).2)).1, ⟨#[]⟩, t.p⟩ : Dcl)) HD14.out.blk
  obtain ⟨m0, m1, m2, m3, m4, m5⟩ := freeD HD14.out.blk
  obtain ⟨z0, z1, z2, z3, z4, z5⟩ := cellsD (x := dz) HD14.out.R
  obtain ⟨l0, l1, l2, l3, l4, l5⟩ := freeD HD14.out.R
  go_wp2
  refine HD14.out.ret HRES.out ?_
  rfl
set_option maxRecDepth 100000 in
set_option maxHeartbeats 8000000 in
theorem pdecl_seccb (b g c : Nat) (ts : List Tok) (q : PS) (dp : Nat) (w : World) (hts : Toks ts) (h : PM w b g c ts q dp) (hl : isp ts ⟨#[108, 111, 99, 107]⟩ q = false) (hp : isp ts ⟨#[112, 117, 98, 108, 105, 99]⟩ q = false) (ha : isp ts ⟨#[91]⟩ (namep ts (wantp ts ⟨#[115, 101, 99, 114, 101, 116]⟩ q)).2 = false) (hb : isp ts ⟨#[98, 121]⟩ (namep ts (wantp ts ⟨#[115, 101, 99, 114, 101, 116]⟩ q)).2 = true) :
    Calls Tryd.prog 30 #[.pointer (some ⟨b, 0, none⟩)] w (DPost w b g c ts (declp ts q) dp) := by
  obtain ⟨res, hres⟩ : ∃ res, res = declp ts q := ⟨_, rfl⟩
  have e1 : res = (⟨false, 1, (namep ts (wantp ts ⟨#[115, 101, 99, 114, 101, 116]⟩ q)).1, 0, (namep ts (adv (namep ts (wantp ts ⟨#[115, 101, 99, 114, 101, 116]⟩ q)).2)).1, (nxt ts q).p⟩, wantp ts ⟨#[59]⟩ (namep ts (adv (namep ts (wantp ts ⟨#[115, 101, 99, 114, 101, 116]⟩ q)).2)).2) := by rw [hres]; unfold declp; rw [if_neg (by rw [hl]; decide)]; simp only [hp, ha, hb, if_true, if_false, Bool.false_eq_true]; try rfl
  obtain ⟨t, ht⟩ : ∃ t, t = nxt ts q := ⟨_, rfl⟩
  rw [← hres]
  rw [← ht] at e1
  obtain ⟨w0, hw0⟩ : ∃ w0, w0 = w.alloc (.cells dz.cells.toArray TD) := ⟨_, rfl⟩
  have hp0 : PT w b g c ts q dp w0 := by rw [hw0]; exact PT.alloc ⟨h, gb_refl _ _⟩ _
  have hR : w0.heap[w.heap.size]? = some (.cells dz.cells.toArray TD (0, 0)) := by rw [hw0]; exact blk_new _ _
  have hn := next_calls b g c ts q dp hts w0 hp0.1
  rw [← ht] at hn
  have HRES := Lib.hid e1
  have HN := Lib.hid hn
  have HW := Lib.hid hw0
  have HP0 := Lib.hid hp0
  have HR := Lib.hid hR
  have HT := Lib.hid hts
  have HIl := Lib.hid (take_no (x := ⟨#[108, 111, 99, 107]⟩) (dp := dp) (b := b) (g := g) (c := c) hts hl)
  have HIp := Lib.hid (take_no (x := ⟨#[112, 117, 98, 108, 105, 99]⟩) (dp := dp) (b := b) (g := g) (c := c) hts hp)
  have HIa := Lib.hid (take_no (x := ⟨#[91]⟩) (dp := dp) (b := b) (g := g) (c := c) hts ha)
  have HIb := Lib.hid (take_yes (x := ⟨#[98, 121]⟩) (dp := dp) (b := b) (g := g) (c := c) hts hb)
  clear hn hw0 hp0 hR hts h e1 hres ht hl hp ha hb
  go_enter Tryd.func30, Tryd.ntmps30
  go_wp2_with fail
  show Calls _ _ _ (w.alloc (.cells dz.cells.toArray TD)) _
  rw [← HW.out]
  refine HN.out.mono ?_
  rintro e w1 ⟨rfl, hb1⟩
  have HR1 := Lib.hid (blk_below HR.out hb1)
  have HP1 := Lib.hid (HP0.out.trans (PT.of HP0.out.1 hb1))
  have hlR := lt_heap HR1.out
  clear hb1
  obtain ⟨S, hS⟩ : ∃ S, S = w1.heap.size := ⟨_, rfl⟩
  obtain ⟨w2, hW2⟩ : ∃ w2, w2 = w1.alloc (.cells (Dcl.cells { dz with p := t.p }).toArray TD) := ⟨_, rfl⟩
  have HD2 : Hid (DI w b g c ts dp S { dz with p := t.p } q w2) := Lib.hid (by rw [hW2, hS]; exact ⟨HP1.out.alloc _, blk_alloc HR1.out _, blk_new _ _, hlR⟩)
  have hSl : w.heap.size < S := by omega
  have hfd := tok_place t
  go_wp2_with fail
  rw [← hS]
  show Calls _ _ _ (w1.alloc (.cells (Dcl.cells { dz with p := t.p }).toArray TD)) _
  rw [← hW2]
  clear hW2 hS hlR hfd
  refine (HIl.out w2 HD2.out.pt.1).mono ?_
  rintro e w3 ⟨rfl, hp⟩
  have HD3 := Lib.hid (HD2.out.go hp)
  clear hp
  go_wp2_with fail
  refine (HIp.out w3 HD3.out.pt.1).mono ?_
  rintro e w4 ⟨rfl, hp⟩
  have HD4 := Lib.hid (HD3.out.go hp)
  clear hp
  go_wp2_with fail
  refine (want_calls b g c ts q dp HT.out ⟨#[115, 101, 99, 114, 101, 116]⟩ w4 HD4.out.pt.1).mono ?_
  rintro e w5 ⟨rfl, hp⟩
  have HD5 := Lib.hid (HD4.out.go hp)
  clear hp
  obtain ⟨y0, y1, y2, y3, y4, y5⟩ := cellsD (x := (⟨false, 0, ⟨#[]⟩, 0, ⟨#[]⟩, t.p⟩ : Dcl)) HD5.out.blk
  obtain ⟨m0, m1, m2, m3, m4, m5⟩ := freeD HD5.out.blk
  go_wp2_with fail
  obtain ⟨w6, hw⟩ : ∃ W, W = (w5.setCell ⟨S, 1, none⟩ (.int .i64 1)) := ⟨_, rfl⟩
  have HD6 := Lib.hid (HD5.out.put (⟨false, 1, ⟨#[]⟩, 0, ⟨#[]⟩, t.p⟩ : Dcl) 1 (.int .i64 1) rfl)
  rw [← hw] at HD6
  show Calls _ _ _ (w5.setCell ⟨S, 1, none⟩ (.int .i64 1)) _
  rw [← hw]
  clear hw y0 y1 y2 y3 y4 y5 m0 m1 m2 m3 m4 m5
  refine (name_calls b g c ts (wantp ts ⟨#[115, 101, 99, 114, 101, 116]⟩ q) dp HT.out w6 HD6.out.pt.1).mono ?_
  rintro e w7 ⟨rfl, hp⟩
  have HD7 := Lib.hid (HD6.out.go hp)
  clear hp
  obtain ⟨y0, y1, y2, y3, y4, y5⟩ := cellsD (x := (⟨false, 1, ⟨#[]⟩, 0, ⟨#[]⟩, t.p⟩ : Dcl)) HD7.out.blk
  obtain ⟨m0, m1, m2, m3, m4, m5⟩ := freeD HD7.out.blk
  go_wp2_with fail
  obtain ⟨w8, hw⟩ : ∃ W, W = (w7.setCell ⟨S, 2, none⟩ (.string (namep ts (wantp ts ⟨#[115, 101, 99, 114, 101, 116]⟩ q)).1)) := ⟨_, rfl⟩
  have HD8 := Lib.hid (HD7.out.put (⟨false, 1, (namep ts (wantp ts ⟨#[115, 101, 99, 114, 101, 116]⟩ q)).1, 0, ⟨#[]⟩, t.p⟩ : Dcl) 2 (.string (namep ts (wantp ts ⟨#[115, 101, 99, 114, 101, 116]⟩ q)).1) rfl)
  rw [← hw] at HD8
  show Calls _ _ _ (w7.setCell ⟨S, 2, none⟩ (.string (namep ts (wantp ts ⟨#[115, 101, 99, 114, 101, 116]⟩ q)).1)) _
  rw [← hw]
  clear hw y0 y1 y2 y3 y4 y5 m0 m1 m2 m3 m4 m5
  refine (HIa.out w8 HD8.out.pt.1).mono ?_
  rintro e w9 ⟨rfl, hp⟩
  have HD9 := Lib.hid (HD8.out.go hp)
  clear hp
  go_wp2_with fail
  refine (HIb.out w9 HD9.out.pt.1).mono ?_
  rintro e w10 ⟨rfl, hp⟩
  have HD10 := Lib.hid (HD9.out.go hp)
  clear hp
  go_wp2_with fail
  refine (name_calls b g c ts (adv (namep ts (wantp ts ⟨#[115, 101, 99, 114, 101, 116]⟩ q)).2) dp HT.out w10 HD10.out.pt.1).mono ?_
  rintro e w11 ⟨rfl, hp⟩
  have HD11 := Lib.hid (HD10.out.go hp)
  clear hp
  obtain ⟨y0, y1, y2, y3, y4, y5⟩ := cellsD (x := (⟨false, 1, (namep ts (wantp ts ⟨#[115, 101, 99, 114, 101, 116]⟩ q)).1, 0, ⟨#[]⟩, t.p⟩ : Dcl)) HD11.out.blk
  obtain ⟨m0, m1, m2, m3, m4, m5⟩ := freeD HD11.out.blk
  go_wp2_with fail
  obtain ⟨w12, hw⟩ : ∃ W, W = (w11.setCell ⟨S, 4, none⟩ (.string (namep ts (adv (namep ts (wantp ts ⟨#[115, 101, 99, 114, 101, 116]⟩ q)).2)).1)) := ⟨_, rfl⟩
  have HD12 := Lib.hid (HD11.out.put (⟨false, 1, (namep ts (wantp ts ⟨#[115, 101, 99, 114, 101, 116]⟩ q)).1, 0, (namep ts (adv (namep ts (wantp ts ⟨#[115, 101, 99, 114, 101, 116]⟩ q)).2)).1, t.p⟩ : Dcl) 4 (.string (namep ts (adv (namep ts (wantp ts ⟨#[115, 101, 99, 114, 101, 116]⟩ q)).2)).1) rfl)
  rw [← hw] at HD12
  show Calls _ _ _ (w11.setCell ⟨S, 4, none⟩ (.string (namep ts (adv (namep ts (wantp ts ⟨#[115, 101, 99, 114, 101, 116]⟩ q)).2)).1)) _
  rw [← hw]
  clear hw y0 y1 y2 y3 y4 y5 m0 m1 m2 m3 m4 m5
  refine (want_calls b g c ts (namep ts (adv (namep ts (wantp ts ⟨#[115, 101, 99, 114, 101, 116]⟩ q)).2)).2 dp HT.out ⟨#[59]⟩ w12 HD12.out.pt.1).mono ?_
  rintro e w13 ⟨rfl, hp⟩
  have HD13 := Lib.hid (HD12.out.go hp)
  clear hp
  obtain ⟨y0, y1, y2, y3, y4, y5⟩ := cellsD (x := (⟨false, 1, (namep ts (wantp ts ⟨#[115, 101, 99, 114, 101, 116]⟩ q)).1, 0, (namep ts (adv (namep ts (wantp ts ⟨#[115, 101, 99, 114, 101, 116]⟩ q)).2)).1, t.p⟩ : Dcl)) HD13.out.blk
  obtain ⟨m0, m1, m2, m3, m4, m5⟩ := freeD HD13.out.blk
  obtain ⟨z0, z1, z2, z3, z4, z5⟩ := cellsD (x := dz) HD13.out.R
  obtain ⟨l0, l1, l2, l3, l4, l5⟩ := freeD HD13.out.R
  go_wp2
  refine HD13.out.ret HRES.out ?_
  rfl
set_option maxRecDepth 100000 in
set_option maxHeartbeats 8000000 in
theorem pdecl_seccn (b g c : Nat) (ts : List Tok) (q : PS) (dp : Nat) (w : World) (hts : Toks ts) (h : PM w b g c ts q dp) (hl : isp ts ⟨#[108, 111, 99, 107]⟩ q = false) (hp : isp ts ⟨#[112, 117, 98, 108, 105, 99]⟩ q = false) (ha : isp ts ⟨#[91]⟩ (namep ts (wantp ts ⟨#[115, 101, 99, 114, 101, 116]⟩ q)).2 = false) (hb : isp ts ⟨#[98, 121]⟩ (namep ts (wantp ts ⟨#[115, 101, 99, 114, 101, 116]⟩ q)).2 = false) :
    Calls Tryd.prog 30 #[.pointer (some ⟨b, 0, none⟩)] w (DPost w b g c ts (declp ts q) dp) := by
  obtain ⟨res, hres⟩ : ∃ res, res = declp ts q := ⟨_, rfl⟩
  have e1 : res = (⟨false, 1, (namep ts (wantp ts ⟨#[115, 101, 99, 114, 101, 116]⟩ q)).1, 0, ⟨#[]⟩, (nxt ts q).p⟩, wantp ts ⟨#[59]⟩ (namep ts (wantp ts ⟨#[115, 101, 99, 114, 101, 116]⟩ q)).2) := by rw [hres]; unfold declp; rw [if_neg (by rw [hl]; decide)]; simp only [hp, ha, hb, if_true, if_false, Bool.false_eq_true]; try rfl
  obtain ⟨t, ht⟩ : ∃ t, t = nxt ts q := ⟨_, rfl⟩
  rw [← hres]
  rw [← ht] at e1
  obtain ⟨w0, hw0⟩ : ∃ w0, w0 = w.alloc (.cells dz.cells.toArray TD) := ⟨_, rfl⟩
  have hp0 : PT w b g c ts q dp w0 := by rw [hw0]; exact PT.alloc ⟨h, gb_refl _ _⟩ _
  have hR : w0.heap[w.heap.size]? = some (.cells dz.cells.toArray TD (0, 0)) := by rw [hw0]; exact blk_new _ _
  have hn := next_calls b g c ts q dp hts w0 hp0.1
  rw [← ht] at hn
  have HRES := Lib.hid e1
  have HN := Lib.hid hn
  have HW := Lib.hid hw0
  have HP0 := Lib.hid hp0
  have HR := Lib.hid hR
  have HT := Lib.hid hts
  have HIl := Lib.hid (take_no (x := ⟨#[108, 111, 99, 107]⟩) (dp := dp) (b := b) (g := g) (c := c) hts hl)
  have HIp := Lib.hid (take_no (x := ⟨#[112, 117, 98, 108, 105, 99]⟩) (dp := dp) (b := b) (g := g) (c := c) hts hp)
  have HIa := Lib.hid (take_no (x := ⟨#[91]⟩) (dp := dp) (b := b) (g := g) (c := c) hts ha)
  have HIb := Lib.hid (take_no (x := ⟨#[98, 121]⟩) (dp := dp) (b := b) (g := g) (c := c) hts hb)
  clear hn hw0 hp0 hR hts h e1 hres ht hl hp ha hb
  go_enter Tryd.func30, Tryd.ntmps30
  go_wp2_with fail
  show Calls _ _ _ (w.alloc (.cells dz.cells.toArray TD)) _
  rw [← HW.out]
  refine HN.out.mono ?_
  rintro e w1 ⟨rfl, hb1⟩
  have HR1 := Lib.hid (blk_below HR.out hb1)
  have HP1 := Lib.hid (HP0.out.trans (PT.of HP0.out.1 hb1))
  have hlR := lt_heap HR1.out
  clear hb1
  obtain ⟨S, hS⟩ : ∃ S, S = w1.heap.size := ⟨_, rfl⟩
  obtain ⟨w2, hW2⟩ : ∃ w2, w2 = w1.alloc (.cells (Dcl.cells { dz with p := t.p }).toArray TD) := ⟨_, rfl⟩
  have HD2 : Hid (DI w b g c ts dp S { dz with p := t.p } q w2) := Lib.hid (by rw [hW2, hS]; exact ⟨HP1.out.alloc _, blk_alloc HR1.out _, blk_new _ _, hlR⟩)
  have hSl : w.heap.size < S := by omega
  have hfd := tok_place t
  go_wp2_with fail
  rw [← hS]
  show Calls _ _ _ (w1.alloc (.cells (Dcl.cells { dz with p := t.p }).toArray TD)) _
  rw [← hW2]
  clear hW2 hS hlR hfd
  refine (HIl.out w2 HD2.out.pt.1).mono ?_
  rintro e w3 ⟨rfl, hp⟩
  have HD3 := Lib.hid (HD2.out.go hp)
  clear hp
  go_wp2_with fail
  refine (HIp.out w3 HD3.out.pt.1).mono ?_
  rintro e w4 ⟨rfl, hp⟩
  have HD4 := Lib.hid (HD3.out.go hp)
  clear hp
  go_wp2_with fail
  refine (want_calls b g c ts q dp HT.out ⟨#[115, 101, 99, 114, 101, 116]⟩ w4 HD4.out.pt.1).mono ?_
  rintro e w5 ⟨rfl, hp⟩
  have HD5 := Lib.hid (HD4.out.go hp)
  clear hp
  obtain ⟨y0, y1, y2, y3, y4, y5⟩ := cellsD (x := (⟨false, 0, ⟨#[]⟩, 0, ⟨#[]⟩, t.p⟩ : Dcl)) HD5.out.blk
  obtain ⟨m0, m1, m2, m3, m4, m5⟩ := freeD HD5.out.blk
  go_wp2_with fail
  obtain ⟨w6, hw⟩ : ∃ W, W = (w5.setCell ⟨S, 1, none⟩ (.int .i64 1)) := ⟨_, rfl⟩
  have HD6 := Lib.hid (HD5.out.put (⟨false, 1, ⟨#[]⟩, 0, ⟨#[]⟩, t.p⟩ : Dcl) 1 (.int .i64 1) rfl)
  rw [← hw] at HD6
  show Calls _ _ _ (w5.setCell ⟨S, 1, none⟩ (.int .i64 1)) _
  rw [← hw]
  clear hw y0 y1 y2 y3 y4 y5 m0 m1 m2 m3 m4 m5
  refine (name_calls b g c ts (wantp ts ⟨#[115, 101, 99, 114, 101, 116]⟩ q) dp HT.out w6 HD6.out.pt.1).mono ?_
  rintro e w7 ⟨rfl, hp⟩
  have HD7 := Lib.hid (HD6.out.go hp)
  clear hp
  obtain ⟨y0, y1, y2, y3, y4, y5⟩ := cellsD (x := (⟨false, 1, ⟨#[]⟩, 0, ⟨#[]⟩, t.p⟩ : Dcl)) HD7.out.blk
  obtain ⟨m0, m1, m2, m3, m4, m5⟩ := freeD HD7.out.blk
  go_wp2_with fail
  obtain ⟨w8, hw⟩ : ∃ W, W = (w7.setCell ⟨S, 2, none⟩ (.string (namep ts (wantp ts ⟨#[115, 101, 99, 114, 101, 116]⟩ q)).1)) := ⟨_, rfl⟩
  have HD8 := Lib.hid (HD7.out.put (⟨false, 1, (namep ts (wantp ts ⟨#[115, 101, 99, 114, 101, 116]⟩ q)).1, 0, ⟨#[]⟩, t.p⟩ : Dcl) 2 (.string (namep ts (wantp ts ⟨#[115, 101, 99, 114, 101, 116]⟩ q)).1) rfl)
  rw [← hw] at HD8
  show Calls _ _ _ (w7.setCell ⟨S, 2, none⟩ (.string (namep ts (wantp ts ⟨#[115, 101, 99, 114, 101, 116]⟩ q)).1)) _
  rw [← hw]
  clear hw y0 y1 y2 y3 y4 y5 m0 m1 m2 m3 m4 m5
  refine (HIa.out w8 HD8.out.pt.1).mono ?_
  rintro e w9 ⟨rfl, hp⟩
  have HD9 := Lib.hid (HD8.out.go hp)
  clear hp
  go_wp2_with fail
  refine (HIb.out w9 HD9.out.pt.1).mono ?_
  rintro e w10 ⟨rfl, hp⟩
  have HD10 := Lib.hid (HD9.out.go hp)
  clear hp
  go_wp2_with fail
  refine (want_calls b g c ts (namep ts (wantp ts ⟨#[115, 101, 99, 114, 101, 116]⟩ q)).2 dp HT.out ⟨#[59]⟩ w10 HD10.out.pt.1).mono ?_
  rintro e w11 ⟨rfl, hp⟩
  have HD11 := Lib.hid (HD10.out.go hp)
  clear hp
  obtain ⟨y0, y1, y2, y3, y4, y5⟩ := cellsD (x := (⟨false, 1, (namep ts (wantp ts ⟨#[115, 101, 99, 114, 101, 116]⟩ q)).1, 0, ⟨#[]⟩, t.p⟩ : Dcl)) HD11.out.blk
  obtain ⟨m0, m1, m2, m3, m4, m5⟩ := freeD HD11.out.blk
  obtain ⟨z0, z1, z2, z3, z4, z5⟩ := cellsD (x := dz) HD11.out.R
  obtain ⟨l0, l1, l2, l3, l4, l5⟩ := freeD HD11.out.R
  go_wp2
  refine HD11.out.ret HRES.out ?_
  rfl
theorem pdecl_any (b g c : Nat) (ts : List Tok) (q : PS) (dp : Nat) (w : World) (hts : Toks ts) (h : PM w b g c ts q dp) :
    Calls Tryd.prog 30 #[.pointer (some ⟨b, 0, none⟩)] w (DPost w b g c ts (declp ts q) dp) := by
  cases hl : isp ts ⟨#[108, 111, 99, 107]⟩ q with
  | true =>
    exact pdecl_lock b g c ts q dp w hts h hl
  | false =>
    cases hp : isp ts ⟨#[112, 117, 98, 108, 105, 99]⟩ q with
    | true =>
      cases ha : isp ts ⟨#[91]⟩ (namep ts (adv q)).2 with
      | true =>
        cases hb : isp ts ⟨#[98, 121]⟩ (wantp ts ⟨#[93]⟩ (numberp ts 1 64 (adv (namep ts (adv q)).2)).2) with
        | true =>
          exact pdecl_pubab b g c ts q dp w hts h hl hp ha hb
        | false =>
          exact pdecl_puban b g c ts q dp w hts h hl hp ha hb
      | false =>
        cases hb : isp ts ⟨#[98, 121]⟩ (namep ts (adv q)).2 with
        | true =>
          exact pdecl_pubcb b g c ts q dp w hts h hl hp ha hb
        | false =>
          exact pdecl_pubcn b g c ts q dp w hts h hl hp ha hb
    | false =>
      cases ha : isp ts ⟨#[91]⟩ (namep ts (wantp ts ⟨#[115, 101, 99, 114, 101, 116]⟩ q)).2 with
      | true =>
        cases hb : isp ts ⟨#[98, 121]⟩ (wantp ts ⟨#[93]⟩ (numberp ts 1 64 (adv (namep ts (wantp ts ⟨#[115, 101, 99, 114, 101, 116]⟩ q)).2)).2) with
        | true =>
          exact pdecl_secab b g c ts q dp w hts h hl hp ha hb
        | false =>
          exact pdecl_secan b g c ts q dp w hts h hl hp ha hb
      | false =>
        cases hb : isp ts ⟨#[98, 121]⟩ (namep ts (wantp ts ⟨#[115, 101, 99, 114, 101, 116]⟩ q)).2 with
        | true =>
          exact pdecl_seccb b g c ts q dp w hts h hl hp ha hb
        | false =>
          exact pdecl_seccn b g c ts q dp w hts h hl hp ha hb
end Go.Proofs.YtcdgjgoplogiiaaDoor.PT
