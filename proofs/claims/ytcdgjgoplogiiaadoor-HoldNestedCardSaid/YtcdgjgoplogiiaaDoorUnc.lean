/- (*parser).unary: cells of arrays. -/
import Derived.Test.YtcdgjgoplogiiaaDoorUq
namespace Go.Proofs.YtcdgjgoplogiiaaDoor.PT
open Go.RowKit Go.Lib
set_option linter.unusedVariables false
set_option linter.unusedSimpArgs false
set_option maxRecDepth 100000 in
set_option maxHeartbeats 8000000 in
theorem unary_cell (d : Nat) (hr : ExprP d) (b g c : Nat) (ts : List Tok) (q : PS) (dp : Nat) (w : World) (hdp : dp + d = 40) (hts : Toks ts) (h : PM w b g c ts q dp) (hi0 : isp ts ⟨#[126]⟩ q = false) (hi1 : isp ts ⟨#[40]⟩ q = false) (hi2 : isp ts ⟨#[112, 105, 99, 107]⟩ q = false) (hk : (nxt ts q).k ≠ 3) (hi3 : isp ts ⟨#[91]⟩ (namep ts q).2 = true) :
    Calls Tryd.prog 105 #[.pointer (some ⟨b, 0, none⟩)] w (EPost w b g c ts (unaryp ts (exprp ts d) q) dp) := by
  have e1 : unaryp ts (exprp ts d) q = (.cell (namep ts q).1 (exprp ts d 0 (adv (namep ts q).2)).1 (nxt ts q).p, wantp ts ⟨#[93]⟩ (exprp ts d 0 (adv (namep ts q).2)).2) := by unfold unaryp; rw [if_neg (by rw [hi0]; decide), if_neg (by rw [hi1]; decide), if_neg (by rw [hi2]; decide), if_neg (by simpa using hk), if_pos hi3]
  have hlen := hts.len
  obtain ⟨t, ht⟩ : ∃ t, t = nxt ts q := ⟨_, rfl⟩
  obtain ⟨res, hres⟩ : ∃ res, res = unaryp ts (exprp ts d) q := ⟨_, rfl⟩
  rw [← hres]
  rw [← hres, ← ht] at e1
  rw [← ht] at hk
  have HK3 : Hid (¬ (t.k : Int) = 3) := Lib.hid (by omega)
  have HRES := Lib.hid e1
  obtain ⟨w0, hw0⟩ : ∃ w0, w0 = w.alloc (.cells z31 TE) := ⟨_, rfl⟩
  have hp0 : PT w b g c ts q dp w0 := by rw [hw0]; exact PT.alloc ⟨h, gb_refl _ _⟩ _
  have hR : w0.heap[w.heap.size]? = some (.cells z31 TE (0, 0)) := by rw [hw0]; exact blk_new _ _
  have hn := next_calls b g c ts q dp hts w0 hp0.1
  rw [← ht] at hn
  have HN := Lib.hid hn
  have HW := Lib.hid hw0
  have HP0 := Lib.hid hp0
  have HR := Lib.hid hR
  have HTN := Lib.hid (take_no (x := ⟨#[126]⟩) (dp := dp) (b := b) (g := g) (c := c) hts hi0)
  have HTO := Lib.hid (take_no (x := ⟨#[40]⟩) (dp := dp) (b := b) (g := g) (c := c) hts hi1)
  have HTP := Lib.hid (take_no (x := ⟨#[112, 105, 99, 107]⟩) (dp := dp) (b := b) (g := g) (c := c) hts hi2)
  have HT := Lib.hid hts
  have HREC := Lib.hid hr
  have HTB := Lib.hid (take_yes (x := ⟨#[91]⟩) (dp := dp) (b := b) (g := g) (c := c) hts hi3)
  clear hn hw0 hp0 hR hts hr h hi0 hi1 hi2 hi3 hk ht e1 hres
  go_enter Tryd.func105, Tryd.ntmps105
  go_wp2_with fail
  rw [← HW.out]
  refine HN.out.mono ?_
  rintro e w1 ⟨rfl, hb1⟩
  have HP2 : Hid (PT w b g c ts q dp (w1.alloc (.cells (tokA t) TK))) := Lib.hid ((HP0.out.trans (PT.of HP0.out.1 hb1)).alloc _)
  have HR2 : Hid ((w1.alloc (.cells (tokA t) TK)).heap[w.heap.size]? = some (.cells z31 TE (0, 0))) := Lib.hid (blk_alloc (blk_below HR.out hb1) _)
  have HT2 : Hid ((w1.alloc (.cells (tokA t) TK)).heap[w1.heap.size]? = some (.cells (tokA t) TK (0, 0))) := Lib.hid (blk_new _ _)
  have hne : w1.heap.size ≠ w.heap.size := by have := lt_heap (blk_below HR.out hb1); omega
  clear hb1
  have HM2 : Hid (PM (w1.alloc (.cells (tokA t) TK)) b g c ts q dp) := Lib.hid HP2.out.1
  go_wp2_with fail
  refine (HTN.out _ HP2.out.1).mono ?_
  rintro e w3 ⟨rfl, hp3⟩
  have HP3 := Lib.hid hp3
  have HR3 := Lib.hid (blk_pm HP2.out.1 HP3.out.2 HR2.out (by decide))
  have HT3 := Lib.hid (blk_pm HP2.out.1 HP3.out.2 HT2.out (by decide))
  clear hp3
  go_wp2_with fail
  refine (HTO.out _ HP3.out.1).mono ?_
  rintro e w4 ⟨rfl, hp4⟩
  have HP4 := Lib.hid hp4
  have HR4 := Lib.hid (blk_pm HP3.out.1 HP4.out.2 HR3.out (by decide))
  have HT4 := Lib.hid (blk_pm HP3.out.1 HP4.out.2 HT3.out (by decide))
  clear hp4
  go_wp2_with fail
  refine (HTP.out _ HP4.out.1).mono ?_
  rintro e w5 ⟨rfl, hp5⟩
  have HP5 := Lib.hid hp5
  have HR5 := Lib.hid (blk_pm HP4.out.1 HP5.out.2 HR4.out (by decide))
  have HT5 := Lib.hid (blk_pm HP4.out.1 HP5.out.2 HT4.out (by decide))
  clear hp5
  have hbl := HP5.out.1.lt
  obtain ⟨kk, hkk⟩ : ∃ kk : Int, kk = t.k := ⟨_, rfl⟩
  have hk3 : ¬ kk = 3 := by rw [hkk]; exact HK3.out
  have t0 : w5.cell? ⟨w1.heap.size, 0, none⟩ = some (.int .i64 kk) := by rw [hkk]; exact (blk_cell HT5.out 0).trans rfl
  have t3 : w5.cell? ⟨w1.heap.size, 3, none⟩ = some (.int .i64 t.p) := (blk_cell HT5.out 3).trans rfl
  clear hkk
  go_wp2_with fail
  have hT5 := lt_heap HT5.out
  have HPA : Hid (PM w5.drew b g c ts q dp) := Lib.hid (HP5.out.1.keep fun _ _ => rfl)
  have HPB : Hid (PM (w5.alloc (.cells z31 TE)).drew b g c ts q dp) := Lib.hid ((HP5.out.1.alloc _).keep fun _ _ => rfl)
  have hne5 : w1.heap.size ≠ w5.heap.size := by omega
  go_region_held3 (fun w' => w'.cell? ⟨w1.heap.size, 3, none⟩ = some (.int .i64 t.p))
    (first
      | with_reducible exact t3
      | with_reducible exact cell_dr t3
      | with_reducible exact cell_dr (cell_al t3 _)
      | with_reducible exact t6
      | with_reducible exact cell_al t6 _
      | with_reducible exact keepT hne5 t6)
    (first
      | (go_at_call 56; (with_reducible refine (name_calls b g c ts q dp HT.out w5.drew HPA.out).mono ?_); rintro e w6 ⟨rfl, hp6⟩; have HP6 : Hid (PT w5 b g c ts (namep ts q).2 dp w6) := Lib.hid ⟨hp6.1, ⟨hp6.2.os, hp6.2.tape, hp6.2.output, hp6.2.size, hp6.2.block⟩⟩; have t6 : w6.cell? ⟨w1.heap.size, 3, none⟩ = some (.int .i64 t.p) := (blk_cell (blk_pm HP5.out.1 HP6.out.2 HT5.out (by decide)) 3).trans rfl; have HX := Lib.hid True.intro; clear hp6)
      | (go_at_call 56; (with_reducible refine (name_calls b g c ts q dp HT.out (w5.alloc (.cells z31 TE)).drew HPB.out).mono ?_); rintro e w6 ⟨rfl, hp6⟩; have HP6 : Hid (PT (w5.alloc (.cells z31 TE)) b g c ts (namep ts q).2 dp w6) := Lib.hid ⟨hp6.1, ⟨hp6.2.os, hp6.2.tape, hp6.2.output, hp6.2.size, hp6.2.block⟩⟩; have t6 : w6.cell? ⟨w1.heap.size, 3, none⟩ = some (.int .i64 t.p) := (blk_cell (blk_pm (HP5.out.1.alloc _) HP6.out.2 (blk_alloc HT5.out _) (by decide)) 3).trans rfl; have HRN := Lib.hid (blk_pm (HP5.out.1.alloc _) HP6.out.2 (blk_new w5 (.cells z31 TE)) (by decide)); clear hp6; obtain ⟨z0', z1', z2', z3', z4', z5'⟩ := cells6 (x := ze) HRN.out; obtain ⟨l0', l1', l2', l3', l4', l5'⟩ := free6 HRN.out))
  all_goals go_wp2_with fail
  · obtain ⟨R, hR⟩ : ∃ R, R = w6.heap.size := ⟨_, rfl⟩
    obtain ⟨W9, hW9⟩ : ∃ W9, W9 = w6.alloc (.cells (EV.cells ⟨1, 0, (namep ts q).1, 0, none, 0, 0, t.p⟩).toArray TE) := ⟨_, rfl⟩
    have k5 := lt_heap HR5.out
    have k6 := HP6.out.2.size
    have hRl : w.heap.size < R := by omega
    have HP9 : Hid (PT w b g c ts (namep ts q).2 dp W9) := Lib.hid (by rw [hW9]; exact (((((HP2.out.trans HP3.out).trans HP4.out).trans HP5.out).trans HP6.out).alloc _))
    have HR9 : Hid (W9.heap[w.heap.size]? = some (.cells z31 TE (0, 0))) := Lib.hid (by rw [hW9]; exact blk_alloc (blk_pm HP5.out.1 HP6.out.2 HR5.out (by decide)) _)
    have HE9 : Hid (W9.heap[R]? = some (.cells (EV.cells ⟨1, 0, (namep ts q).1, 0, none, 0, 0, t.p⟩).toArray TE (0, 0))) := Lib.hid (by rw [hW9, hR]; exact blk_new _ _)
    show Calls _ _ _ (w6.alloc (.cells (EV.cells ⟨1, 0, (namep ts q).1, 0, none, 0, 0, t.p⟩).toArray TE)) _
    rw [← hW9, ← hR]
    clear hW9 hR t6 t3 hne5 k5 k6 HX
    refine (HTB.out _ HP9.out.1).mono ?_
    rintro e w10 ⟨rfl, hp10⟩
    have HP10 := Lib.hid (HP9.out.trans hp10)
    have HE10 := Lib.hid (blk_pm HP9.out.1 hp10.2 HE9.out (by decide))
    have HR10 := Lib.hid (blk_pm HP9.out.1 hp10.2 HR9.out (by decide))
    clear hp10
    go_wp2_with fail
    refine (HREC.out 0 b g c ts (adv (namep ts q).2) dp w10 (by decide) (by decide) hdp HT.out HP10.out.1).mono ?_
    rintro e w11 ⟨y, rfl, hat, hp11⟩
    have HP11 := Lib.hid (HP10.out.trans hp11)
    have HAT := Lib.hid hat
    have HE11 := Lib.hid (blk_pm HP10.out.1 hp11.2 HE10.out (by decide))
    have HR11 := Lib.hid (blk_pm HP10.out.1 hp11.2 HR10.out (by decide))
    have k10 := lt_heap HE10.out
    have k11 := lt_heap HE11.out
    clear hp11 hat
    obtain ⟨y0, y1, y2, y3, y4, y5⟩ := cells6 (x := ⟨1, 0, (namep ts q).1, 0, none, 0, 0, t.p⟩) HE11.out
    obtain ⟨m0, m1, m2, m3, m4, m5⟩ := free6 HE11.out
    go_wp2_with fail
    obtain ⟨W12, hW12⟩ : ∃ W12, W12 = ((w11.setCell ⟨R, 0, none⟩ (.int .i64 2)).setCell ⟨R, 4, none⟩ (.slice (some ⟨w11.heap.size, 0, none⟩) 1 1)).alloc (.cells y.cells.toArray TE) := ⟨_, rfl⟩
    have hsz : ((w11.setCell ⟨R, 0, none⟩ (.int .i64 2)).setCell ⟨R, 4, none⟩ (.slice (some ⟨w11.heap.size, 0, none⟩) 1 1)).heap.size = w11.heap.size := by simp [World.setCell]
    have HP12 : Hid (PT w b g c ts (exprp ts d 0 (adv (namep ts q).2)).2 dp W12) := Lib.hid (by
      rw [hW12]
      exact PT.alloc ⟨HP11.out.1.far HE11.out (fun i hi => (Below.heap_setCell _ _ _ _ hi).trans (Below.heap_setCell _ _ _ _ hi)), gb_far (gb_far HP11.out.2 (Nat.le_of_lt hRl) _) (Nat.le_of_lt hRl) _⟩ _)
    have HE12 : Hid (W12.heap[R]? = some (.cells (EV.cells ⟨2, 0, (namep ts q).1, 0, some ⟨w11.heap.size, 0, none⟩, 1, 1, t.p⟩).toArray TE (0, 0))) := Lib.hid (by rw [hW12]; exact blk_alloc (blk_put (blk_put HE11.out 0 _ rfl) 4 _ rfl) _)
    have HR12 : Hid (W12.heap[w.heap.size]? = some (.cells z31 TE (0, 0))) := Lib.hid (by rw [hW12]; exact blk_alloc (blk_far (blk_far HR11.out (p := ⟨R, 0, none⟩) (Nat.ne_of_lt hRl) _) (p := ⟨R, 4, none⟩) (Nat.ne_of_lt hRl) _) _)
    have HY12 : Hid (W12.heap[w11.heap.size]? = some (.cells y.cells.toArray TE (0, 0))) := Lib.hid (by
      have := blk_new ((w11.setCell ⟨R, 0, none⟩ (.int .i64 2)).setCell ⟨R, 4, none⟩ (.slice (some ⟨w11.heap.size, 0, none⟩) 1 1)) (.cells y.cells.toArray TE)
      rw [hsz] at this
      rw [hW12]; exact this)
    have HAT12 : Hid (At (exprp ts d 0 (adv (namep ts q).2)).1 (fun k => w10.heap.size ≤ k) W12 y) := Lib.hid (by
      rw [hW12]
      exact (HAT.out.mono (fun _ h _ => h) (fun k hk _ => (Below.heap_setCell _ _ _ _ (show k ≠ R by omega)).trans (Below.heap_setCell _ _ _ _ (show k ≠ R by omega)))).alloc _)
    show Calls _ _ _ (((w11.setCell ⟨R, 0, none⟩ (.int .i64 2)).setCell ⟨R, 4, none⟩ (.slice (some ⟨w11.heap.size, 0, none⟩) 1 1)).alloc (.cells y.cells.toArray TE)) _
    rw [← hW12]
    clear hW12 hsz y0 y1 y2 y3 y4 y5 m0 m1 m2 m3 m4 m5
    refine (want_calls b g c ts _ dp HT.out ⟨#[93]⟩ W12 HP12.out.1).mono ?_
    rintro e w13 ⟨rfl, hp13⟩
    have HP13 := Lib.hid (HP12.out.trans hp13)
    have HE13 := Lib.hid (blk_pm HP12.out.1 hp13.2 HE12.out (by decide))
    have HR13 := Lib.hid (blk_pm HP12.out.1 hp13.2 HR12.out (by decide))
    have HY13 := Lib.hid (blk_pm HP12.out.1 hp13.2 HY12.out (by decide))
    have HAT13 := Lib.hid (HAT12.out.gb HP12.out.1 hp13.2)
    clear hp13
    obtain ⟨y0, y1, y2, y3, y4, y5⟩ := cells6 (x := ⟨2, 0, (namep ts q).1, 0, some ⟨w11.heap.size, 0, none⟩, 1, 1, t.p⟩) HE13.out
    obtain ⟨z0, z1, z2, z3, z4, z5⟩ := cells6 (x := ze) HR13.out
    obtain ⟨l0, l1, l2, l3, l4, l5⟩ := free6 HR13.out
    go_wp2
    have hB : (set6 w13 w.heap.size ⟨2, 0, (namep ts q).1, 0, some ⟨w11.heap.size, 0, none⟩, 1, 1, t.p⟩).heap[w.heap.size]? = some (.cells (EV.cells ⟨2, 0, (namep ts q).1, 0, some ⟨w11.heap.size, 0, none⟩, 1, 1, t.p⟩).toArray TE (0, 0)) := set6_blk (y := ze) HR13.out _
    obtain ⟨r0, r1, r2, r3, r4, r5⟩ := cells6 hB
    show bodyPost _ _ _ _ _ (set6 w13 w.heap.size ⟨2, 0, (namep ts q).1, 0, some ⟨w11.heap.size, 0, none⟩, 1, 1, t.p⟩)
    generalize hW : set6 w13 w.heap.size ⟨2, 0, (namep ts q).1, 0, some ⟨w11.heap.size, 0, none⟩, 1, 1, t.p⟩ = W14 at r0 r1 r2 r3 r4 r5 ⊢
    refine bodyPost_ret (v := EV.val ⟨2, 0, (namep ts q).1, 0, some ⟨w11.heap.size, 0, none⟩, 1, 1, t.p⟩) (by simp [results, Tryd.results105, go_sem, r0, r1, r2, r3, r4, r5]) rfl ?_
    rw [HRES.out, ← hW]
    refine ⟨_, rfl, ⟨w11.heap.size, 1, y, by omega, Nat.le_refl _, rfl, ?_, ?_⟩, HP13.out.set6 HR13.out (Nat.le_refl _) _⟩
    · exact Row.same (Row.of HY13.out) (set6_far _ _ _ _ (by omega))
    · exact HAT13.out.mono (P' := fun k => w.heap.size ≤ k) (fun k hk _ => by omega) fun k hk _ => set6_far _ _ _ _ (by omega)
  · obtain ⟨R, hR⟩ : ∃ R, R = w5.heap.size := ⟨_, rfl⟩
    obtain ⟨W9, hW9⟩ : ∃ W9, W9 = set6 w6 w5.heap.size ⟨1, 0, (namep ts q).1, 0, none, 0, 0, t.p⟩ := ⟨_, rfl⟩
    have k5 := lt_heap HR5.out
    have k6 := ((HP2.out.trans HP3.out).trans (HP4.out.trans HP5.out)).2.size
    have hRl : w.heap.size < R := by omega
    have HP9 : Hid (PT w b g c ts (namep ts q).2 dp W9) := Lib.hid (by rw [hW9]; exact (((((HP2.out.trans HP3.out).trans HP4.out).trans HP5.out).alloc _).trans HP6.out).set6 HRN.out (by omega) _)
    have HR9 : Hid (W9.heap[w.heap.size]? = some (.cells z31 TE (0, 0))) := Lib.hid (by rw [hW9]; exact (set6_far _ _ _ _ (by omega)).trans (blk_pm (HP5.out.1.alloc _) HP6.out.2 (blk_alloc HR5.out _) (by decide)))
    have HE9 : Hid (W9.heap[R]? = some (.cells (EV.cells ⟨1, 0, (namep ts q).1, 0, none, 0, 0, t.p⟩).toArray TE (0, 0))) := Lib.hid (by rw [hW9, hR]; exact set6_blk (y := ze) HRN.out _)
    show Calls _ _ _ (set6 w6 w5.heap.size ⟨1, 0, (namep ts q).1, 0, none, 0, 0, t.p⟩) _
    rw [← hW9, ← hR]
    clear hW9 hR t6 t3 hne5 k5 k6 z0' z1' z2' z3' z4' z5' l0' l1' l2' l3' l4' l5'
    refine (HTB.out _ HP9.out.1).mono ?_
    rintro e w10 ⟨rfl, hp10⟩
    have HP10 := Lib.hid (HP9.out.trans hp10)
    have HE10 := Lib.hid (blk_pm HP9.out.1 hp10.2 HE9.out (by decide))
    have HR10 := Lib.hid (blk_pm HP9.out.1 hp10.2 HR9.out (by decide))
    clear hp10
    go_wp2_with fail
    refine (HREC.out 0 b g c ts (adv (namep ts q).2) dp w10 (by decide) (by decide) hdp HT.out HP10.out.1).mono ?_
    rintro e w11 ⟨y, rfl, hat, hp11⟩
    have HP11 := Lib.hid (HP10.out.trans hp11)
    have HAT := Lib.hid hat
    have HE11 := Lib.hid (blk_pm HP10.out.1 hp11.2 HE10.out (by decide))
    have HR11 := Lib.hid (blk_pm HP10.out.1 hp11.2 HR10.out (by decide))
    have k10 := lt_heap HE10.out
    have k11 := lt_heap HE11.out
    clear hp11 hat
    obtain ⟨y0, y1, y2, y3, y4, y5⟩ := cells6 (x := ⟨1, 0, (namep ts q).1, 0, none, 0, 0, t.p⟩) HE11.out
    obtain ⟨m0, m1, m2, m3, m4, m5⟩ := free6 HE11.out
    go_wp2_with fail
    obtain ⟨W12, hW12⟩ : ∃ W12, W12 = ((w11.setCell ⟨R, 0, none⟩ (.int .i64 2)).setCell ⟨R, 4, none⟩ (.slice (some ⟨w11.heap.size, 0, none⟩) 1 1)).alloc (.cells y.cells.toArray TE) := ⟨_, rfl⟩
    have hsz : ((w11.setCell ⟨R, 0, none⟩ (.int .i64 2)).setCell ⟨R, 4, none⟩ (.slice (some ⟨w11.heap.size, 0, none⟩) 1 1)).heap.size = w11.heap.size := by simp [World.setCell]
    have HP12 : Hid (PT w b g c ts (exprp ts d 0 (adv (namep ts q).2)).2 dp W12) := Lib.hid (by
      rw [hW12]
      exact PT.alloc ⟨HP11.out.1.far HE11.out (fun i hi => (Below.heap_setCell _ _ _ _ hi).trans (Below.heap_setCell _ _ _ _ hi)), gb_far (gb_far HP11.out.2 (Nat.le_of_lt hRl) _) (Nat.le_of_lt hRl) _⟩ _)
    have HE12 : Hid (W12.heap[R]? = some (.cells (EV.cells ⟨2, 0, (namep ts q).1, 0, some ⟨w11.heap.size, 0, none⟩, 1, 1, t.p⟩).toArray TE (0, 0))) := Lib.hid (by rw [hW12]; exact blk_alloc (blk_put (blk_put HE11.out 0 _ rfl) 4 _ rfl) _)
    have HR12 : Hid (W12.heap[w.heap.size]? = some (.cells z31 TE (0, 0))) := Lib.hid (by rw [hW12]; exact blk_alloc (blk_far (blk_far HR11.out (p := ⟨R, 0, none⟩) (Nat.ne_of_lt hRl) _) (p := ⟨R, 4, none⟩) (Nat.ne_of_lt hRl) _) _)
    have HY12 : Hid (W12.heap[w11.heap.size]? = some (.cells y.cells.toArray TE (0, 0))) := Lib.hid (by
      have := blk_new ((w11.setCell ⟨R, 0, none⟩ (.int .i64 2)).setCell ⟨R, 4, none⟩ (.slice (some ⟨w11.heap.size, 0, none⟩) 1 1)) (.cells y.cells.toArray TE)
      rw [hsz] at this
      rw [hW12]; exact this)
    have HAT12 : Hid (At (exprp ts d 0 (adv (namep ts q).2)).1 (fun k => w10.heap.size ≤ k) W12 y) := Lib.hid (by
      rw [hW12]
      exact (HAT.out.mono (fun _ h _ => h) (fun k hk _ => (Below.heap_setCell _ _ _ _ (show k ≠ R by omega)).trans (Below.heap_setCell _ _ _ _ (show k ≠ R by omega)))).alloc _)
    show Calls _ _ _ (((w11.setCell ⟨R, 0, none⟩ (.int .i64 2)).setCell ⟨R, 4, none⟩ (.slice (some ⟨w11.heap.size, 0, none⟩) 1 1)).alloc (.cells y.cells.toArray TE)) _
    rw [← hW12]
    clear hW12 hsz y0 y1 y2 y3 y4 y5 m0 m1 m2 m3 m4 m5
    refine (want_calls b g c ts _ dp HT.out ⟨#[93]⟩ W12 HP12.out.1).mono ?_
    rintro e w13 ⟨rfl, hp13⟩
    have HP13 := Lib.hid (HP12.out.trans hp13)
    have HE13 := Lib.hid (blk_pm HP12.out.1 hp13.2 HE12.out (by decide))
    have HR13 := Lib.hid (blk_pm HP12.out.1 hp13.2 HR12.out (by decide))
    have HY13 := Lib.hid (blk_pm HP12.out.1 hp13.2 HY12.out (by decide))
    have HAT13 := Lib.hid (HAT12.out.gb HP12.out.1 hp13.2)
    clear hp13
    obtain ⟨y0, y1, y2, y3, y4, y5⟩ := cells6 (x := ⟨2, 0, (namep ts q).1, 0, some ⟨w11.heap.size, 0, none⟩, 1, 1, t.p⟩) HE13.out
    obtain ⟨z0, z1, z2, z3, z4, z5⟩ := cells6 (x := ze) HR13.out
    obtain ⟨l0, l1, l2, l3, l4, l5⟩ := free6 HR13.out
    go_wp2
    have hB : (set6 w13 w.heap.size ⟨2, 0, (namep ts q).1, 0, some ⟨w11.heap.size, 0, none⟩, 1, 1, t.p⟩).heap[w.heap.size]? = some (.cells (EV.cells ⟨2, 0, (namep ts q).1, 0, some ⟨w11.heap.size, 0, none⟩, 1, 1, t.p⟩).toArray TE (0, 0)) := set6_blk (y := ze) HR13.out _
    obtain ⟨r0, r1, r2, r3, r4, r5⟩ := cells6 hB
    show bodyPost _ _ _ _ _ (set6 w13 w.heap.size ⟨2, 0, (namep ts q).1, 0, some ⟨w11.heap.size, 0, none⟩, 1, 1, t.p⟩)
    generalize hW : set6 w13 w.heap.size ⟨2, 0, (namep ts q).1, 0, some ⟨w11.heap.size, 0, none⟩, 1, 1, t.p⟩ = W14 at r0 r1 r2 r3 r4 r5 ⊢
    refine bodyPost_ret (v := EV.val ⟨2, 0, (namep ts q).1, 0, some ⟨w11.heap.size, 0, none⟩, 1, 1, t.p⟩) (by simp [results, Tryd.results105, go_sem, r0, r1, r2, r3, r4, r5]) rfl ?_
    rw [HRES.out, ← hW]
    refine ⟨_, rfl, ⟨w11.heap.size, 1, y, by omega, Nat.le_refl _, rfl, ?_, ?_⟩, HP13.out.set6 HR13.out (Nat.le_refl _) _⟩
    · exact Row.same (Row.of HY13.out) (set6_far _ _ _ _ (by omega))
    · exact HAT13.out.mono (P' := fun k => w.heap.size ≤ k) (fun k hk _ => by omega) fun k hk _ => set6_far _ _ _ _ (by omega)
end Go.Proofs.YtcdgjgoplogiiaaDoor.PT
