/- (*parser).unary: numbers. -/
import Derived.Test.YtcdgjgoplogiiaaDoorUq
namespace Go.Proofs.YtcdgjgoplogiiaaDoor.PT
open Go.RowKit Go.Lib
set_option linter.unusedVariables false
set_option linter.unusedSimpArgs false
set_option maxRecDepth 100000 in
set_option maxHeartbeats 8000000 in
theorem unary_lit (d : Nat) (hr : ExprP d) (b g c : Nat) (ts : List Tok) (q : PS) (dp : Nat) (w : World) (hdp : dp + d = 40) (hts : Toks ts) (h : PM w b g c ts q dp) (hi0 : isp ts ⟨#[126]⟩ q = false) (hi1 : isp ts ⟨#[40]⟩ q = false) (hi2 : isp ts ⟨#[112, 105, 99, 107]⟩ q = false) (hk : (nxt ts q).k = 3) :
    Calls Tryd.prog 105 #[.pointer (some ⟨b, 0, none⟩)] w (EPost w b g c ts (unaryp ts (exprp ts d) q) dp) := by
  have e1 : unaryp ts (exprp ts d) q = (.lit (nxt ts q).v (nxt ts q).p, adv q) := by unfold unaryp; rw [if_neg (by rw [hi0]; decide), if_neg (by rw [hi1]; decide), if_neg (by rw [hi2]; decide), if_pos (by rw [hk]; rfl)]
  have hal := adv_lt hts h.at' (by omega)
  have hlen := hts.len
  obtain ⟨t, ht⟩ : ∃ t, t = nxt ts q := ⟨_, rfl⟩
  obtain ⟨res, hres⟩ : ∃ res, res = unaryp ts (exprp ts d) q := ⟨_, rfl⟩
  rw [← hres]
  rw [← hres, ← ht] at e1
  rw [← ht] at hk
  have HK3 : Hid ((t.k : Int) = 3) := Lib.hid (by omega)
  have HRES := Lib.hid e1
  obtain ⟨w0, hw0⟩ : ∃ w0, w0 = w.alloc (.cells z31 TE) := ⟨_, rfl⟩
  have hp0 : PT w b g c ts q dp w0 := by rw [hw0]; exact PT.alloc ⟨h, gb_refl _ _⟩ _
  have hR : w0.heap[w.heap.size]? = some (.cells z31 TE (0, 0)) := by rw [hw0]; exact blk_new _ _
  have hn := next_calls b g c ts q dp hts w0 hp0.1
  rw [← ht] at hn
  have HN := Lib.hid hn
  have HW := Lib.hid hw0
  have HP0 := Lib.hid hp0
  have HR := Lib.hid hR
  have HTN := Lib.hid (take_no (x := ⟨#[126]⟩) (dp := dp) (b := b) (g := g) (c := c) hts hi0)
  have HTO := Lib.hid (take_no (x := ⟨#[40]⟩) (dp := dp) (b := b) (g := g) (c := c) hts hi1)
  have HTP := Lib.hid (take_no (x := ⟨#[112, 105, 99, 107]⟩) (dp := dp) (b := b) (g := g) (c := c) hts hi2)
  have HT := Lib.hid hts
  have HREC := Lib.hid hr
  clear hn hw0 hp0 hR hts hr h hi0 hi1 hi2 hk ht e1 hres
  go_enter Tryd.func105, Tryd.ntmps105
  go_wp2_with fail
  rw [← HW.out]
  refine HN.out.mono ?_
  rintro e w1 ⟨rfl, hb1⟩
  have HP2 : Hid (PT w b g c ts q dp (w1.alloc (.cells (tokA t) TK))) := Lib.hid ((HP0.out.trans (PT.of HP0.out.1 hb1)).alloc _)
  have HR2 : Hid ((w1.alloc (.cells (tokA t) TK)).heap[w.heap.size]? = some (.cells z31 TE (0, 0))) := Lib.hid (blk_alloc (blk_below HR.out hb1) _)
  have HT2 : Hid ((w1.alloc (.cells (tokA t) TK)).heap[w1.heap.size]? = some (.cells (tokA t) TK (0, 0))) := Lib.hid (blk_new _ _)
  have hne : w1.heap.size ≠ w.heap.size := by have := lt_heap (blk_below HR.out hb1); omega
  clear hb1
  have HM2 : Hid (PM (w1.alloc (.cells (tokA t) TK)) b g c ts q dp) := Lib.hid HP2.out.1
  go_wp2_with fail
  refine (HTN.out _ HP2.out.1).mono ?_
  rintro e w3 ⟨rfl, hp3⟩
  have HP3 := Lib.hid hp3
  have HR3 := Lib.hid (blk_pm HP2.out.1 HP3.out.2 HR2.out (by decide))
  have HT3 := Lib.hid (blk_pm HP2.out.1 HP3.out.2 HT2.out (by decide))
  clear hp3
  go_wp2_with fail
  refine (HTO.out _ HP3.out.1).mono ?_
  rintro e w4 ⟨rfl, hp4⟩
  have HP4 := Lib.hid hp4
  have HR4 := Lib.hid (blk_pm HP3.out.1 HP4.out.2 HR3.out (by decide))
  have HT4 := Lib.hid (blk_pm HP3.out.1 HP4.out.2 HT3.out (by decide))
  clear hp4
  go_wp2_with fail
  refine (HTP.out _ HP4.out.1).mono ?_
  rintro e w5 ⟨rfl, hp5⟩
  have HP5 := Lib.hid hp5
  have HR5 := Lib.hid (blk_pm HP4.out.1 HP5.out.2 HR4.out (by decide))
  have HT5 := Lib.hid (blk_pm HP4.out.1 HP5.out.2 HT4.out (by decide))
  clear hp5
  obtain ⟨a1, a2⟩ := HP5.out.1.atc
  have hbl := HP5.out.1.lt
  have t0 : w5.cell? ⟨w1.heap.size, 0, none⟩ = some (.int .i64 3) := by rw [← HK3.out]; exact (blk_cell HT5.out 0).trans rfl
  have t2 : w5.cell? ⟨w1.heap.size, 2, none⟩ = some (.int .u64 t.v) := (blk_cell HT5.out 2).trans rfl
  have t3 : w5.cell? ⟨w1.heap.size, 3, none⟩ = some (.int .i64 t.p) := (blk_cell HT5.out 3).trans rfl
  obtain ⟨z0, z1, z2, z3, z4, z5⟩ := cells6 (x := ze) HR5.out
  obtain ⟨l0, l1, l2, l3, l4, l5⟩ := free6 HR5.out
  have hTb : w1.heap.size ≠ b := by
    intro e
    obtain ⟨⟨ev, h1, _⟩, _⟩ := HP5.out.1
    have h2 := HT5.out
    rw [e, h1] at h2
    injection h2 with h2; injection h2 with _ h2 _
    exact absurd h2 (by decide)
  have hRb : w.heap.size ≠ b := by
    intro e
    obtain ⟨⟨ev, h1, _⟩, _⟩ := HP5.out.1
    have h2 := HR5.out
    rw [e, h1] at h2
    injection h2 with h2; injection h2 with _ h2 _
    exact absurd h2 (by decide)
  go_wp2
  have hw : PT w b g c ts (adv q) dp (w5.setCell ⟨b, 1, none⟩ (.int .i64 ((q.i : Int) + 1))) := PT.adv ((((HP2.out.trans HP3.out).trans HP4.out).trans HP5.out)) hal
  have hR6 : (w5.setCell ⟨b, 1, none⟩ (.int .i64 ((q.i : Int) + 1))).heap[w.heap.size]? = some (.cells z31 TE (0, 0)) := blk_far HR5.out (p := ⟨b, 1, none⟩) hRb _
  have hB : (set6 (w5.setCell ⟨b, 1, none⟩ (.int .i64 ((q.i : Int) + 1))) w.heap.size ⟨0, 0, ⟨#[]⟩, t.v, none, 0, 0, t.p⟩).heap[w.heap.size]? = some (.cells (EV.cells ⟨0, 0, ⟨#[]⟩, t.v, none, 0, 0, t.p⟩).toArray TE (0, 0)) := set6_blk (y := ze) hR6 _
  obtain ⟨r0, r1, r2, r3, r4, r5⟩ := cells6 hB
  show bodyPost _ _ _ _ _ (set6 (w5.setCell ⟨b, 1, none⟩ (.int .i64 ((q.i : Int) + 1))) w.heap.size ⟨0, 0, ⟨#[]⟩, t.v, none, 0, 0, t.p⟩)
  generalize hW : set6 (w5.setCell ⟨b, 1, none⟩ (.int .i64 ((q.i : Int) + 1))) w.heap.size ⟨0, 0, ⟨#[]⟩, t.v, none, 0, 0, t.p⟩ = W9 at r0 r1 r2 r3 r4 r5 ⊢
  refine bodyPost_ret (v := EV.val ⟨0, 0, ⟨#[]⟩, t.v, none, 0, 0, t.p⟩) (by simp [results, Tryd.results105, go_sem, r0, r1, r2, r3, r4, r5]) rfl ?_
  rw [HRES.out, ← hW]
  exact ⟨_, rfl, rfl, hw.set6 hR6 (Nat.le_refl _) _⟩
end Go.Proofs.YtcdgjgoplogiiaaDoor.PT
