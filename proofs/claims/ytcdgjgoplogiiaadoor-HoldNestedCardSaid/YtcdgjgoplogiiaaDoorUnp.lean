/- (*parser).unary: brackets. -/
import Derived.Test.YtcdgjgoplogiiaaDoorUq
namespace Go.Proofs.YtcdgjgoplogiiaaDoor.PT
open Go.RowKit Go.Lib
set_option linter.unusedVariables false
set_option linter.unusedSimpArgs false
set_option maxRecDepth 100000 in
set_option maxHeartbeats 8000000 in
theorem unary_par (d : Nat) (hr : ExprP d) (b g c : Nat) (ts : List Tok) (q : PS) (dp : Nat) (w : World) (hdp : dp + d = 40) (hts : Toks ts) (h : PM w b g c ts q dp) (hi0 : isp ts ⟨#[126]⟩ q = false) (hi : isp ts ⟨#[40]⟩ q = true) :
    Calls Tryd.prog 105 #[.pointer (some ⟨b, 0, none⟩)] w (EPost w b g c ts (unaryp ts (exprp ts d) q) dp) := by
  have e1 : unaryp ts (exprp ts d) q = ((exprp ts d 0 (adv q)).1, wantp ts ⟨#[41]⟩ (exprp ts d 0 (adv q)).2) := by unfold unaryp; rw [if_neg (by rw [hi0]; decide), if_pos hi]
  obtain ⟨t, ht⟩ : ∃ t, t = nxt ts q := ⟨_, rfl⟩
  obtain ⟨res, hres⟩ : ∃ res, res = unaryp ts (exprp ts d) q := ⟨_, rfl⟩
  rw [← hres]
  rw [← hres] at e1
  have HRES := Lib.hid e1
  obtain ⟨w0, hw0⟩ : ∃ w0, w0 = w.alloc (.cells z31 TE) := ⟨_, rfl⟩
  have hp0 : PT w b g c ts q dp w0 := by rw [hw0]; exact PT.alloc ⟨h, gb_refl _ _⟩ _
  have hR : w0.heap[w.heap.size]? = some (.cells z31 TE (0, 0)) := by rw [hw0]; exact blk_new _ _
  have hn := next_calls b g c ts q dp hts w0 hp0.1
  rw [← ht] at hn
  have HN := Lib.hid hn
  have HW := Lib.hid hw0
  have HP0 := Lib.hid hp0
  have HR := Lib.hid hR
  have HTN := Lib.hid (take_no (x := ⟨#[126]⟩) (dp := dp) (b := b) (g := g) (c := c) hts hi0)
  have HTK := Lib.hid (take_yes (x := ⟨#[40]⟩) (dp := dp) (b := b) (g := g) (c := c) hts hi)
  have HT := Lib.hid hts
  have HREC := Lib.hid hr
  clear hn hw0 hp0 hR hts hr h hi hi0 ht e1 hres
  go_enter Tryd.func105, Tryd.ntmps105
  go_wp2_with fail
  rw [← HW.out]
  refine HN.out.mono ?_
  rintro e w1 ⟨rfl, hb1⟩
  have HP2 : Hid (PT w b g c ts q dp (w1.alloc (.cells (tokA t) TK))) := Lib.hid ((HP0.out.trans (PT.of HP0.out.1 hb1)).alloc _)
  have HR2 : Hid ((w1.alloc (.cells (tokA t) TK)).heap[w.heap.size]? = some (.cells z31 TE (0, 0))) := Lib.hid (blk_alloc (blk_below HR.out hb1) _)
  have HT2 : Hid ((w1.alloc (.cells (tokA t) TK)).heap[w1.heap.size]? = some (.cells (tokA t) TK (0, 0))) := Lib.hid (blk_new _ _)
  have hne : w1.heap.size ≠ w.heap.size := by have := lt_heap (blk_below HR.out hb1); omega
  clear hb1
  have HM2 : Hid (PM (w1.alloc (.cells (tokA t) TK)) b g c ts q dp) := Lib.hid HP2.out.1
  go_wp2_with fail
  refine (HTN.out _ HM2.out).mono ?_
  rintro e w3 ⟨rfl, hp3⟩
  have HP3 := Lib.hid hp3
  have HR3 := Lib.hid (blk_pm HP2.out.1 HP3.out.2 HR2.out (by decide))
  clear hp3
  go_wp2_with fail
  refine (HTK.out _ HP3.out.1).mono ?_
  rintro e w4 ⟨rfl, hp4⟩
  have HP4 := Lib.hid hp4
  have HR4 := Lib.hid (blk_pm HP3.out.1 HP4.out.2 HR3.out (by decide))
  clear hp4
  go_wp2_with fail
  refine (HREC.out 0 b g c ts (adv q) dp w4 (by decide) (by decide) hdp HT.out HP4.out.1).mono ?_
  rintro e w5 ⟨y, rfl, hat, hp5⟩
  have HP5 := Lib.hid hp5
  have HAT := Lib.hid hat
  have HR5 := Lib.hid (blk_pm HP4.out.1 HP5.out.2 HR4.out (by decide))
  clear hat hp5
  go_wp2_with fail
  refine (want_calls b g c ts (exprp ts d 0 (adv q)).2 dp HT.out ⟨#[41]⟩ (w5.alloc (.cells y.cells.toArray TE)) (HP5.out.1.alloc _)).mono ?_
  rintro e w6 ⟨rfl, hp6⟩
  have HP6 := Lib.hid hp6
  have HE6 := Lib.hid (blk_pm (HP5.out.1.alloc _) hp6.2 (blk_new w5 (.cells y.cells.toArray TE)) (by decide))
  have HR6 := Lib.hid (blk_pm (HP5.out.1.alloc _) hp6.2 (blk_alloc HR5.out (.cells y.cells.toArray TE)) (by decide))
  have HAT6 := Lib.hid ((HAT.out.alloc (.cells y.cells.toArray TE)).gb (HP5.out.1.alloc _) hp6.2)
  clear hp6
  obtain ⟨y0, y1, y2, y3, y4, y5⟩ := cells6 (x := y) HE6.out
  obtain ⟨z0, z1, z2, z3, z4, z5⟩ := cells6 (x := ze) HR6.out
  obtain ⟨l0, l1, l2, l3, l4, l5⟩ := free6 HR6.out
  go_wp2
  have hB : (set6 w6 w.heap.size y).heap[w.heap.size]? = some (.cells y.cells.toArray TE (0, 0)) := set6_blk (y := ze) HR6.out _
  obtain ⟨r0, r1, r2, r3, r4, r5⟩ := cells6 hB
  have k3 := lt_heap HR3.out
  have k4 := lt_heap HR4.out
  show bodyPost _ _ _ _ _ (set6 w6 w.heap.size y)
  generalize hW : set6 w6 w.heap.size y = W9 at r0 r1 r2 r3 r4 r5 ⊢
  refine bodyPost_ret (v := EV.val y) (by simp [results, Tryd.results105, go_sem, r0, r1, r2, r3, r4, r5]) rfl ?_
  rw [HRES.out, ← hW]
  refine ⟨y, rfl, ?_, ?_⟩
  · exact HAT6.out.mono (P' := fun k => w.heap.size ≤ k) (fun k hk _ => by omega) fun k hk _ => set6_far _ _ _ _ (by omega)
  · exact ((((HP2.out.trans HP3.out).trans HP4.out).trans (HP5.out.alloc _)).trans HP6.out).set6 HR6.out (Nat.le_refl _) _
end Go.Proofs.YtcdgjgoplogiiaaDoor.PT
