/- (*parser).unary. -/
import Derived.Test.YtcdgjgoplogiiaaDoorUq
namespace Go.Proofs.YtcdgjgoplogiiaaDoor.PT
open Go.RowKit Go.Lib
set_option linter.unusedVariables false
set_option linter.unusedSimpArgs false
set_option maxRecDepth 100000 in
set_option maxHeartbeats 8000000 in
theorem unary_not (d : Nat) (hr : ExprP d) (b g c : Nat) (ts : List Tok) (q : PS) (dp : Nat) (w : World) (hdp : dp + d = 40) (hts : Toks ts) (h : PM w b g c ts q dp) (hi : isp ts ⟨#[126]⟩ q = true) :
    Calls Tryd.prog 105 #[.pointer (some ⟨b, 0, none⟩)] w (EPost w b g c ts (unaryp ts (exprp ts d) q) dp) := by
  have e1 : unaryp ts (exprp ts d) q = (.not (exprp ts d 9 (adv q)).1 (nxt ts q).p, (exprp ts d 9 (adv q)).2) := by unfold unaryp; rw [if_pos hi]
  obtain ⟨t, ht⟩ : ∃ t, t = nxt ts q := ⟨_, rfl⟩
  obtain ⟨res, hres⟩ : ∃ res, res = unaryp ts (exprp ts d) q := ⟨_, rfl⟩
  rw [← hres]
  rw [← hres, ← ht] at e1
  have HRES := Lib.hid e1
  obtain ⟨w0, hw0⟩ : ∃ w0, w0 = w.alloc (.cells z31 TE) := ⟨_, rfl⟩
  have hp0 : PT w b g c ts q dp w0 := by rw [hw0]; exact PT.alloc ⟨h, gb_refl _ _⟩ _
  have hR : w0.heap[w.heap.size]? = some (.cells z31 TE (0, 0)) := by rw [hw0]; exact blk_new _ _
  have hn := next_calls b g c ts q dp hts w0 hp0.1
  rw [← ht] at hn
  have HN := Lib.hid hn
  have HW := Lib.hid hw0
  have HP0 := Lib.hid hp0
  have HR := Lib.hid hR
  have HTK := Lib.hid (take_yes (x := ⟨#[126]⟩) (dp := dp) (b := b) (g := g) (c := c) hts hi)
  have HT := Lib.hid hts
  have HREC := Lib.hid hr
  clear hn hw0 hp0 hR hts hr h hi ht e1 hres
  go_enter Tryd.func105, Tryd.ntmps105
  go_wp2_with fail
  rw [← HW.out]
  refine HN.out.mono ?_
  rintro e w1 ⟨rfl, hb1⟩
  have HP2 : Hid (PT w b g c ts q dp (w1.alloc (.cells (tokA t) TK))) := Lib.hid ((HP0.out.trans (PT.of HP0.out.1 hb1)).alloc _)
  have HR2 : Hid ((w1.alloc (.cells (tokA t) TK)).heap[w.heap.size]? = some (.cells z31 TE (0, 0))) := Lib.hid (blk_alloc (blk_below HR.out hb1) _)
  have HT2 : Hid ((w1.alloc (.cells (tokA t) TK)).heap[w1.heap.size]? = some (.cells (tokA t) TK (0, 0))) := Lib.hid (blk_new _ _)
  have hne : w1.heap.size ≠ w.heap.size := by have := lt_heap (blk_below HR.out hb1); omega
  clear hb1
  go_wp2_with (go_at_call 55; refine (HTK.out _ HP2.out.1).mono ?_; rintro e w3 ⟨rfl, hp3⟩; have HP3 := Lib.hid hp3; clear hp3; have hT3 := blk_pm HP2.out.1 HP3.out.2 HT2.out (by decide); have t3 : w3.cell? ⟨w1.heap.size, 3, none⟩ = some (.int .i64 t.p) := (blk_cell hT3 3).trans rfl; have HT3 := Lib.hid hT3; clear hT3)
  have HR3 := Lib.hid (blk_pm HP2.out.1 HP3.out.2 HR2.out (by decide))
  go_region_held3 (fun w' => w'.cell? ⟨w1.heap.size, 3, none⟩ = some (.int .i64 t.p))
    (first
      | with_reducible exact t3
      | with_reducible exact t4
      | with_reducible exact cell_al t4 _
      | with_reducible exact cell_al (keepT hne t4) _
      | with_reducible exact cell_dr t3)
    (first
      | (go_at_call 82; refine (HREC.out 9 b g c ts (adv q) dp w3.drew (by decide) (by decide) hdp HT.out (HP3.out.1.keep fun _ _ => rfl)).mono ?_; rintro e w4 ⟨y, rfl, hat, hp4⟩; have HP4 : Hid (PT w3 b g c ts (exprp ts d 9 (adv q)).2 dp w4) := Lib.hid ⟨hp4.1, ⟨hp4.2.os, hp4.2.tape, hp4.2.output, hp4.2.size, hp4.2.block⟩⟩; have HAT : Hid (At (exprp ts d 9 (adv q)).1 (fun k => w3.heap.size ≤ k) w4 y) := Lib.hid hat; clear hat hp4; have t4 : w4.cell? ⟨w1.heap.size, 3, none⟩ = some (.int .i64 t.p) := (blk_cell (blk_pm HP3.out.1 HP4.out.2 HT3.out (by decide)) 3).trans rfl; have HR4 := Lib.hid (blk_pm HP3.out.1 HP4.out.2 HR3.out (by decide)); have hl4 : w.heap.size < w4.heap.size := lt_heap HR4.out; obtain ⟨z0, z1, z2, z3, z4, z5⟩ := cells6 (x := ze) HR4.out; obtain ⟨l0, l1, l2, l3, l4, l5⟩ := free6 HR4.out))
  clear t3 t4 z0 z1 z2 z3 z4 z5 l0 l1 l2 l3 l4 l5 hl4 hne
  rename_i hh
  clear hh
  obtain ⟨W9, hW9⟩ : ∃ W9, W9 = ((set6 w4 w.heap.size ⟨4, 0, ⟨#[]⟩, 0, some ⟨w4.heap.size, 0, none⟩, 1, 1, t.p⟩).alloc (.cells y.cells.toArray TE)) := ⟨_, rfl⟩
  have HW9 := Lib.hid hW9
  show Exit.then _ _ _ _ (((set6 w4 w.heap.size ⟨4, 0, ⟨#[]⟩, 0, some ⟨w4.heap.size, 0, none⟩, 1, 1, t.p⟩).alloc (.cells y.cells.toArray TE)))
  rw [← hW9]
  clear hW9
  go_wp2
  have hB : W9.heap[w.heap.size]? = some (.cells (EV.cells ⟨4, 0, ⟨#[]⟩, 0, some ⟨w4.heap.size, 0, none⟩, 1, 1, t.p⟩).toArray TE (0, 0)) := by rw [HW9.out]; exact blk_alloc (set6_blk (y := ze) HR4.out _) _
  obtain ⟨r0, r1, r2, r3, r4, r5⟩ := cells6 hB
  refine bodyPost_ret (v := EV.val ⟨4, 0, ⟨#[]⟩, 0, some ⟨w4.heap.size, 0, none⟩, 1, 1, t.p⟩) (by simp [results, Tryd.results105, go_sem, r0, r1, r2, r3, r4, r5]) rfl ?_
  have l1 := lt_heap HR3.out
  have l2 := lt_heap HR4.out
  rw [HRES.out]
  refine ⟨_, rfl, ⟨w4.heap.size, 1, y, by omega, Nat.le_refl _, rfl, ?_, ?_⟩, ?_⟩
  · rw [HW9.out]
    have := blk_new (set6 w4 w.heap.size ⟨4, 0, ⟨#[]⟩, 0, some ⟨w4.heap.size, 0, none⟩, 1, 1, t.p⟩) (.cells y.cells.toArray TE)
    rw [set6_size] at this
    simpa using Row.of this
  · rw [HW9.out]
    exact (HAT.out.mono (P' := fun k => w.heap.size ≤ k) (fun k hk _ => by omega) fun k hk _ => set6_far _ _ _ _ (by omega)).alloc _
  · rw [HW9.out]
    exact (((HP2.out.trans HP3.out).trans HP4.out).set6 HR4.out (Nat.le_refl _) _).alloc _
end Go.Proofs.YtcdgjgoplogiiaaDoor.PT
