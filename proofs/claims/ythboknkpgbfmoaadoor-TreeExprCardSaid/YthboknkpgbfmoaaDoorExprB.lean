/- The contract of tree.Expr at binary expressions. -/
import Derived.Test.YthboknkpgbfmoaaDoorExpr
import Derived.Deep.RegionWith
namespace Go.Proofs.YthboknkpgbfmoaaDoor.PQ
open Go.RowKit Go.Lib Go.Proofs.YthboknkpgbfmoaaDoorW.PrintWords
set_option linter.unusedVariables false
set_option maxHeartbeats 6000000 in
theorem expr_bin (o : Nat) (a b : Tree) (iha : ExprSays a) (ihb : ExprSays b) : ExprSays (.bin o a b) := by
  intro x B w tight hat hok hbd ht h0 h1
  obtain ⟨g, y1, y2, hg, rfl, hr, ha, hb⟩ := hat
  have ho : o < 10 := hok.1
  obtain ⟨tb0, tb1⟩ := tight_bd o
  have tp := tight_pos o ho
  have z1 := txt_size a hok.2.1 (tightOf o)
  have z2 := txt_size b hok.2.2 (tightOf o + 1)
  simp only [bd] at hbd
  have hs1 : (txt a (tightOf o)).size ≤ 1000000 := by omega
  have hs2 : (txt b (tightOf o + 1)).size ≤ 1000000 := by omega
  have hgl := lt_heap hr
  obtain ⟨r1, hr1⟩ : ∃ r, r = txt a (tightOf o) := ⟨_, rfl⟩
  obtain ⟨r2, hr2⟩ : ∃ r, r = txt b (tightOf o + 1) := ⟨_, rfl⟩
  have K1 := fun (w1 : World) (hw : Below w.heap.size w w1) => Lib.hid (iha y1 B w1 (tightOf o) (ha.below hw) hok.2.1 (by omega) (ht.below hw) (by omega) (by omega))
  have K2 := fun (w1 : World) (hw : Below w.heap.size w w1) => Lib.hid (ihb y2 B w1 (tightOf o + 1) (hb.below hw) hok.2.2 (by omega) (ht.below hw) (by omega) (by omega))
  rw [← hr1] at hs1 K1
  rw [← hr2] at hs2 K2
  obtain ⟨tt, htt⟩ : ∃ tt, tt = tightOf o := ⟨_, rfl⟩
  rw [← htt] at tb0 tb1 tp K1 K2 hr1 hr2
  have HK1 := Lib.hid K1
  have HK2 := Lib.hid K2
  have HE := Lib.hid hr
  have HR1 := Lib.hid hr1
  have HR2 := Lib.hid hr2
  have HTT := Lib.hid htt
  have hsg := sign_sz o
  obtain ⟨sg, hsgg⟩ : ∃ sg, sg = signOf o := ⟨_, rfl⟩
  rw [← hsgg] at hsg
  have HSG := Lib.hid hsgg
  clear ht hok hbd hr ha hb z1 z2 hr1 hr2 K1 K2 htt hsgg
  have HX := Lib.hid (blk_new w (row1 ⟨3, o, ⟨#[]⟩, 0, some ⟨g, 0, none⟩, 2⟩))
  have HB := Lib.hid ((Below.refl w.heap.size w).alloc (Nat.le_refl _) (row1 ⟨3, o, ⟨#[]⟩, 0, some ⟨g, 0, none⟩, 2⟩))
  go_enter Tryd.func7, Tryd.ntmps7
  go_wp2_with fail
  refine (tight_calls o ho _).mono ?_
  rintro e w1 ⟨rfl, hb1⟩
  rw [← HTT.out]
  have HX1 := Lib.hid (blk_below HX.out hb1)
  have HB1 := Lib.hid (HB.out.trans (hb1.mono (by simp)))
  clear hb1
  have HKID1 : Hid (∀ w', Below w1.heap.size w1 w' → Calls Tryd.prog 13 #[.int .i64 0, .int .i64 tt, .pointer (some ⟨w.heap.size, 0, none⟩)] w' (Says w' r1)) := Lib.hid fun w' hw =>
    kid_calls w.heap.size g 0 2 (by omega) ⟨3, o, ⟨#[]⟩, 0, some ⟨g, 0, none⟩, 2⟩ y1 tt r1 w' ((blk_cell (blk_below HX1.out hw) 4).trans rfl) (by omega) (Row2.elem (blk_below (blk_below HE.out HB1.out) hw)).1 (HK1.out w' (HB1.out.trans (hw.mono HB1.out.size)))
  have HKID2 : Hid (∀ w', Below w1.heap.size w1 w' → Calls Tryd.prog 13 #[.int .i64 1, .int .i64 (tt + 1), .pointer (some ⟨w.heap.size, 0, none⟩)] w' (Says w' r2)) := Lib.hid fun w' hw =>
    kid_calls w.heap.size g 1 2 (by omega) ⟨3, o, ⟨#[]⟩, 0, some ⟨g, 0, none⟩, 2⟩ y2 (tt + 1) r2 w' ((blk_cell (blk_below HX1.out hw) 4).trans rfl) (by omega) (Row2.elem (blk_below (blk_below HE.out HB1.out) hw)).2 (HK2.out w' (HB1.out.trans (hw.mono HB1.out.size)))
  have z0 : w1.cell? ⟨w.heap.size, 0, none⟩ = some (.int .i64 3) := (blk_cell HX1.out 0).trans rfl
  have z1 : w1.cell? ⟨w.heap.size, 1, none⟩ = some (.int .i64 o) := (blk_cell HX1.out 1).trans rfl
  have HC := Lib.hid z1
  go_wp2_with fail
  clear z0
  have o0 : (0 : Int) ≤ (o : Int) := by omega
  have o1 : (o : Int) < 10 := by omega
  have q1 : ¬ (9223372036854775807 < r1.size + 1) := by omega
  have q2 : ¬ (9223372036854775807 < r1.size + 1 + sg.size) := by omega
  have q3 : ¬ (9223372036854775807 < r1.size + 1 + sg.size + 1) := by omega
  have q4 : ¬ (9223372036854775807 < r1.size + 1 + sg.size + 1 + r2.size) := by omega
  have q5 : IntKind.i64.wrap (tt + 1) = tt + 1 := IntWalk.i64_in _ (by omega)
  have hB0 : Below w1.heap.size w1 w1 := Below.refl _ _
  go_region_with (first
      | ((go_at_call 16); refine (signs_calls _).mono ?_; rintro e w' ⟨gs, rfl, hgs, hrow, hbz0⟩; have hbz := Below.trans (by assumption : Below w1.heap.size w1 _) (hbz0.mono (Below.size (by assumption : Below w1.heap.size w1 _))); have zz := (hbz.cell (World.block_lt_of_cell? w1 _ HC.out)).trans HC.out; have hsc : World.cell? w' ⟨gs, o, none⟩ = some (.string sg) := (sign_cell hrow o ho).trans (by rw [HSG.out]); clear hbz0 hrow hgs)
      | ((go_at_call 13); (with_reducible refine (HKID1.out _ (by first | assumption | exact (Below.refl _ _).drew)).mono ?_); rintro e w' ⟨rfl, hbz0⟩; have hbz := Below.trans (by first | assumption | exact (Below.refl _ _).drew : Below w1.heap.size w1 _) (hbz0.mono (Below.size (by first | assumption | exact (Below.refl _ _).drew : Below w1.heap.size w1 _))); have zz := (hbz.cell (World.block_lt_of_cell? w1 _ HC.out)).trans HC.out; clear hbz0)
      | ((go_at_call 13); (with_reducible refine (HKID2.out _ (by assumption)).mono ?_); rintro e w' ⟨rfl, hbz0⟩; have hbz := Below.trans (by assumption : Below w1.heap.size w1 _) (hbz0.mono (Below.size (by assumption : Below w1.heap.size w1 _))); have zz := (hbz.cell (World.block_lt_of_cell? w1 _ HC.out)).trans HC.out; (try (have hsc2 := (Below.cell hbz0 (World.block_lt_of_cell? _ _ hsc)).trans hsc)); clear hbz0))
  all_goals
    clear q1 q2 q3 q4 q5
    by_cases hlt : tt < tight
    · go_wp2
      go_ret
      refine ⟨?_, HB1.out.trans (Below.mono (by assumption) HB1.out.size)⟩
      have e : txt (.bin o a b) tight = ⟨#[40]⟩ ++ bare o (txt a (tightOf o)) (txt b (tightOf o + 1)) ++ ⟨#[41]⟩ := if_pos (by rw [← HTT.out]; omega)
      rw [e, ← HTT.out, ← HR1.out, ← HR2.out]
      unfold bare
      rw [← HSG.out]
      rfl
    · go_wp2
      go_ret
      refine ⟨?_, HB1.out.trans (Below.mono (by assumption) HB1.out.size)⟩
      have e : txt (.bin o a b) tight = bare o (txt a (tightOf o)) (txt b (tightOf o + 1)) := if_neg (by rw [← HTT.out]; omega)
      rw [e, ← HTT.out, ← HR1.out, ← HR2.out]
      unfold bare
      rw [← HSG.out]
      rfl

theorem expr_all (t : Tree) : ExprSays t := by
  induction t with
  | lit v => exact expr_lit v
  | name s => exact expr_name s
  | cell s a ih => exact expr_cell s a ih
  | not a ih => exact expr_not a ih
  | pick a b c iha ihb ihc => exact expr_pick a b c iha ihb ihc
  | bin o a b iha ihb => exact expr_bin o a b iha ihb
#print axioms expr_all
end Go.Proofs.YthboknkpgbfmoaaDoor.PQ
