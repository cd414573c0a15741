-- Written by a program of this session (wip/tools/extprint.py, pr.sh).
import Derived.Test.YtcgnbknbnbgcmaaDoorQGoodP
namespace Go.Proofs.YtcgnbknbnbgcmaaDoor.PQ
open Go.RowKit Go.Proofs.YtcgnbknbnbgcmaaDoorW.PrintWords Go.Proofs.YtcgnbknbnbgcmaaDoorW.PrintLast Go.Proofs.YtcgnbknbnbgcmaaDoorW.PrintMore
attribute [local go_sem] max2_int min2_int max_two min_two max_three min_three max_four min_four   -- for this text's walks alone
set_option linter.unusedVariables false
set_option linter.unusedSimpArgs false

set_option maxHeartbeats 8000000 in
set_option maxRecDepth 100000 in
theorem tautochronelaw12_CodeGood.calls (k : Nat) (A0 : Option Addr) (c0 : Nat) (l0 : List (S26)) (r : Bool) (w : World) (hr0 : Kd.C k26 w A0 l0.length l0) (hc0 : l0.length ≤ c0) (h : tautochronelaw12_CodeGood.f k l0 = some r) :
  Calls Tryd.prog 5 #[.slice A0 l0.length c0] w fun e w' => e = .returned (.bool r) ∧ Below w.heap.size w w' := by
 have hu26 := Tryd.underlying26
 have HR0 := Aside0.mk hr0
 have HC0 := Aside0.mk hc0
 clear hr0 hc0
 have HB := Aside0.mk (Below.refl w.heap.size w)
 have H : ((tautochronelaw12_awake.f k).bind fun t239 => (if t239 = true then (if (l0.length : Int) > 100 then (some true) else (if (l0.length : Int) > 0 then (if 0 ≤ (wrap64 ((l0.length : Int) - 1)) then (if (wrap64 ((l0.length : Int) - 1)) < (l0.length : Int) then (if ((rd_T26 l0 (wrap64 ((l0.length : Int) - 1))).f0) = 13 then (tautochronelaw12_CodeGood.j0 k l0 true) else (tautochronelaw12_CodeGood.j0 k l0 (((rd_T26 l0 (wrap64 ((l0.length : Int) - 1))).f0) == 6))) else (none)) else (none)) else (tautochronelaw12_CodeGood.j0 k l0 false))) else (some false))) = some r := h
 clear h
 replace H := Option.bind_eq_some_iff.mp H
 obtain ⟨t239, A20, H⟩ := H
 replace H : (if t239 = true then (if (l0.length : Int) > 100 then (some true) else (if (l0.length : Int) > 0 then (if 0 ≤ (wrap64 ((l0.length : Int) - 1)) then (if (wrap64 ((l0.length : Int) - 1)) < (l0.length : Int) then (if ((rd_T26 l0 (wrap64 ((l0.length : Int) - 1))).f0) = 13 then (tautochronelaw12_CodeGood.j0 k l0 true) else (tautochronelaw12_CodeGood.j0 k l0 (((rd_T26 l0 (wrap64 ((l0.length : Int) - 1))).f0) == 6))) else (none)) else (none)) else (tautochronelaw12_CodeGood.j0 k l0 false))) else (some false)) = some r := H
 have A2 := Aside0.mk A20
 clear A20
 by_cases c3 : t239 = true
 ·subst c3
  have H1 : (if (l0.length : Int) > 100 then (some true) else (if (l0.length : Int) > 0 then (if 0 ≤ (wrap64 ((l0.length : Int) - 1)) then (if (wrap64 ((l0.length : Int) - 1)) < (l0.length : Int) then (if ((rd_T26 l0 (wrap64 ((l0.length : Int) - 1))).f0) = 13 then (tautochronelaw12_CodeGood.j0 k l0 true) else (tautochronelaw12_CodeGood.j0 k l0 (((rd_T26 l0 (wrap64 ((l0.length : Int) - 1))).f0) == 6))) else (none)) else (none)) else (tautochronelaw12_CodeGood.j0 k l0 false))) = some r := by rw [if_pos rfl] at H; exact H
  clear H
  have H := H1
  clear H1
  by_cases c4 : (l0.length : Int) > 100
  ·rw [if_pos c4] at H
   have c4b0 : decide (100 < (l0.length : Int)) = true := decide_eq_true c4
   have c4b1 : decide (100 < l0.length) = true := decide_eq_true (by omega)
   clear c4
   obtain rfl := Option.some.inj H
   go_enter Tryd.func5, Tryd.ntmps5
   go_wp2_with (first | ((with_reducible refine gate_callee (f := 8) rfl ?_); refine goesL_ (some 11) rfl rfl Tryd.func8 (by kernel_rfl) rfl #[] rfl (by (try simp only [List.map_toArray, List.map_cons, List.map_nil]); first | done | rfl | (simp only [List.length_drop, List.length_take]; rfl)) ?_; (with_reducible refine (tautochronelaw12_awake.calls k  true _ A2.out).mono ?_); rintro e w5 ⟨rfl, hb⟩; refine ⟨_, rfl, ?_⟩; have n0_ := Aside0.mk (below_step (by repeat (first | (with_reducible first | exact HB.out | apply below_alloc | apply pw_below_drewN | apply below_drew1) | exact HB.out)) hb); clear HB; have HB := n0_; clear n0_; (try clear hb); (try clear hb2); (try clear hk); (try clear hi)))
   go_ret
   exact ⟨by first | rfl | (simp [errW_none, errW_some] <;> rfl) | (simp [*, errW_none, errW_some] <;> rfl), by repeat (first | (with_reducible first | exact HB.out | apply below_alloc | apply pw_below_drewN | apply below_drew1) | exact HB.out)⟩
  ·rw [if_neg c4] at H
   have c4b0 : decide (100 < (l0.length : Int)) = false := decide_eq_false c4
   have c4b1 : decide (100 < l0.length) = false := decide_eq_false (by omega)
   clear c4
   have HC6 := Aside0.mk H
   clear H
   go_enter Tryd.func5, Tryd.ntmps5
   go_upto_region 5 with (first | ((with_reducible refine gate_callee (f := 8) rfl ?_); refine goesL_ (some 11) rfl rfl Tryd.func8 (by kernel_rfl) rfl #[] rfl (by (try simp only [List.map_toArray, List.map_cons, List.map_nil]); first | done | rfl | (simp only [List.length_drop, List.length_take]; rfl)) ?_; (with_reducible refine (tautochronelaw12_awake.calls k  true _ A2.out).mono ?_); rintro e w7 ⟨rfl, hb⟩; refine ⟨_, rfl, ?_⟩; have n0_ := Aside0.mk (below_step (by repeat (first | (with_reducible first | exact HB.out | apply below_alloc | apply pw_below_drewN | apply below_drew1) | exact HB.out)) hb); clear HB; have HB := n0_; clear n0_; (try clear hb); (try clear hb2); (try clear hk); (try clear hi)))
   (try simp only [Act.put, List.setIfInBounds_toArray, List.set_cons_zero, List.set_cons_succ])
   go_cut [3] (fun v3 wc => ∃ (kq : Nat) (x3_5 : Bool), v3 = .bool x3_5 ∧ Aside0 (tautochronelaw12_CodeGood.j0 kq l0 x3_5 = some r) ∧ Aside0 (kq ≤ k) ∧ Aside0 (Below w.heap.size w wc))
   case first =>
    have H := HC6.out
    clear HC6
    by_cases c8 : (l0.length : Int) > 0
    ·rw [if_pos c8] at H
     have c8b0 : decide (0 < (l0.length : Int)) = true := decide_eq_true c8
     have c8b1 : decide (0 < l0.length) = true := decide_eq_true (by omega)
     clear c8
     (first | rw [c8b0] | (simp only [i64_w, i32_w]; rw [c8b0]) | skip)
     obtain ⟨ji9, hji9⟩ : ∃ j_ : Int, (wrap64 ((l0.length : Int) - 1)) = j_ := ⟨_, rfl⟩
     replace H : (if 0 ≤ (ji9) then (if (ji9) < (l0.length : Int) then (if ((rd_T26 l0 (ji9)).f0) = 13 then (tautochronelaw12_CodeGood.j0 k l0 true) else (tautochronelaw12_CodeGood.j0 k l0 (((rd_T26 l0 (ji9)).f0) == 6))) else (none)) else (none)) = some r := by first | (rw [hji9] at H; exact H) | (simp only [hji9] at H ⊢; exact H)
     have hji9w : (IntKind.i64.wrap ((l0.length : Int) - 1)) = ji9 := (i64_w _).trans hji9
     by_cases c10 : 0 ≤ (ji9)
     rotate_left
     ·rw [if_neg c10] at H; exact absurd H (by simp)
     rw [if_pos c10] at H
     have c10b0 : decide (0 ≤ (ji9)) = true := decide_eq_true c10
     clear c10
     by_cases c11 : (ji9) < (l0.length : Int)
     rotate_left
     ·rw [if_neg c11] at H; exact absurd H (by simp)
     rw [if_pos c11] at H
     have c11b0 : decide ((ji9) < (l0.length : Int)) = true := decide_eq_true c11
     clear c11
     by_cases c12 : ((rd_T26 l0 (ji9)).f0) = 13
     ·rw [if_pos c12] at H
      have c12b0 : (((rd_T26 l0 (ji9)).f0) == 13) = true := beq_iff_eq.mpr c12
      have c12b1 : (((rd_T26 l0 (ji9)).f0) != 13) = false := bne_eq_false_iff_eq.mpr c12
      clear c12
      have H' := Aside0.mk H
      clear H
      have p240 : 0 ≤ ((ji9) : Int) := of_decide_eq_true (by first | (with_reducible assumption) | assumption)
      have q240 : (ji9) < (l0.length : Int) := of_decide_eq_true (by first | (with_reducible assumption) | assumption)
      obtain ⟨ad240, e240, hx240_0, hx240_1, hx240_2, hx240_3, hx240_4, hx240_5, hx240_6, hx240_7⟩ := at_T26 HR0.out (ji9) p240 q240
      cases e240
      replace hx240_0 := (HB.out.cell (World.block_lt_of_cell? w _ hx240_0)).trans hx240_0
      replace hx240_1 := (HB.out.cell (World.block_lt_of_cell? w _ hx240_1)).trans hx240_1
      replace hx240_2 := (HB.out.cell (World.block_lt_of_cell? w _ hx240_2)).trans hx240_2
      replace hx240_3 := (HB.out.cell (World.block_lt_of_cell? w _ hx240_3)).trans hx240_3
      replace hx240_4 := (HB.out.cell (World.block_lt_of_cell? w _ hx240_4)).trans hx240_4
      replace hx240_5 := (HB.out.cell (World.block_lt_of_cell? w _ hx240_5)).trans hx240_5
      replace hx240_6 := (HB.out.cell (World.block_lt_of_cell? w _ hx240_6)).trans hx240_6
      replace hx240_7 := (HB.out.cell (World.block_lt_of_cell? w _ hx240_7)).trans hx240_7
      replace p240 := eq_true p240
      replace q240 := eq_true q240
      go_wp2
      go_meet
      case rel => exact ⟨_, (true), (by first | rfl | (simp; done) | (simp [*]; done)), H', ⟨by first | omega | exact Nat.le_refl _⟩, ⟨by repeat (first | (with_reducible first | exact HB.out | apply below_alloc | apply pw_below_drewN | apply below_drew1) | exact HB.out)⟩⟩
     ·rw [if_neg c12] at H
      have c12b0 : (((rd_T26 l0 (ji9)).f0) == 13) = false := beq_eq_false_iff_ne.mpr c12
      have c12b1 : (((rd_T26 l0 (ji9)).f0) != 13) = true := bne_iff_ne.mpr c12
      have H' := Aside0.mk H
      clear H
      have p240 : 0 ≤ ((ji9) : Int) := of_decide_eq_true (by first | (with_reducible assumption) | assumption)
      have q240 : (ji9) < (l0.length : Int) := of_decide_eq_true (by first | (with_reducible assumption) | assumption)
      obtain ⟨ad240, e240, hx240_0, hx240_1, hx240_2, hx240_3, hx240_4, hx240_5, hx240_6, hx240_7⟩ := at_T26 HR0.out (ji9) p240 q240
      cases e240
      replace hx240_0 := (HB.out.cell (World.block_lt_of_cell? w _ hx240_0)).trans hx240_0
      replace hx240_1 := (HB.out.cell (World.block_lt_of_cell? w _ hx240_1)).trans hx240_1
      replace hx240_2 := (HB.out.cell (World.block_lt_of_cell? w _ hx240_2)).trans hx240_2
      replace hx240_3 := (HB.out.cell (World.block_lt_of_cell? w _ hx240_3)).trans hx240_3
      replace hx240_4 := (HB.out.cell (World.block_lt_of_cell? w _ hx240_4)).trans hx240_4
      replace hx240_5 := (HB.out.cell (World.block_lt_of_cell? w _ hx240_5)).trans hx240_5
      replace hx240_6 := (HB.out.cell (World.block_lt_of_cell? w _ hx240_6)).trans hx240_6
      replace hx240_7 := (HB.out.cell (World.block_lt_of_cell? w _ hx240_7)).trans hx240_7
      replace p240 := eq_true p240
      replace q240 := eq_true q240
      have p241 : 0 ≤ ((ji9) : Int) := of_decide_eq_true (by first | (with_reducible assumption) | assumption)
      have q241 : (ji9) < (l0.length : Int) := of_decide_eq_true (by first | (with_reducible assumption) | assumption)
      obtain ⟨ad241, e241, hx241_0, hx241_1, hx241_2, hx241_3, hx241_4, hx241_5, hx241_6, hx241_7⟩ := at_T26 HR0.out (ji9) p241 q241
      obtain rfl : ad240 = ad241 := (by injection e241)
      replace hx241_0 := (HB.out.cell (World.block_lt_of_cell? w _ hx241_0)).trans hx241_0
      replace hx241_1 := (HB.out.cell (World.block_lt_of_cell? w _ hx241_1)).trans hx241_1
      replace hx241_2 := (HB.out.cell (World.block_lt_of_cell? w _ hx241_2)).trans hx241_2
      replace hx241_3 := (HB.out.cell (World.block_lt_of_cell? w _ hx241_3)).trans hx241_3
      replace hx241_4 := (HB.out.cell (World.block_lt_of_cell? w _ hx241_4)).trans hx241_4
      replace hx241_5 := (HB.out.cell (World.block_lt_of_cell? w _ hx241_5)).trans hx241_5
      replace hx241_6 := (HB.out.cell (World.block_lt_of_cell? w _ hx241_6)).trans hx241_6
      replace hx241_7 := (HB.out.cell (World.block_lt_of_cell? w _ hx241_7)).trans hx241_7
      replace p241 := eq_true p241
      replace q241 := eq_true q241
      go_wp2
      go_meet
      case rel => exact ⟨_, ((((rd_T26 l0 (ji9)).f0) == 6)), (by first | rfl | (simp; done) | (simp only [← hji9] <;> (first | rfl | simp)) | (simp [*]; done)), H', ⟨by first | omega | exact Nat.le_refl _⟩, ⟨by repeat (first | (with_reducible first | exact HB.out | apply below_alloc | apply pw_below_drewN | apply below_drew1) | exact HB.out)⟩⟩
    ·rw [if_neg c8] at H
     have c8b0 : decide (0 < (l0.length : Int)) = false := decide_eq_false c8
     have c8b1 : decide (0 < l0.length) = false := decide_eq_false (by omega)
     clear c8
     (first | rw [c8b0] | (simp only [i64_w, i32_w]; rw [c8b0]) | skip)
     have H' := Aside0.mk H
     clear H
     go_wp2
     go_meet
     case rel => exact ⟨_, (false), (by first | rfl | (simp; done) | (simp [*]; done)), H', ⟨by first | omega | exact Nat.le_refl _⟩, ⟨by repeat (first | (with_reducible first | exact HB.out | apply below_alloc | apply pw_below_drewN | apply below_drew1) | exact HB.out)⟩⟩
   case rest =>
    clear HC6
    try clear c1
    try clear p2
    try clear q2
    try clear hx2
    try clear c3
    try clear c4
    try clear c4b0
    try clear c4b1
    try clear c5
    try clear p6
    try clear c8
    try clear c8b0
    try clear c8b1
    try clear c10
    try clear c10b0
    try clear c11
    try clear c11b0
    try clear c12
    try clear c12b0
    try clear c12b1
    try clear hx240_0
    try clear hx240_1
    try clear hx240_2
    try clear hx240_3
    try clear hx240_4
    try clear hx240_5
    try clear hx240_6
    try clear hx240_7
    try clear hx241_0
    try clear hx241_1
    try clear hx241_2
    try clear hx241_3
    try clear hx241_4
    try clear hx241_5
    try clear hx241_6
    try clear hx241_7
    try clear p240
    try clear p241
    try clear q240
    try clear q241
    obtain ⟨kq, x3_5, rfl, HA, HJ5, HB⟩ := hcut
    cases kq with
    | zero => exact absurd HA.out (by simp [tautochronelaw12_CodeGood.j0])
    | succ kj5 =>
     have H := HA.out
     clear HA
     simp only [tautochronelaw12_CodeGood.j0] at H
     have H' := Aside0.mk H
     clear H
     go_wp2
     go_loopg [3, 4, 41] kj5 (fun kq v3 v4 v41 w' => ∃ (x3_2 : Bool) (x4_2 : Int) (x41_2 : Int), v3 = .bool x3_2 ∧ v4 = .int .i64 x4_2 ∧ v41 = .int .i64 x41_2 ∧ Aside0 (tautochronelaw12_CodeGood.l0 kq l0 x3_2 x4_2 l0 (l0.length : Int) x41_2 = some r) ∧ Aside0 (kq ≤ kj5) ∧ Aside0 (Below w.heap.size w w'))
     case atStart => exact ⟨(x3_5), (0), (0), (by first | rfl | (simp; done) | (simp [*]; done)), (by first | rfl | (simp; done) | (simp [*]; done)), (by first | rfl | (simp; done) | (simp [*]; done)), H', ⟨Nat.le_refl _⟩, ⟨by repeat (first | (with_reducible first | exact HB.out | apply below_alloc | apply pw_below_drewN | apply below_drew1) | exact HB.out)⟩⟩
     case round =>
      clear H'
      try clear c1
      try clear p2
      try clear q2
      try clear hx2
      try clear c3
      try clear c4
      try clear c4b0
      try clear c4b1
      try clear c5
      try clear p6
      try clear c8
      try clear c8b0
      try clear c8b1
      try clear c10
      try clear c10b0
      try clear c11
      try clear c11b0
      try clear c12
      try clear c12b0
      try clear c12b1
      try clear hx240_0
      try clear hx240_1
      try clear hx240_2
      try clear hx240_3
      try clear hx240_4
      try clear hx240_5
      try clear hx240_6
      try clear hx240_7
      try clear hx241_0
      try clear hx241_1
      try clear hx241_2
      try clear hx241_3
      try clear hx241_4
      try clear hx241_5
      try clear hx241_6
      try clear hx241_7
      try clear p2
      try clear p240
      try clear p241
      try clear p6
      try clear q2
      try clear q240
      try clear q241
      obtain ⟨x3_2, x4_2, x41_2, rfl, rfl, rfl, HA, HK2, HB⟩ := hrel
      cases gk with
      | zero => exact absurd HA.out (by simp [tautochronelaw12_CodeGood.l0])
      | succ k2 =>
       have H := HA.out
       clear HA
       simp only [tautochronelaw12_CodeGood.l0] at H
       by_cases c13 : x41_2 < (l0.length : Int)
       ·rw [if_pos c13] at H
        have c13b0 : decide (x41_2 < (l0.length : Int)) = true := decide_eq_true c13
        clear c13
        by_cases c14 : 0 ≤ x41_2
        rotate_left
        ·rw [if_neg c14] at H; exact absurd H (by simp)
        rw [if_pos c14] at H
        have c14b0 : decide (0 ≤ x41_2) = true := decide_eq_true c14
        clear c14
        by_cases c15 : x41_2 < (l0.length : Int)
        rotate_left
        ·rw [if_neg c15] at H; exact absurd H (by simp)
        rw [if_pos c15] at H
        have c15b0 : decide (x41_2 < (l0.length : Int)) = true := decide_eq_true c15
        clear c15
        have HC16 := Aside0.mk H
        clear H
        have p244 : 0 ≤ (x41_2 : Int) := of_decide_eq_true (by first | (with_reducible assumption) | assumption)
        have q244 : x41_2 < (l0.length : Int) := of_decide_eq_true (by first | (with_reducible assumption) | assumption)
        obtain ⟨ad244, e244, hx244_0, hx244_1, hx244_2, hx244_3, hx244_4, hx244_5, hx244_6, hx244_7⟩ := at_T26 HR0.out x41_2 p244 q244
        cases e244
        replace hx244_0 := (HB.out.cell (World.block_lt_of_cell? w _ hx244_0)).trans hx244_0
        replace hx244_1 := (HB.out.cell (World.block_lt_of_cell? w _ hx244_1)).trans hx244_1
        replace hx244_2 := (HB.out.cell (World.block_lt_of_cell? w _ hx244_2)).trans hx244_2
        replace hx244_3 := (HB.out.cell (World.block_lt_of_cell? w _ hx244_3)).trans hx244_3
        replace hx244_4 := (HB.out.cell (World.block_lt_of_cell? w _ hx244_4)).trans hx244_4
        replace hx244_5 := (HB.out.cell (World.block_lt_of_cell? w _ hx244_5)).trans hx244_5
        replace hx244_6 := (HB.out.cell (World.block_lt_of_cell? w _ hx244_6)).trans hx244_6
        replace hx244_7 := (HB.out.cell (World.block_lt_of_cell? w _ hx244_7)).trans hx244_7
        replace p244 := eq_true p244
        replace q244 := eq_true q244
        go_upto_region 10 with (first | ((with_reducible refine gate_dst (N := 6) rfl ?_); (try (refine gate_guard (by rfl) ?_; dsimp only)); refine box_event ?hg (N := 6) ?hd (cs := #[.int .i64 0, .int .i64 0, .int .i64 0, .int .i64 0, .int .i64 0, .int .i64 0, .int .u64 0, .int .i64 0]) (t := 26) ?hr ?_; (case hd => rfl); (case hg => rfl); (case hr => first | (go_simp; done) | (go_simp; rfl)); intro gb245 hg w17 hbox hb; have n0_ := Aside0.mk (below_step (by repeat (first | (with_reducible first | exact HB.out | apply below_alloc | apply pw_below_drewN | apply below_drew1) | exact HB.out)) hb); have n1_ := Aside0.mk (hbox); have n2_ := Aside0.mk ((by rw [hg]; exact (below_size (by repeat (first | (with_reducible first | exact HB.out | apply below_alloc | apply pw_below_drewN | apply below_drew1) | exact HB.out))) : w.heap.size ≤ gb245)); have n3_ := Aside0.mk ((by rw [hg]; exact (below_size (by repeat (first | (with_reducible first | exact HB.out | apply below_alloc | apply pw_below_drewN | apply below_drew1) | exact HB.out))) : w.heap.size ≤ gb245)); clear HB; have HB := n0_; have BK245 := n1_; have GW245 := n2_; have GE245 := n3_; clear n0_ n1_ n2_ n3_; clear hb hbox hg; have hcz18_0 : w17.cell? ⟨gb245, 0, none⟩ = some (.int .i64 0) := (blk_cell BK245.out 0).trans rfl; have hcz18_1 : w17.cell? ⟨gb245, 1, none⟩ = some (.int .i64 0) := (blk_cell BK245.out 1).trans rfl; have hcz18_2 : w17.cell? ⟨gb245, 2, none⟩ = some (.int .i64 0) := (blk_cell BK245.out 2).trans rfl; have hcz18_3 : w17.cell? ⟨gb245, 3, none⟩ = some (.int .i64 0) := (blk_cell BK245.out 3).trans rfl; have hcz18_4 : w17.cell? ⟨gb245, 4, none⟩ = some (.int .i64 0) := (blk_cell BK245.out 4).trans rfl; have hcz18_5 : w17.cell? ⟨gb245, 5, none⟩ = some (.int .i64 0) := (blk_cell BK245.out 5).trans rfl; have hcz18_6 : w17.cell? ⟨gb245, 6, none⟩ = some (.int .u64 0) := (blk_cell BK245.out 6).trans rfl; have hcz18_7 : w17.cell? ⟨gb245, 7, none⟩ = some (.int .i64 0) := (blk_cell BK245.out 7).trans rfl; have hfz18_0 := blk_frozen BK245.out 0; have hfz18_1 := blk_frozen BK245.out 1; have hfz18_2 := blk_frozen BK245.out 2; have hfz18_3 := blk_frozen BK245.out 3; have hfz18_4 := blk_frozen BK245.out 4; have hfz18_5 := blk_frozen BK245.out 5; have hfz18_6 := blk_frozen BK245.out 6; have hfz18_7 := blk_frozen BK245.out 7))
        (try simp only [Act.put, List.setIfInBounds_toArray, List.set_cons_zero, List.set_cons_succ])
        go_cut [103] (fun v103 wc => ∃ (kq : Nat) (x103_15 : Bool), v103 = .bool x103_15 ∧ Aside0 (tautochronelaw12_CodeGood.j2 kq l0 x3_2 x4_2 l0 (l0.length : Int) x41_2 x103_15 ((rd_T26 l0 x41_2).f0) ((rd_T26 l0 x41_2).f1) ((rd_T26 l0 x41_2).f2) ((rd_T26 l0 x41_2).f3) ((rd_T26 l0 x41_2).f4) ((rd_T26 l0 x41_2).f5) ((rd_T26 l0 x41_2).f6) ((rd_T26 l0 x41_2).f7) = some r) ∧ Aside0 (kq ≤ k2) ∧ Aside0 (wc.heap[gb245]? = some (.cells #[.int .i64 ((rd_T26 l0 x41_2).f0), .int .i64 ((rd_T26 l0 x41_2).f1), .int .i64 ((rd_T26 l0 x41_2).f2), .int .i64 ((rd_T26 l0 x41_2).f3), .int .i64 ((rd_T26 l0 x41_2).f4), .int .i64 ((rd_T26 l0 x41_2).f5), .int .u64 ((rd_T26 l0 x41_2).f6), .int .i64 ((rd_T26 l0 x41_2).f7)] 26 (0, 0))) ∧ Aside0 (Below w.heap.size w wc))
        case first =>
         exact tautochronelaw12_CodeGood.piece1 k c0 l0 r w hu26 HC0 A2 _ u11 u12 u13 u14 u15 u16 u17 u18 u19 u20 u21 u22 u23 u24 u25 u26 u27 u28 u29 u30 u31 u32 u33 u34 u35 u36 u37 u38 u161 u162 u163 u164 u165 u166 u167 u168 u169 u170 kj5 HJ5 _ wr u2 u8 u10 u42 u43 u44 u45 u46 u47 u48 u49 u50 u51 u52 u53 u54 u55 u56 u57 u58 u59 u60 u61 u62 u63 u64 u65 u66 u67 u68 u69 u70 u71 u72 u73 u74 u75 u76 u77 u78 u79 u80 u81 u82 u83 u84 u85 u86 u87 u88 u89 u90 u91 u92 u93 u94 u95 u96 u97 u98 u99 u100 u101 u102 u103 u104 u105 u106 u107 u108 u109 u110 u111 u112 u113 u114 u115 u116 u117 u118 u119 u120 u121 u122 u123 u124 u125 u126 u127 u128 u129 u130 u131 u132 u133 u134 u135 u136 u137 u138 u139 u140 u141 u142 u143 u144 u145 u146 u147 u148 u149 u150 u151 u152 u153 u154 u155 u156 u157 u158 u159 u160 _ x3_2 x4_2 x41_2 k2 HK2 c13b0 c14b0 c15b0 HC16 ad244 HR0 hx244_0 hx244_1 hx244_2 hx244_3 hx244_4 hx244_5 hx244_6 hx244_7 p244 q244 _ gb245 w17 HB BK245 GW245 GE245 hcz18_0 hcz18_1 hcz18_2 hcz18_3 hcz18_4 hcz18_5 hcz18_6 hcz18_7 hfz18_0 hfz18_1 hfz18_2 hfz18_3 hfz18_4 hfz18_5 hfz18_6 hfz18_7 _ _ _ (by assumption) (by assumption)
        case rest =>
         clear HC16
         try clear c1
         try clear c2
         try clear p2
         try clear c4
         try clear c5
         try clear c6
         try clear c7
         try clear c8
         try clear c9
         try clear c10
         try clear c23
         try clear c23b0
         try clear c23b1
         try clear c44
         try clear c44b0
         try clear c44b1
         try clear c45
         try clear c47
         try clear c47b0
         try clear c50
         try clear c51
         try clear c51b0
         try clear c61
         try clear c62
         try clear c62b0
         try clear c71
         try clear c71b0
         try clear c71b1
         try clear c72
         try clear c72b0
         try clear c74
         try clear c74b0
         try clear c77
         try clear c78
         try clear c78b0
         try clear c87
         try clear c87b0
         try clear c87b1
         try clear c88
         try clear c88b0
         try clear c90
         try clear c90b0
         try clear c93
         try clear c94
         try clear c94b0
         try clear c104
         try clear c105
         try clear c105b0
         obtain ⟨kq, x103_15, rfl, HA, HJ15, BK245, HB⟩ := hcut
         cases kq with
         | zero => exact absurd HA.out (by simp [tautochronelaw12_CodeGood.j2])
         | succ kj15 =>
          have H := HA.out
          clear HA
          simp only [tautochronelaw12_CodeGood.j2] at H
          have HC114 := Aside0.mk H
          clear H
          go_upto_if 103 with (fail)
          go_cut [3] (fun v3 wc => ∃ (kq : Nat) (x3_113 : Bool), v3 = .bool x3_113 ∧ Aside0 (tautochronelaw12_CodeGood.j3 kq l0 x3_113 x4_2 l0 (l0.length : Int) x41_2 ((rd_T26 l0 x41_2).f0) ((rd_T26 l0 x41_2).f1) ((rd_T26 l0 x41_2).f2) ((rd_T26 l0 x41_2).f3) ((rd_T26 l0 x41_2).f4) ((rd_T26 l0 x41_2).f5) ((rd_T26 l0 x41_2).f6) ((rd_T26 l0 x41_2).f7) = some r) ∧ Aside0 (kq ≤ kj15) ∧ Aside0 (wc.heap[gb245]? = some (.cells #[.int .i64 ((rd_T26 l0 x41_2).f0), .int .i64 ((rd_T26 l0 x41_2).f1), .int .i64 ((rd_T26 l0 x41_2).f2), .int .i64 ((rd_T26 l0 x41_2).f3), .int .i64 ((rd_T26 l0 x41_2).f4), .int .i64 ((rd_T26 l0 x41_2).f5), .int .u64 ((rd_T26 l0 x41_2).f6), .int .i64 ((rd_T26 l0 x41_2).f7)] 26 (0, 0))) ∧ Aside0 (Below w.heap.size w wc))
          case first =>
           have H := HC114.out
           clear HC114
           by_cases c115 : x103_15 = true
           ·subst c115
            have H1 : (tautochronelaw12_CodeGood.j3 kj15 l0 false x4_2 l0 (l0.length : Int) x41_2 ((rd_T26 l0 x41_2).f0) ((rd_T26 l0 x41_2).f1) ((rd_T26 l0 x41_2).f2) ((rd_T26 l0 x41_2).f3) ((rd_T26 l0 x41_2).f4) ((rd_T26 l0 x41_2).f5) ((rd_T26 l0 x41_2).f6) ((rd_T26 l0 x41_2).f7)) = some r := by rw [if_pos rfl] at H; exact H
            clear H
            have H := H1
            clear H1
            have H' := Aside0.mk H
            clear H
            go_wp2
            go_meet
            case rel => exact ⟨_, (false), (by first | rfl | (simp; done) | (simp [*]; done)), H', ⟨by have := HJ5.out; have := HK2.out; have := HJ15.out; first | omega | exact Nat.le_refl _⟩, ⟨by (with_reducible repeat (first | refine blk_drewN ?_ _ | refine blk_drew ?_ | refine blk_alloc ?_ _)); exact BK245.out⟩, ⟨by repeat (first | (with_reducible first | exact HB.out | apply below_alloc | apply pw_below_drewN | apply below_drew1 | refine below_set ?_ GE245.out) | exact HB.out)⟩⟩
           ·replace c115 := Bool.eq_false_iff.mpr c115
            subst c115
            have H1 : (tautochronelaw12_CodeGood.j3 kj15 l0 x3_2 x4_2 l0 (l0.length : Int) x41_2 ((rd_T26 l0 x41_2).f0) ((rd_T26 l0 x41_2).f1) ((rd_T26 l0 x41_2).f2) ((rd_T26 l0 x41_2).f3) ((rd_T26 l0 x41_2).f4) ((rd_T26 l0 x41_2).f5) ((rd_T26 l0 x41_2).f6) ((rd_T26 l0 x41_2).f7)) = some r := by rw [if_neg (show ¬ (false = true) by decide)] at H; exact H
            clear H
            have H := H1
            clear H1
            have H' := Aside0.mk H
            clear H
            go_wp2
            go_meet
            case rel => exact ⟨_, (x3_2), (by first | rfl | (simp; done) | (simp [*]; done)), H', ⟨by have := HJ5.out; have := HK2.out; have := HJ15.out; first | omega | exact Nat.le_refl _⟩, ⟨by (with_reducible repeat (first | refine blk_drewN ?_ _ | refine blk_drew ?_ | refine blk_alloc ?_ _)); exact BK245.out⟩, ⟨by repeat (first | (with_reducible first | exact HB.out | apply below_alloc | apply pw_below_drewN | apply below_drew1 | refine below_set ?_ GE245.out) | exact HB.out)⟩⟩
          case rest =>
           clear HC114
           try clear c1
           try clear c2
           try clear p2
           try clear c4
           try clear c5
           try clear c6
           try clear c7
           try clear c8
           try clear c9
           try clear c10
           try clear c11
           try clear c23
           try clear c23b0
           try clear c23b1
           try clear c44
           try clear c44b0
           try clear c44b1
           try clear c45
           try clear c47
           try clear c47b0
           try clear c50
           try clear c51
           try clear c51b0
           try clear c61
           try clear c62
           try clear c62b0
           try clear c71
           try clear c71b0
           try clear c71b1
           try clear c72
           try clear c72b0
           try clear c74
           try clear c74b0
           try clear c77
           try clear c78
           try clear c78b0
           try clear c87
           try clear c87b0
           try clear c87b1
           try clear c88
           try clear c88b0
           try clear c90
           try clear c90b0
           try clear c93
           try clear c94
           try clear c94b0
           try clear c104
           try clear c105
           try clear c105b0
           try clear c115
           try clear p2
           obtain ⟨kq, x3_113, rfl, HA, HJ113, BK245, HB⟩ := hcut
           cases kq with
           | zero => exact absurd HA.out (by simp [tautochronelaw12_CodeGood.j3])
           | succ kj113 =>
            have H := HA.out
            clear HA
            simp only [tautochronelaw12_CodeGood.j3] at H
            have HC116 := Aside0.mk H
            clear H
            go_upto_region 12 with (fail)
            go_cut [116] (fun v116 wc => ∃ (kq : Nat) (x116_115 : Bool), v116 = .bool x116_115 ∧ Aside0 (tautochronelaw12_CodeGood.j4 kq l0 x3_113 x4_2 l0 (l0.length : Int) x41_2 x116_115 ((rd_T26 l0 x41_2).f0) ((rd_T26 l0 x41_2).f1) ((rd_T26 l0 x41_2).f2) ((rd_T26 l0 x41_2).f3) ((rd_T26 l0 x41_2).f4) ((rd_T26 l0 x41_2).f5) ((rd_T26 l0 x41_2).f6) ((rd_T26 l0 x41_2).f7) = some r) ∧ Aside0 (kq ≤ kj113) ∧ Aside0 (wc.heap[gb245]? = some (.cells #[.int .i64 ((rd_T26 l0 x41_2).f0), .int .i64 ((rd_T26 l0 x41_2).f1), .int .i64 ((rd_T26 l0 x41_2).f2), .int .i64 ((rd_T26 l0 x41_2).f3), .int .i64 ((rd_T26 l0 x41_2).f4), .int .i64 ((rd_T26 l0 x41_2).f5), .int .u64 ((rd_T26 l0 x41_2).f6), .int .i64 ((rd_T26 l0 x41_2).f7)] 26 (0, 0))) ∧ Aside0 (Below w.heap.size w wc))
            case first =>
             have H := HC116.out
             clear HC116
             replace H := Option.bind_eq_some_iff.mp H
             obtain ⟨t252, A1170, H⟩ := H
             replace H : (if t252 = true then (if ((rd_T26 l0 x41_2).f2) ≥ x4_2 then (tautochronelaw12_CodeGood.j4 kj113 l0 x3_113 x4_2 l0 (l0.length : Int) x41_2 (decide (((rd_T26 l0 x41_2).f2) < 4611686018427387904)) ((rd_T26 l0 x41_2).f0) ((rd_T26 l0 x41_2).f1) ((rd_T26 l0 x41_2).f2) ((rd_T26 l0 x41_2).f3) ((rd_T26 l0 x41_2).f4) ((rd_T26 l0 x41_2).f5) ((rd_T26 l0 x41_2).f6) ((rd_T26 l0 x41_2).f7)) else (tautochronelaw12_CodeGood.j4 kj113 l0 x3_113 x4_2 l0 (l0.length : Int) x41_2 false ((rd_T26 l0 x41_2).f0) ((rd_T26 l0 x41_2).f1) ((rd_T26 l0 x41_2).f2) ((rd_T26 l0 x41_2).f3) ((rd_T26 l0 x41_2).f4) ((rd_T26 l0 x41_2).f5) ((rd_T26 l0 x41_2).f6) ((rd_T26 l0 x41_2).f7))) else (tautochronelaw12_CodeGood.j4 kj113 l0 x3_113 x4_2 l0 (l0.length : Int) x41_2 false ((rd_T26 l0 x41_2).f0) ((rd_T26 l0 x41_2).f1) ((rd_T26 l0 x41_2).f2) ((rd_T26 l0 x41_2).f3) ((rd_T26 l0 x41_2).f4) ((rd_T26 l0 x41_2).f5) ((rd_T26 l0 x41_2).f6) ((rd_T26 l0 x41_2).f7))) = some r := H
             have A117 := Aside0.mk A1170
             clear A1170
             by_cases c118 : t252 = true
             ·subst c118
              have H1 : (if ((rd_T26 l0 x41_2).f2) ≥ x4_2 then (tautochronelaw12_CodeGood.j4 kj113 l0 x3_113 x4_2 l0 (l0.length : Int) x41_2 (decide (((rd_T26 l0 x41_2).f2) < 4611686018427387904)) ((rd_T26 l0 x41_2).f0) ((rd_T26 l0 x41_2).f1) ((rd_T26 l0 x41_2).f2) ((rd_T26 l0 x41_2).f3) ((rd_T26 l0 x41_2).f4) ((rd_T26 l0 x41_2).f5) ((rd_T26 l0 x41_2).f6) ((rd_T26 l0 x41_2).f7)) else (tautochronelaw12_CodeGood.j4 kj113 l0 x3_113 x4_2 l0 (l0.length : Int) x41_2 false ((rd_T26 l0 x41_2).f0) ((rd_T26 l0 x41_2).f1) ((rd_T26 l0 x41_2).f2) ((rd_T26 l0 x41_2).f3) ((rd_T26 l0 x41_2).f4) ((rd_T26 l0 x41_2).f5) ((rd_T26 l0 x41_2).f6) ((rd_T26 l0 x41_2).f7))) = some r := by rw [if_pos rfl] at H; exact H
              clear H
              have H := H1
              clear H1
              by_cases c119 : ((rd_T26 l0 x41_2).f2) ≥ x4_2
              ·rw [if_pos c119] at H
               have c119b0 : decide (x4_2 ≤ ((rd_T26 l0 x41_2).f2)) = true := decide_eq_true c119
               clear c119
               (first | rw [c119b0] | (simp only [i64_w, i32_w]; rw [c119b0]) | skip)
               have H' := Aside0.mk H
               clear H
               have hcz120_0 : wc.cell? ⟨gb245, 0, none⟩ = some (.int .i64 ((rd_T26 l0 x41_2).f0)) := (blk_cell BK245.out 0).trans rfl
               have hcz120_1 : wc.cell? ⟨gb245, 1, none⟩ = some (.int .i64 ((rd_T26 l0 x41_2).f1)) := (blk_cell BK245.out 1).trans rfl
               have hcz120_2 : wc.cell? ⟨gb245, 2, none⟩ = some (.int .i64 ((rd_T26 l0 x41_2).f2)) := (blk_cell BK245.out 2).trans rfl
               have hcz120_3 : wc.cell? ⟨gb245, 3, none⟩ = some (.int .i64 ((rd_T26 l0 x41_2).f3)) := (blk_cell BK245.out 3).trans rfl
               have hcz120_4 : wc.cell? ⟨gb245, 4, none⟩ = some (.int .i64 ((rd_T26 l0 x41_2).f4)) := (blk_cell BK245.out 4).trans rfl
               have hcz120_5 : wc.cell? ⟨gb245, 5, none⟩ = some (.int .i64 ((rd_T26 l0 x41_2).f5)) := (blk_cell BK245.out 5).trans rfl
               have hcz120_6 : wc.cell? ⟨gb245, 6, none⟩ = some (.int .u64 ((rd_T26 l0 x41_2).f6)) := (blk_cell BK245.out 6).trans rfl
               have hcz120_7 : wc.cell? ⟨gb245, 7, none⟩ = some (.int .i64 ((rd_T26 l0 x41_2).f7)) := (blk_cell BK245.out 7).trans rfl
               have hfz120_0 := blk_frozen BK245.out 0
               have hfz120_1 := blk_frozen BK245.out 1
               have hfz120_2 := blk_frozen BK245.out 2
               have hfz120_3 := blk_frozen BK245.out 3
               have hfz120_4 := blk_frozen BK245.out 4
               have hfz120_5 := blk_frozen BK245.out 5
               have hfz120_6 := blk_frozen BK245.out 6
               have hfz120_7 := blk_frozen BK245.out 7
               go_wp2_with (first | ((with_reducible refine gate_callee (f := 11) rfl ?_); refine goesL_ (some 105) rfl rfl Tryd.func11 (by kernel_rfl) rfl #[.agg #[.int .i64 ((rd_T26 l0 x41_2).f0), .int .i64 ((rd_T26 l0 x41_2).f1), .int .i64 ((rd_T26 l0 x41_2).f2), .int .i64 ((rd_T26 l0 x41_2).f3), .int .i64 ((rd_T26 l0 x41_2).f4), .int .i64 ((rd_T26 l0 x41_2).f5), .int .u64 ((rd_T26 l0 x41_2).f6), .int .i64 ((rd_T26 l0 x41_2).f7)]] rfl (by (try simp only [List.map_toArray, List.map_cons, List.map_nil]); first | done | rfl | (simp only [List.length_drop, List.length_take]; rfl)) ?_; (with_reducible refine (tautochronelaw12_sets.calls ((rd_T26 l0 x41_2).f0) ((rd_T26 l0 x41_2).f1) ((rd_T26 l0 x41_2).f2) ((rd_T26 l0 x41_2).f3) ((rd_T26 l0 x41_2).f4) ((rd_T26 l0 x41_2).f5) ((rd_T26 l0 x41_2).f6) ((rd_T26 l0 x41_2).f7) true _ A117.out).mono ?_); rintro e w121 ⟨rfl, hb⟩; refine ⟨_, rfl, ?_⟩; have n0_ := Aside0.mk (blk_below (g := gb245) (o := .cells #[.int .i64 ((rd_T26 l0 x41_2).f0), .int .i64 ((rd_T26 l0 x41_2).f1), .int .i64 ((rd_T26 l0 x41_2).f2), .int .i64 ((rd_T26 l0 x41_2).f3), .int .i64 ((rd_T26 l0 x41_2).f4), .int .i64 ((rd_T26 l0 x41_2).f5), .int .u64 ((rd_T26 l0 x41_2).f6), .int .i64 ((rd_T26 l0 x41_2).f7)] 26 (0, 0)) (by (with_reducible repeat (first | refine blk_drewN ?_ _ | refine blk_drew ?_ | refine blk_alloc ?_ _)); exact BK245.out) hb); have n1_ := Aside0.mk (below_step (by repeat (first | (with_reducible first | exact HB.out | apply below_alloc | apply pw_below_drewN | apply below_drew1 | refine below_set ?_ GE245.out) | exact HB.out)) hb); clear BK245; clear HB; have BK245 := n0_; have HB := n1_; clear n0_ n1_; (try clear hb); (try clear hb2); (try clear hk); (try clear hi); have hcz122_0 : w121.cell? ⟨gb245, 0, none⟩ = some (.int .i64 ((rd_T26 l0 x41_2).f0)) := (blk_cell BK245.out 0).trans rfl; have hcz122_1 : w121.cell? ⟨gb245, 1, none⟩ = some (.int .i64 ((rd_T26 l0 x41_2).f1)) := (blk_cell BK245.out 1).trans rfl; have hcz122_2 : w121.cell? ⟨gb245, 2, none⟩ = some (.int .i64 ((rd_T26 l0 x41_2).f2)) := (blk_cell BK245.out 2).trans rfl; have hcz122_3 : w121.cell? ⟨gb245, 3, none⟩ = some (.int .i64 ((rd_T26 l0 x41_2).f3)) := (blk_cell BK245.out 3).trans rfl; have hcz122_4 : w121.cell? ⟨gb245, 4, none⟩ = some (.int .i64 ((rd_T26 l0 x41_2).f4)) := (blk_cell BK245.out 4).trans rfl; have hcz122_5 : w121.cell? ⟨gb245, 5, none⟩ = some (.int .i64 ((rd_T26 l0 x41_2).f5)) := (blk_cell BK245.out 5).trans rfl; have hcz122_6 : w121.cell? ⟨gb245, 6, none⟩ = some (.int .u64 ((rd_T26 l0 x41_2).f6)) := (blk_cell BK245.out 6).trans rfl; have hcz122_7 : w121.cell? ⟨gb245, 7, none⟩ = some (.int .i64 ((rd_T26 l0 x41_2).f7)) := (blk_cell BK245.out 7).trans rfl; have hfz122_0 := blk_frozen BK245.out 0; have hfz122_1 := blk_frozen BK245.out 1; have hfz122_2 := blk_frozen BK245.out 2; have hfz122_3 := blk_frozen BK245.out 3; have hfz122_4 := blk_frozen BK245.out 4; have hfz122_5 := blk_frozen BK245.out 5; have hfz122_6 := blk_frozen BK245.out 6; have hfz122_7 := blk_frozen BK245.out 7))
               go_meet
               case rel => exact ⟨_, (decide (((rd_T26 l0 x41_2).f2) < 4611686018427387904)), (by first | rfl | (simp; done) | (simp [*]; done)), H', ⟨by have := HJ5.out; have := HK2.out; have := HJ15.out; have := HJ113.out; first | omega | exact Nat.le_refl _⟩, ⟨by (with_reducible repeat (first | refine blk_drewN ?_ _ | refine blk_drew ?_ | refine blk_alloc ?_ _)); exact BK245.out⟩, ⟨by repeat (first | (with_reducible first | exact HB.out | apply below_alloc | apply pw_below_drewN | apply below_drew1 | refine below_set ?_ GE245.out) | exact HB.out)⟩⟩
              ·rw [if_neg c119] at H
               have c119b0 : decide (x4_2 ≤ ((rd_T26 l0 x41_2).f2)) = false := decide_eq_false c119
               clear c119
               (first | rw [c119b0] | (simp only [i64_w, i32_w]; rw [c119b0]) | skip)
               have H' := Aside0.mk H
               clear H
               have hcz123_0 : wc.cell? ⟨gb245, 0, none⟩ = some (.int .i64 ((rd_T26 l0 x41_2).f0)) := (blk_cell BK245.out 0).trans rfl
               have hcz123_1 : wc.cell? ⟨gb245, 1, none⟩ = some (.int .i64 ((rd_T26 l0 x41_2).f1)) := (blk_cell BK245.out 1).trans rfl
               have hcz123_2 : wc.cell? ⟨gb245, 2, none⟩ = some (.int .i64 ((rd_T26 l0 x41_2).f2)) := (blk_cell BK245.out 2).trans rfl
               have hcz123_3 : wc.cell? ⟨gb245, 3, none⟩ = some (.int .i64 ((rd_T26 l0 x41_2).f3)) := (blk_cell BK245.out 3).trans rfl
               have hcz123_4 : wc.cell? ⟨gb245, 4, none⟩ = some (.int .i64 ((rd_T26 l0 x41_2).f4)) := (blk_cell BK245.out 4).trans rfl
               have hcz123_5 : wc.cell? ⟨gb245, 5, none⟩ = some (.int .i64 ((rd_T26 l0 x41_2).f5)) := (blk_cell BK245.out 5).trans rfl
               have hcz123_6 : wc.cell? ⟨gb245, 6, none⟩ = some (.int .u64 ((rd_T26 l0 x41_2).f6)) := (blk_cell BK245.out 6).trans rfl
               have hcz123_7 : wc.cell? ⟨gb245, 7, none⟩ = some (.int .i64 ((rd_T26 l0 x41_2).f7)) := (blk_cell BK245.out 7).trans rfl
               have hfz123_0 := blk_frozen BK245.out 0
               have hfz123_1 := blk_frozen BK245.out 1
               have hfz123_2 := blk_frozen BK245.out 2
               have hfz123_3 := blk_frozen BK245.out 3
               have hfz123_4 := blk_frozen BK245.out 4
               have hfz123_5 := blk_frozen BK245.out 5
               have hfz123_6 := blk_frozen BK245.out 6
               have hfz123_7 := blk_frozen BK245.out 7
               go_wp2_with (first | ((with_reducible refine gate_callee (f := 11) rfl ?_); refine goesL_ (some 105) rfl rfl Tryd.func11 (by kernel_rfl) rfl #[.agg #[.int .i64 ((rd_T26 l0 x41_2).f0), .int .i64 ((rd_T26 l0 x41_2).f1), .int .i64 ((rd_T26 l0 x41_2).f2), .int .i64 ((rd_T26 l0 x41_2).f3), .int .i64 ((rd_T26 l0 x41_2).f4), .int .i64 ((rd_T26 l0 x41_2).f5), .int .u64 ((rd_T26 l0 x41_2).f6), .int .i64 ((rd_T26 l0 x41_2).f7)]] rfl (by (try simp only [List.map_toArray, List.map_cons, List.map_nil]); first | done | rfl | (simp only [List.length_drop, List.length_take]; rfl)) ?_; (with_reducible refine (tautochronelaw12_sets.calls ((rd_T26 l0 x41_2).f0) ((rd_T26 l0 x41_2).f1) ((rd_T26 l0 x41_2).f2) ((rd_T26 l0 x41_2).f3) ((rd_T26 l0 x41_2).f4) ((rd_T26 l0 x41_2).f5) ((rd_T26 l0 x41_2).f6) ((rd_T26 l0 x41_2).f7) true _ A117.out).mono ?_); rintro e w124 ⟨rfl, hb⟩; refine ⟨_, rfl, ?_⟩; have n0_ := Aside0.mk (blk_below (g := gb245) (o := .cells #[.int .i64 ((rd_T26 l0 x41_2).f0), .int .i64 ((rd_T26 l0 x41_2).f1), .int .i64 ((rd_T26 l0 x41_2).f2), .int .i64 ((rd_T26 l0 x41_2).f3), .int .i64 ((rd_T26 l0 x41_2).f4), .int .i64 ((rd_T26 l0 x41_2).f5), .int .u64 ((rd_T26 l0 x41_2).f6), .int .i64 ((rd_T26 l0 x41_2).f7)] 26 (0, 0)) (by (with_reducible repeat (first | refine blk_drewN ?_ _ | refine blk_drew ?_ | refine blk_alloc ?_ _)); exact BK245.out) hb); have n1_ := Aside0.mk (below_step (by repeat (first | (with_reducible first | exact HB.out | apply below_alloc | apply pw_below_drewN | apply below_drew1 | refine below_set ?_ GE245.out) | exact HB.out)) hb); clear BK245; clear HB; have BK245 := n0_; have HB := n1_; clear n0_ n1_; (try clear hb); (try clear hb2); (try clear hk); (try clear hi); have hcz125_0 : w124.cell? ⟨gb245, 0, none⟩ = some (.int .i64 ((rd_T26 l0 x41_2).f0)) := (blk_cell BK245.out 0).trans rfl; have hcz125_1 : w124.cell? ⟨gb245, 1, none⟩ = some (.int .i64 ((rd_T26 l0 x41_2).f1)) := (blk_cell BK245.out 1).trans rfl; have hcz125_2 : w124.cell? ⟨gb245, 2, none⟩ = some (.int .i64 ((rd_T26 l0 x41_2).f2)) := (blk_cell BK245.out 2).trans rfl; have hcz125_3 : w124.cell? ⟨gb245, 3, none⟩ = some (.int .i64 ((rd_T26 l0 x41_2).f3)) := (blk_cell BK245.out 3).trans rfl; have hcz125_4 : w124.cell? ⟨gb245, 4, none⟩ = some (.int .i64 ((rd_T26 l0 x41_2).f4)) := (blk_cell BK245.out 4).trans rfl; have hcz125_5 : w124.cell? ⟨gb245, 5, none⟩ = some (.int .i64 ((rd_T26 l0 x41_2).f5)) := (blk_cell BK245.out 5).trans rfl; have hcz125_6 : w124.cell? ⟨gb245, 6, none⟩ = some (.int .u64 ((rd_T26 l0 x41_2).f6)) := (blk_cell BK245.out 6).trans rfl; have hcz125_7 : w124.cell? ⟨gb245, 7, none⟩ = some (.int .i64 ((rd_T26 l0 x41_2).f7)) := (blk_cell BK245.out 7).trans rfl; have hfz125_0 := blk_frozen BK245.out 0; have hfz125_1 := blk_frozen BK245.out 1; have hfz125_2 := blk_frozen BK245.out 2; have hfz125_3 := blk_frozen BK245.out 3; have hfz125_4 := blk_frozen BK245.out 4; have hfz125_5 := blk_frozen BK245.out 5; have hfz125_6 := blk_frozen BK245.out 6; have hfz125_7 := blk_frozen BK245.out 7))
               go_meet
               case rel => exact ⟨_, (false), (by first | rfl | (simp; done) | (simp [*]; done)), H', ⟨by have := HJ5.out; have := HK2.out; have := HJ15.out; have := HJ113.out; first | omega | exact Nat.le_refl _⟩, ⟨by (with_reducible repeat (first | refine blk_drewN ?_ _ | refine blk_drew ?_ | refine blk_alloc ?_ _)); exact BK245.out⟩, ⟨by repeat (first | (with_reducible first | exact HB.out | apply below_alloc | apply pw_below_drewN | apply below_drew1 | refine below_set ?_ GE245.out) | exact HB.out)⟩⟩
             ·replace c118 := Bool.eq_false_iff.mpr c118
              subst c118
              have H1 : (tautochronelaw12_CodeGood.j4 kj113 l0 x3_113 x4_2 l0 (l0.length : Int) x41_2 false ((rd_T26 l0 x41_2).f0) ((rd_T26 l0 x41_2).f1) ((rd_T26 l0 x41_2).f2) ((rd_T26 l0 x41_2).f3) ((rd_T26 l0 x41_2).f4) ((rd_T26 l0 x41_2).f5) ((rd_T26 l0 x41_2).f6) ((rd_T26 l0 x41_2).f7)) = some r := by rw [if_neg (show ¬ (false = true) by decide)] at H; exact H
              clear H
              have H := H1
              clear H1
              have H' := Aside0.mk H
              clear H
              have hcz126_0 : wc.cell? ⟨gb245, 0, none⟩ = some (.int .i64 ((rd_T26 l0 x41_2).f0)) := (blk_cell BK245.out 0).trans rfl
              have hcz126_1 : wc.cell? ⟨gb245, 1, none⟩ = some (.int .i64 ((rd_T26 l0 x41_2).f1)) := (blk_cell BK245.out 1).trans rfl
              have hcz126_2 : wc.cell? ⟨gb245, 2, none⟩ = some (.int .i64 ((rd_T26 l0 x41_2).f2)) := (blk_cell BK245.out 2).trans rfl
              have hcz126_3 : wc.cell? ⟨gb245, 3, none⟩ = some (.int .i64 ((rd_T26 l0 x41_2).f3)) := (blk_cell BK245.out 3).trans rfl
              have hcz126_4 : wc.cell? ⟨gb245, 4, none⟩ = some (.int .i64 ((rd_T26 l0 x41_2).f4)) := (blk_cell BK245.out 4).trans rfl
              have hcz126_5 : wc.cell? ⟨gb245, 5, none⟩ = some (.int .i64 ((rd_T26 l0 x41_2).f5)) := (blk_cell BK245.out 5).trans rfl
              have hcz126_6 : wc.cell? ⟨gb245, 6, none⟩ = some (.int .u64 ((rd_T26 l0 x41_2).f6)) := (blk_cell BK245.out 6).trans rfl
              have hcz126_7 : wc.cell? ⟨gb245, 7, none⟩ = some (.int .i64 ((rd_T26 l0 x41_2).f7)) := (blk_cell BK245.out 7).trans rfl
              have hfz126_0 := blk_frozen BK245.out 0
              have hfz126_1 := blk_frozen BK245.out 1
              have hfz126_2 := blk_frozen BK245.out 2
              have hfz126_3 := blk_frozen BK245.out 3
              have hfz126_4 := blk_frozen BK245.out 4
              have hfz126_5 := blk_frozen BK245.out 5
              have hfz126_6 := blk_frozen BK245.out 6
              have hfz126_7 := blk_frozen BK245.out 7
              go_wp2_with (first | ((with_reducible refine gate_callee (f := 11) rfl ?_); refine goesL_ (some 105) rfl rfl Tryd.func11 (by kernel_rfl) rfl #[.agg #[.int .i64 ((rd_T26 l0 x41_2).f0), .int .i64 ((rd_T26 l0 x41_2).f1), .int .i64 ((rd_T26 l0 x41_2).f2), .int .i64 ((rd_T26 l0 x41_2).f3), .int .i64 ((rd_T26 l0 x41_2).f4), .int .i64 ((rd_T26 l0 x41_2).f5), .int .u64 ((rd_T26 l0 x41_2).f6), .int .i64 ((rd_T26 l0 x41_2).f7)]] rfl (by (try simp only [List.map_toArray, List.map_cons, List.map_nil]); first | done | rfl | (simp only [List.length_drop, List.length_take]; rfl)) ?_; (with_reducible refine (tautochronelaw12_sets.calls ((rd_T26 l0 x41_2).f0) ((rd_T26 l0 x41_2).f1) ((rd_T26 l0 x41_2).f2) ((rd_T26 l0 x41_2).f3) ((rd_T26 l0 x41_2).f4) ((rd_T26 l0 x41_2).f5) ((rd_T26 l0 x41_2).f6) ((rd_T26 l0 x41_2).f7) false _ A117.out).mono ?_); rintro e w127 ⟨rfl, hb⟩; refine ⟨_, rfl, ?_⟩; have n0_ := Aside0.mk (blk_below (g := gb245) (o := .cells #[.int .i64 ((rd_T26 l0 x41_2).f0), .int .i64 ((rd_T26 l0 x41_2).f1), .int .i64 ((rd_T26 l0 x41_2).f2), .int .i64 ((rd_T26 l0 x41_2).f3), .int .i64 ((rd_T26 l0 x41_2).f4), .int .i64 ((rd_T26 l0 x41_2).f5), .int .u64 ((rd_T26 l0 x41_2).f6), .int .i64 ((rd_T26 l0 x41_2).f7)] 26 (0, 0)) (by (with_reducible repeat (first | refine blk_drewN ?_ _ | refine blk_drew ?_ | refine blk_alloc ?_ _)); exact BK245.out) hb); have n1_ := Aside0.mk (below_step (by repeat (first | (with_reducible first | exact HB.out | apply below_alloc | apply pw_below_drewN | apply below_drew1 | refine below_set ?_ GE245.out) | exact HB.out)) hb); clear BK245; clear HB; have BK245 := n0_; have HB := n1_; clear n0_ n1_; (try clear hb); (try clear hb2); (try clear hk); (try clear hi)))
              go_meet
              case rel => exact ⟨_, (false), (by first | rfl | (simp; done) | (simp [*]; done)), H', ⟨by have := HJ5.out; have := HK2.out; have := HJ15.out; have := HJ113.out; first | omega | exact Nat.le_refl _⟩, ⟨by (with_reducible repeat (first | refine blk_drewN ?_ _ | refine blk_drew ?_ | refine blk_alloc ?_ _)); exact BK245.out⟩, ⟨by repeat (first | (with_reducible first | exact HB.out | apply below_alloc | apply pw_below_drewN | apply below_drew1 | refine below_set ?_ GE245.out) | exact HB.out)⟩⟩
            case rest =>
             clear HC116
             try clear c1
             try clear p2
             try clear c8
             try clear c9
             try clear c10
             try clear c11
             try clear c87
             try clear c87b0
             try clear c87b1
             try clear c88
             try clear c88b0
             try clear c90
             try clear c90b0
             try clear c93
             try clear c94
             try clear c94b0
             try clear c104
             try clear c105
             try clear c105b0
             try clear c115
             try clear c118
             try clear c119
             try clear c119b0
             try clear p2
             obtain ⟨kq, x116_115, rfl, HA, HJ115, BK245, HB⟩ := hcut
             cases kq with
             | zero => exact absurd HA.out (by simp [tautochronelaw12_CodeGood.j4])
             | succ kj115 =>
              have H := HA.out
              clear HA
              simp only [tautochronelaw12_CodeGood.j4] at H
              have HC128 := Aside0.mk H
              clear H
              go_upto_if 116 with (fail)
              go_cut [4] (fun v4 wc => ∃ (kq : Nat) (x4_127 : Int), v4 = .int .i64 x4_127 ∧ Aside0 (tautochronelaw12_CodeGood.j5 kq l0 x3_113 x4_127 l0 (l0.length : Int) x41_2 ((rd_T26 l0 x41_2).f0) ((rd_T26 l0 x41_2).f1) ((rd_T26 l0 x41_2).f2) ((rd_T26 l0 x41_2).f3) ((rd_T26 l0 x41_2).f4) ((rd_T26 l0 x41_2).f5) ((rd_T26 l0 x41_2).f6) ((rd_T26 l0 x41_2).f7) = some r) ∧ Aside0 (kq ≤ kj115) ∧ Aside0 (wc.heap[gb245]? = some (.cells #[.int .i64 ((rd_T26 l0 x41_2).f0), .int .i64 ((rd_T26 l0 x41_2).f1), .int .i64 ((rd_T26 l0 x41_2).f2), .int .i64 ((rd_T26 l0 x41_2).f3), .int .i64 ((rd_T26 l0 x41_2).f4), .int .i64 ((rd_T26 l0 x41_2).f5), .int .u64 ((rd_T26 l0 x41_2).f6), .int .i64 ((rd_T26 l0 x41_2).f7)] 26 (0, 0))) ∧ Aside0 (Below w.heap.size w wc))
              case first =>
               have H := HC128.out
               clear HC128
               by_cases c129 : x116_115 = true
               ·subst c129
                have H1 : (tautochronelaw12_CodeGood.j5 kj115 l0 x3_113 (wrap64 (((rd_T26 l0 x41_2).f2) + 1)) l0 (l0.length : Int) x41_2 ((rd_T26 l0 x41_2).f0) ((rd_T26 l0 x41_2).f1) ((rd_T26 l0 x41_2).f2) ((rd_T26 l0 x41_2).f3) ((rd_T26 l0 x41_2).f4) ((rd_T26 l0 x41_2).f5) ((rd_T26 l0 x41_2).f6) ((rd_T26 l0 x41_2).f7)) = some r := by rw [if_pos rfl] at H; exact H
                clear H
                have H := H1
                clear H1
                have H' := Aside0.mk H
                clear H
                have hcz130_0 : wc.cell? ⟨gb245, 0, none⟩ = some (.int .i64 ((rd_T26 l0 x41_2).f0)) := (blk_cell BK245.out 0).trans rfl
                have hcz130_1 : wc.cell? ⟨gb245, 1, none⟩ = some (.int .i64 ((rd_T26 l0 x41_2).f1)) := (blk_cell BK245.out 1).trans rfl
                have hcz130_2 : wc.cell? ⟨gb245, 2, none⟩ = some (.int .i64 ((rd_T26 l0 x41_2).f2)) := (blk_cell BK245.out 2).trans rfl
                have hcz130_3 : wc.cell? ⟨gb245, 3, none⟩ = some (.int .i64 ((rd_T26 l0 x41_2).f3)) := (blk_cell BK245.out 3).trans rfl
                have hcz130_4 : wc.cell? ⟨gb245, 4, none⟩ = some (.int .i64 ((rd_T26 l0 x41_2).f4)) := (blk_cell BK245.out 4).trans rfl
                have hcz130_5 : wc.cell? ⟨gb245, 5, none⟩ = some (.int .i64 ((rd_T26 l0 x41_2).f5)) := (blk_cell BK245.out 5).trans rfl
                have hcz130_6 : wc.cell? ⟨gb245, 6, none⟩ = some (.int .u64 ((rd_T26 l0 x41_2).f6)) := (blk_cell BK245.out 6).trans rfl
                have hcz130_7 : wc.cell? ⟨gb245, 7, none⟩ = some (.int .i64 ((rd_T26 l0 x41_2).f7)) := (blk_cell BK245.out 7).trans rfl
                have hfz130_0 := blk_frozen BK245.out 0
                have hfz130_1 := blk_frozen BK245.out 1
                have hfz130_2 := blk_frozen BK245.out 2
                have hfz130_3 := blk_frozen BK245.out 3
                have hfz130_4 := blk_frozen BK245.out 4
                have hfz130_5 := blk_frozen BK245.out 5
                have hfz130_6 := blk_frozen BK245.out 6
                have hfz130_7 := blk_frozen BK245.out 7
                go_wp2
                go_meet
                case rel => exact ⟨_, (wrap64 (((rd_T26 l0 x41_2).f2) + 1)), (by first | rfl | (simp; done) | (simp [*]; done)), H', ⟨by have := HJ5.out; have := HK2.out; have := HJ15.out; have := HJ113.out; have := HJ115.out; first | omega | exact Nat.le_refl _⟩, ⟨by (with_reducible repeat (first | refine blk_drewN ?_ _ | refine blk_drew ?_ | refine blk_alloc ?_ _)); exact BK245.out⟩, ⟨by repeat (first | (with_reducible first | exact HB.out | apply below_alloc | apply pw_below_drewN | apply below_drew1 | refine below_set ?_ GE245.out) | exact HB.out)⟩⟩
               ·replace c129 := Bool.eq_false_iff.mpr c129
                subst c129
                have H1 : (tautochronelaw12_CodeGood.j5 kj115 l0 x3_113 x4_2 l0 (l0.length : Int) x41_2 ((rd_T26 l0 x41_2).f0) ((rd_T26 l0 x41_2).f1) ((rd_T26 l0 x41_2).f2) ((rd_T26 l0 x41_2).f3) ((rd_T26 l0 x41_2).f4) ((rd_T26 l0 x41_2).f5) ((rd_T26 l0 x41_2).f6) ((rd_T26 l0 x41_2).f7)) = some r := by rw [if_neg (show ¬ (false = true) by decide)] at H; exact H
                clear H
                have H := H1
                clear H1
                have H' := Aside0.mk H
                clear H
                go_wp2
                go_meet
                case rel => exact ⟨_, (x4_2), (by first | rfl | (simp; done) | (simp [*]; done)), H', ⟨by have := HJ5.out; have := HK2.out; have := HJ15.out; have := HJ113.out; have := HJ115.out; first | omega | exact Nat.le_refl _⟩, ⟨by (with_reducible repeat (first | refine blk_drewN ?_ _ | refine blk_drew ?_ | refine blk_alloc ?_ _)); exact BK245.out⟩, ⟨by repeat (first | (with_reducible first | exact HB.out | apply below_alloc | apply pw_below_drewN | apply below_drew1 | refine below_set ?_ GE245.out) | exact HB.out)⟩⟩
              case rest =>
               clear HC128
               try clear c1
               try clear p2
               try clear p6
               try clear c12
               try clear p64
               try clear c129
               try clear p2
               obtain ⟨kq, x4_127, rfl, HA, HJ127, BK245, HB⟩ := hcut
               cases kq with
               | zero => exact absurd HA.out (by simp [tautochronelaw12_CodeGood.j5])
               | succ kj127 =>
                have H := HA.out
                clear HA
                simp only [tautochronelaw12_CodeGood.j5] at H
                replace H := Option.bind_eq_some_iff.mp H
                obtain ⟨t253, A1310, H⟩ := H
                replace H : (tautochronelaw12_CodeGood.l1 kj127 l0 x3_113 x4_127 l0 (l0.length : Int) x41_2 t253 (t253.length : Int) 0 ((rd_T26 l0 x41_2).f0) ((rd_T26 l0 x41_2).f1) ((rd_T26 l0 x41_2).f2) ((rd_T26 l0 x41_2).f3) ((rd_T26 l0 x41_2).f4) ((rd_T26 l0 x41_2).f5) ((rd_T26 l0 x41_2).f6) ((rd_T26 l0 x41_2).f7)) = some r := H
                have A131 := Aside0.mk A1310
                clear A1310
                have H' := Aside0.mk H
                clear H
                have hcz132_0 : wc.cell? ⟨gb245, 0, none⟩ = some (.int .i64 ((rd_T26 l0 x41_2).f0)) := (blk_cell BK245.out 0).trans rfl
                have hcz132_1 : wc.cell? ⟨gb245, 1, none⟩ = some (.int .i64 ((rd_T26 l0 x41_2).f1)) := (blk_cell BK245.out 1).trans rfl
                have hcz132_2 : wc.cell? ⟨gb245, 2, none⟩ = some (.int .i64 ((rd_T26 l0 x41_2).f2)) := (blk_cell BK245.out 2).trans rfl
                have hcz132_3 : wc.cell? ⟨gb245, 3, none⟩ = some (.int .i64 ((rd_T26 l0 x41_2).f3)) := (blk_cell BK245.out 3).trans rfl
                have hcz132_4 : wc.cell? ⟨gb245, 4, none⟩ = some (.int .i64 ((rd_T26 l0 x41_2).f4)) := (blk_cell BK245.out 4).trans rfl
                have hcz132_5 : wc.cell? ⟨gb245, 5, none⟩ = some (.int .i64 ((rd_T26 l0 x41_2).f5)) := (blk_cell BK245.out 5).trans rfl
                have hcz132_6 : wc.cell? ⟨gb245, 6, none⟩ = some (.int .u64 ((rd_T26 l0 x41_2).f6)) := (blk_cell BK245.out 6).trans rfl
                have hcz132_7 : wc.cell? ⟨gb245, 7, none⟩ = some (.int .i64 ((rd_T26 l0 x41_2).f7)) := (blk_cell BK245.out 7).trans rfl
                have hfz132_0 := blk_frozen BK245.out 0
                have hfz132_1 := blk_frozen BK245.out 1
                have hfz132_2 := blk_frozen BK245.out 2
                have hfz132_3 := blk_frozen BK245.out 3
                have hfz132_4 := blk_frozen BK245.out 4
                have hfz132_5 := blk_frozen BK245.out 5
                have hfz132_6 := blk_frozen BK245.out 6
                have hfz132_7 := blk_frozen BK245.out 7
                go_wp2_with (first | ((with_reducible refine gate_callee (f := 14) rfl ?_); refine goesL_ (some 121) rfl rfl Tryd.func14 (by kernel_rfl) rfl #[.agg #[.int .i64 ((rd_T26 l0 x41_2).f0), .int .i64 ((rd_T26 l0 x41_2).f1), .int .i64 ((rd_T26 l0 x41_2).f2), .int .i64 ((rd_T26 l0 x41_2).f3), .int .i64 ((rd_T26 l0 x41_2).f4), .int .i64 ((rd_T26 l0 x41_2).f5), .int .u64 ((rd_T26 l0 x41_2).f6), .int .i64 ((rd_T26 l0 x41_2).f7)]] rfl (by (try simp only [List.map_toArray, List.map_cons, List.map_nil]); first | done | rfl | (simp only [List.length_drop, List.length_take]; rfl)) ?_; (with_reducible refine (tautochronelaw12_uses.calls kj127 ((rd_T26 l0 x41_2).f0) ((rd_T26 l0 x41_2).f1) ((rd_T26 l0 x41_2).f2) ((rd_T26 l0 x41_2).f3) ((rd_T26 l0 x41_2).f4) ((rd_T26 l0 x41_2).f5) ((rd_T26 l0 x41_2).f6) ((rd_T26 l0 x41_2).f7) t253 _ A131.out).mono ?_); rintro e w133 ⟨v254, rfl, ho0, hb⟩; refine ⟨_, rfl, ?_⟩; have n0_ := Aside0.mk (Kd.R_lower ho0 (below_size (by repeat (first | (with_reducible first | exact HB.out | apply below_alloc | apply pw_below_drewN | apply below_drew1 | refine below_set ?_ GE245.out) | exact HB.out)))); have n1_ := Aside0.mk (blk_below (g := gb245) (o := .cells #[.int .i64 ((rd_T26 l0 x41_2).f0), .int .i64 ((rd_T26 l0 x41_2).f1), .int .i64 ((rd_T26 l0 x41_2).f2), .int .i64 ((rd_T26 l0 x41_2).f3), .int .i64 ((rd_T26 l0 x41_2).f4), .int .i64 ((rd_T26 l0 x41_2).f5), .int .u64 ((rd_T26 l0 x41_2).f6), .int .i64 ((rd_T26 l0 x41_2).f7)] 26 (0, 0)) (by (with_reducible repeat (first | refine blk_drewN ?_ _ | refine blk_drew ?_ | refine blk_alloc ?_ _)); exact BK245.out) hb); have n2_ := Aside0.mk (below_step (by repeat (first | (with_reducible first | exact HB.out | apply below_alloc | apply pw_below_drewN | apply below_drew1 | refine below_set ?_ GE245.out) | exact HB.out)) hb); clear BK245; clear HB; have HO255 := n0_; have BK245 := n1_; have HB := n2_; clear n0_ n1_ n2_; (try clear hb); (try clear hb2); (try clear hk); (try clear hi); (try clear ho0); obtain ⟨Ao134, co134, eo134⟩ := Kd.R_slice HO255.out; subst eo134))
                go_loopg [3, 4, 123] kj127 (fun kq v3 v4 v123 w' => ∃ (x3_7 : Bool) (x4_7 : Int) (x123_7 : Int), v3 = .bool x3_7 ∧ v4 = .int .i64 x4_7 ∧ v123 = .int .i64 x123_7 ∧ Aside0 (tautochronelaw12_CodeGood.l1 kq l0 x3_7 x4_7 l0 (l0.length : Int) x41_2 t253 (t253.length : Int) x123_7 ((rd_T26 l0 x41_2).f0) ((rd_T26 l0 x41_2).f1) ((rd_T26 l0 x41_2).f2) ((rd_T26 l0 x41_2).f3) ((rd_T26 l0 x41_2).f4) ((rd_T26 l0 x41_2).f5) ((rd_T26 l0 x41_2).f6) ((rd_T26 l0 x41_2).f7) = some r) ∧ Aside0 (kq ≤ kj127) ∧ Aside0 (Kd.R (Kd.int .i64) 3 w' w.heap.size (fun _ => True) (.slice Ao134 t253.length co134) t253) ∧ Aside0 (w'.heap[gb245]? = some (.cells #[.int .i64 ((rd_T26 l0 x41_2).f0), .int .i64 ((rd_T26 l0 x41_2).f1), .int .i64 ((rd_T26 l0 x41_2).f2), .int .i64 ((rd_T26 l0 x41_2).f3), .int .i64 ((rd_T26 l0 x41_2).f4), .int .i64 ((rd_T26 l0 x41_2).f5), .int .u64 ((rd_T26 l0 x41_2).f6), .int .i64 ((rd_T26 l0 x41_2).f7)] 26 (0, 0))) ∧ Aside0 (Below w.heap.size w w'))
                case atStart => exact ⟨(x3_113), (x4_127), (0), (by first | rfl | (simp; done) | (simp [*]; done)), (by first | rfl | (simp; done) | (simp [*]; done)), (by first | rfl | (simp; done) | (simp [*]; done)), H', ⟨Nat.le_refl _⟩, ⟨by (with_reducible repeat (first | apply Kd.R_alloc | apply Kd.R_drewN | apply Kd.R_drew)); exact HO255.out⟩, ⟨by (with_reducible repeat (first | refine blk_drewN ?_ _ | refine blk_drew ?_ | refine blk_alloc ?_ _)); exact BK245.out⟩, ⟨by repeat (first | (with_reducible first | exact HB.out | apply below_alloc | apply pw_below_drewN | apply below_drew1 | refine below_set ?_ GE245.out) | exact HB.out)⟩⟩
                case round =>
                 clear H'
                 try clear c1
                 try clear p2
                 try clear p6
                 try clear c12
                 try clear c14
                 try clear p64
                 try clear c129
                 try clear hcz132_0 hcz132_1 hcz132_2 hcz132_3 hcz132_4 hcz132_5 hcz132_6 hcz132_7
                 try clear hfz132_0 hfz132_1 hfz132_2 hfz132_3 hfz132_4 hfz132_5 hfz132_6 hfz132_7
                 try clear p2
                 try clear p64
                 obtain ⟨x3_7, x4_7, x123_7, rfl, rfl, rfl, HA, HK7, HO_121, BK245, HB⟩ := hrel
                 cases gk with
                 | zero => exact absurd HA.out (by simp [tautochronelaw12_CodeGood.l1])
                 | succ k7 =>
                  have H := HA.out
                  clear HA
                  simp only [tautochronelaw12_CodeGood.l1] at H
                  by_cases c135 : x123_7 < (t253.length : Int)
                  ·rw [if_pos c135] at H
                   have c135b0 : decide (x123_7 < (t253.length : Int)) = true := decide_eq_true c135
                   clear c135
                   by_cases c136 : 0 ≤ x123_7
                   rotate_left
                   ·rw [if_neg c136] at H; exact absurd H (by simp)
                   rw [if_pos c136] at H
                   have c136b0 : decide (0 ≤ x123_7) = true := decide_eq_true c136
                   clear c136
                   by_cases c137 : x123_7 < (t253.length : Int)
                   rotate_left
                   ·rw [if_neg c137] at H; exact absurd H (by simp)
                   rw [if_pos c137] at H
                   have c137b0 : decide (x123_7 < (t253.length : Int)) = true := decide_eq_true c137
                   clear c137
                   have HC138 := Aside0.mk H
                   clear H
                   have p256 : 0 ≤ (x123_7 : Int) := of_decide_eq_true (by first | (with_reducible assumption) | assumption)
                   have q256 : x123_7 < (t253.length : Int) := of_decide_eq_true (by first | (with_reducible assumption) | assumption)
                   obtain ⟨ad256, e256, hx256_0⟩ := Kd.at_int (Kd.R_reads' HO_121.out).2.2 x123_7 p256 q256
                   cases e256
                   replace p256 := eq_true p256
                   replace q256 := eq_true q256
                   go_upto_region 17 with (fail)
                   go_cut [132] (fun v132 wc => ∃ (kq : Nat) (x132_137 : Bool), v132 = .bool x132_137 ∧ Aside0 (tautochronelaw12_CodeGood.j7 kq l0 x3_7 x4_7 (rd t253 x123_7) l0 (l0.length : Int) x41_2 t253 (t253.length : Int) x123_7 x132_137 ((rd_T26 l0 x41_2).f0) ((rd_T26 l0 x41_2).f1) ((rd_T26 l0 x41_2).f2) ((rd_T26 l0 x41_2).f3) ((rd_T26 l0 x41_2).f4) ((rd_T26 l0 x41_2).f5) ((rd_T26 l0 x41_2).f6) ((rd_T26 l0 x41_2).f7) = some r) ∧ Aside0 (kq ≤ k7) ∧ Aside0 (Kd.R (Kd.int .i64) 3 wc w.heap.size (fun _ => True) (.slice (some ad256) t253.length co134) t253) ∧ Aside0 (wc.heap[gb245]? = some (.cells #[.int .i64 ((rd_T26 l0 x41_2).f0), .int .i64 ((rd_T26 l0 x41_2).f1), .int .i64 ((rd_T26 l0 x41_2).f2), .int .i64 ((rd_T26 l0 x41_2).f3), .int .i64 ((rd_T26 l0 x41_2).f4), .int .i64 ((rd_T26 l0 x41_2).f5), .int .u64 ((rd_T26 l0 x41_2).f6), .int .i64 ((rd_T26 l0 x41_2).f7)] 26 (0, 0))) ∧ Aside0 (Below w.heap.size w wc))
                   case first =>
                    have H := HC138.out
                    clear HC138
                    by_cases c139 : (rd t253 x123_7) < 0
                    ·rw [if_pos c139] at H
                     have c139b0 : decide ((rd t253 x123_7) < 0) = true := decide_eq_true c139
                     clear c139
                     (first | rw [c139b0] | (simp only [i64_w, i32_w]; rw [c139b0]) | skip)
                     have H' := Aside0.mk H
                     clear H
                     go_wp2
                     go_meet
                     case rel => exact ⟨_, (true), (by first | rfl | (simp; done) | (simp [*]; done)), H', ⟨by have := HJ5.out; have := HK2.out; have := HJ15.out; have := HJ113.out; have := HJ115.out; have := HJ127.out; have := HK7.out; first | omega | exact Nat.le_refl _⟩, ⟨by (with_reducible repeat (first | apply Kd.R_alloc | apply Kd.R_drewN | apply Kd.R_drew)); exact HO_121.out⟩, ⟨by (with_reducible repeat (first | refine blk_drewN ?_ _ | refine blk_drew ?_ | refine blk_alloc ?_ _)); exact BK245.out⟩, ⟨by repeat (first | (with_reducible first | exact HB.out | apply below_alloc | apply pw_below_drewN | apply below_drew1 | refine below_set ?_ GE245.out) | exact HB.out)⟩⟩
                    ·rw [if_neg c139] at H
                     have c139b0 : decide ((rd t253 x123_7) < 0) = false := decide_eq_false c139
                     clear c139
                     (first | rw [c139b0] | (simp only [i64_w, i32_w]; rw [c139b0]) | skip)
                     have H' := Aside0.mk H
                     clear H
                     go_wp2
                     go_meet
                     case rel => exact ⟨_, (decide ((rd t253 x123_7) > 65535)), (by first | rfl | (simp; done) | (simp [*]; done)), H', ⟨by have := HJ5.out; have := HK2.out; have := HJ15.out; have := HJ113.out; have := HJ115.out; have := HJ127.out; have := HK7.out; first | omega | exact Nat.le_refl _⟩, ⟨by (with_reducible repeat (first | apply Kd.R_alloc | apply Kd.R_drewN | apply Kd.R_drew)); exact HO_121.out⟩, ⟨by (with_reducible repeat (first | refine blk_drewN ?_ _ | refine blk_drew ?_ | refine blk_alloc ?_ _)); exact BK245.out⟩, ⟨by repeat (first | (with_reducible first | exact HB.out | apply below_alloc | apply pw_below_drewN | apply below_drew1 | refine below_set ?_ GE245.out) | exact HB.out)⟩⟩
                   case rest =>
                    clear HC138
                    try clear c1
                    try clear p2
                    try clear q2
                    try clear hx2
                    try clear p6
                    try clear c13
                    try clear p25
                    try clear q25
                    try clear hx25
                    try clear p64
                    try clear c135
                    try clear c135b0
                    try clear c136
                    try clear c136b0
                    try clear c137
                    try clear c137b0
                    try clear c139
                    try clear c139b0
                    try clear hcz132_0 hcz132_1 hcz132_2 hcz132_3 hcz132_4 hcz132_5 hcz132_6 hcz132_7
                    try clear hfz132_0 hfz132_1 hfz132_2 hfz132_3 hfz132_4 hfz132_5 hfz132_6 hfz132_7
                    try clear hx256_0
                    try clear p2
                    try clear p256
                    try clear p64
                    try clear q256
                    obtain ⟨kq, x132_137, rfl, HA, HJ137, HO_121, BK245, HB⟩ := hcut
                    cases kq with
                    | zero => exact absurd HA.out (by simp [tautochronelaw12_CodeGood.j7])
                    | succ kj137 =>
                     have H := HA.out
                     clear HA
                     simp only [tautochronelaw12_CodeGood.j7] at H
                     by_cases c140 : x132_137 = true
                     ·subst c140
                      have H1 : (if (rd t253 x123_7) ≥ x4_7 then (if (rd t253 x123_7) < 4611686018427387904 then (tautochronelaw12_CodeGood.l1 kj137 l0 false (wrap64 ((rd t253 x123_7) + 1)) l0 (l0.length : Int) x41_2 t253 (t253.length : Int) (wrap64 (x123_7 + 1)) ((rd_T26 l0 x41_2).f0) ((rd_T26 l0 x41_2).f1) ((rd_T26 l0 x41_2).f2) ((rd_T26 l0 x41_2).f3) ((rd_T26 l0 x41_2).f4) ((rd_T26 l0 x41_2).f5) ((rd_T26 l0 x41_2).f6) ((rd_T26 l0 x41_2).f7)) else (tautochronelaw12_CodeGood.l1 kj137 l0 false x4_7 l0 (l0.length : Int) x41_2 t253 (t253.length : Int) (wrap64 (x123_7 + 1)) ((rd_T26 l0 x41_2).f0) ((rd_T26 l0 x41_2).f1) ((rd_T26 l0 x41_2).f2) ((rd_T26 l0 x41_2).f3) ((rd_T26 l0 x41_2).f4) ((rd_T26 l0 x41_2).f5) ((rd_T26 l0 x41_2).f6) ((rd_T26 l0 x41_2).f7))) else (tautochronelaw12_CodeGood.l1 kj137 l0 false x4_7 l0 (l0.length : Int) x41_2 t253 (t253.length : Int) (wrap64 (x123_7 + 1)) ((rd_T26 l0 x41_2).f0) ((rd_T26 l0 x41_2).f1) ((rd_T26 l0 x41_2).f2) ((rd_T26 l0 x41_2).f3) ((rd_T26 l0 x41_2).f4) ((rd_T26 l0 x41_2).f5) ((rd_T26 l0 x41_2).f6) ((rd_T26 l0 x41_2).f7))) = some r := by rw [if_pos rfl] at H; exact H
                      clear H
                      have H := H1
                      clear H1
                      by_cases c141 : (rd t253 x123_7) ≥ x4_7
                      ·rw [if_pos c141] at H
                       have c141b0 : decide (x4_7 ≤ (rd t253 x123_7)) = true := decide_eq_true c141
                       clear c141
                       by_cases c142 : (rd t253 x123_7) < 4611686018427387904
                       ·rw [if_pos c142] at H
                        have c142b0 : decide ((rd t253 x123_7) < 4611686018427387904) = true := decide_eq_true c142
                        clear c142
                        have H' := Aside0.mk H
                        clear H
                        go_wp2
                        go_roundg kj137
                        case measure => have := HJ5.out; have := HK2.out; have := HJ15.out; have := HJ113.out; have := HJ115.out; have := HJ127.out; have := HK7.out; have := HJ137.out; omega
                        case rel => exact ⟨(false), (wrap64 ((rd t253 x123_7) + 1)), (wrap64 (x123_7 + 1)), (by first | rfl | (simp; done) | (simp [*]; done)), (by first | rfl | (simp; done) | (simp [*]; done)), (by first | rfl | (simp; done) | (simp [*]; done)), H', ⟨by have := HJ5.out; have := HK2.out; have := HJ15.out; have := HJ113.out; have := HJ115.out; have := HJ127.out; have := HK7.out; have := HJ137.out; omega⟩, ⟨by (with_reducible repeat (first | apply Kd.R_alloc | apply Kd.R_drewN | apply Kd.R_drew)); exact HO_121.out⟩, ⟨by (with_reducible repeat (first | refine blk_drewN ?_ _ | refine blk_drew ?_ | refine blk_alloc ?_ _)); exact BK245.out⟩, ⟨by repeat (first | (with_reducible first | exact HB.out | apply below_alloc | apply pw_below_drewN | apply below_drew1 | refine below_set ?_ GE245.out) | exact HB.out)⟩⟩
                       ·rw [if_neg c142] at H
                        have c142b0 : decide ((rd t253 x123_7) < 4611686018427387904) = false := decide_eq_false c142
                        clear c142
                        have H' := Aside0.mk H
                        clear H
                        go_wp2
                        go_roundg kj137
                        case measure => have := HJ5.out; have := HK2.out; have := HJ15.out; have := HJ113.out; have := HJ115.out; have := HJ127.out; have := HK7.out; have := HJ137.out; omega
                        case rel => exact ⟨(false), (x4_7), (wrap64 (x123_7 + 1)), (by first | rfl | (simp; done) | (simp [*]; done)), (by first | rfl | (simp; done) | (simp [*]; done)), (by first | rfl | (simp; done) | (simp [*]; done)), H', ⟨by have := HJ5.out; have := HK2.out; have := HJ15.out; have := HJ113.out; have := HJ115.out; have := HJ127.out; have := HK7.out; have := HJ137.out; omega⟩, ⟨by (with_reducible repeat (first | apply Kd.R_alloc | apply Kd.R_drewN | apply Kd.R_drew)); exact HO_121.out⟩, ⟨by (with_reducible repeat (first | refine blk_drewN ?_ _ | refine blk_drew ?_ | refine blk_alloc ?_ _)); exact BK245.out⟩, ⟨by repeat (first | (with_reducible first | exact HB.out | apply below_alloc | apply pw_below_drewN | apply below_drew1 | refine below_set ?_ GE245.out) | exact HB.out)⟩⟩
                      ·rw [if_neg c141] at H
                       have c141b0 : decide (x4_7 ≤ (rd t253 x123_7)) = false := decide_eq_false c141
                       clear c141
                       have H' := Aside0.mk H
                       clear H
                       go_wp2
                       go_roundg kj137
                       case measure => have := HJ5.out; have := HK2.out; have := HJ15.out; have := HJ113.out; have := HJ115.out; have := HJ127.out; have := HK7.out; have := HJ137.out; omega
                       case rel => exact ⟨(false), (x4_7), (wrap64 (x123_7 + 1)), (by first | rfl | (simp; done) | (simp [*]; done)), (by first | rfl | (simp; done) | (simp [*]; done)), (by first | rfl | (simp; done) | (simp [*]; done)), H', ⟨by have := HJ5.out; have := HK2.out; have := HJ15.out; have := HJ113.out; have := HJ115.out; have := HJ127.out; have := HK7.out; have := HJ137.out; omega⟩, ⟨by (with_reducible repeat (first | apply Kd.R_alloc | apply Kd.R_drewN | apply Kd.R_drew)); exact HO_121.out⟩, ⟨by (with_reducible repeat (first | refine blk_drewN ?_ _ | refine blk_drew ?_ | refine blk_alloc ?_ _)); exact BK245.out⟩, ⟨by repeat (first | (with_reducible first | exact HB.out | apply below_alloc | apply pw_below_drewN | apply below_drew1 | refine below_set ?_ GE245.out) | exact HB.out)⟩⟩
                     ·replace c140 := Bool.eq_false_iff.mpr c140
                      subst c140
                      have H1 : (if (rd t253 x123_7) ≥ x4_7 then (if (rd t253 x123_7) < 4611686018427387904 then (tautochronelaw12_CodeGood.l1 kj137 l0 x3_7 (wrap64 ((rd t253 x123_7) + 1)) l0 (l0.length : Int) x41_2 t253 (t253.length : Int) (wrap64 (x123_7 + 1)) ((rd_T26 l0 x41_2).f0) ((rd_T26 l0 x41_2).f1) ((rd_T26 l0 x41_2).f2) ((rd_T26 l0 x41_2).f3) ((rd_T26 l0 x41_2).f4) ((rd_T26 l0 x41_2).f5) ((rd_T26 l0 x41_2).f6) ((rd_T26 l0 x41_2).f7)) else (tautochronelaw12_CodeGood.l1 kj137 l0 x3_7 x4_7 l0 (l0.length : Int) x41_2 t253 (t253.length : Int) (wrap64 (x123_7 + 1)) ((rd_T26 l0 x41_2).f0) ((rd_T26 l0 x41_2).f1) ((rd_T26 l0 x41_2).f2) ((rd_T26 l0 x41_2).f3) ((rd_T26 l0 x41_2).f4) ((rd_T26 l0 x41_2).f5) ((rd_T26 l0 x41_2).f6) ((rd_T26 l0 x41_2).f7))) else (tautochronelaw12_CodeGood.l1 kj137 l0 x3_7 x4_7 l0 (l0.length : Int) x41_2 t253 (t253.length : Int) (wrap64 (x123_7 + 1)) ((rd_T26 l0 x41_2).f0) ((rd_T26 l0 x41_2).f1) ((rd_T26 l0 x41_2).f2) ((rd_T26 l0 x41_2).f3) ((rd_T26 l0 x41_2).f4) ((rd_T26 l0 x41_2).f5) ((rd_T26 l0 x41_2).f6) ((rd_T26 l0 x41_2).f7))) = some r := by rw [if_neg (show ¬ (false = true) by decide)] at H; exact H
                      clear H
                      have H := H1
                      clear H1
                      by_cases c143 : (rd t253 x123_7) ≥ x4_7
                      ·rw [if_pos c143] at H
                       have c143b0 : decide (x4_7 ≤ (rd t253 x123_7)) = true := decide_eq_true c143
                       clear c143
                       by_cases c144 : (rd t253 x123_7) < 4611686018427387904
                       ·rw [if_pos c144] at H
                        have c144b0 : decide ((rd t253 x123_7) < 4611686018427387904) = true := decide_eq_true c144
                        clear c144
                        have H' := Aside0.mk H
                        clear H
                        go_wp2
                        go_roundg kj137
                        case measure => have := HJ5.out; have := HK2.out; have := HJ15.out; have := HJ113.out; have := HJ115.out; have := HJ127.out; have := HK7.out; have := HJ137.out; omega
                        case rel => exact ⟨(x3_7), (wrap64 ((rd t253 x123_7) + 1)), (wrap64 (x123_7 + 1)), (by first | rfl | (simp; done) | (simp [*]; done)), (by first | rfl | (simp; done) | (simp [*]; done)), (by first | rfl | (simp; done) | (simp [*]; done)), H', ⟨by have := HJ5.out; have := HK2.out; have := HJ15.out; have := HJ113.out; have := HJ115.out; have := HJ127.out; have := HK7.out; have := HJ137.out; omega⟩, ⟨by (with_reducible repeat (first | apply Kd.R_alloc | apply Kd.R_drewN | apply Kd.R_drew)); exact HO_121.out⟩, ⟨by (with_reducible repeat (first | refine blk_drewN ?_ _ | refine blk_drew ?_ | refine blk_alloc ?_ _)); exact BK245.out⟩, ⟨by repeat (first | (with_reducible first | exact HB.out | apply below_alloc | apply pw_below_drewN | apply below_drew1 | refine below_set ?_ GE245.out) | exact HB.out)⟩⟩
                       ·rw [if_neg c144] at H
                        have c144b0 : decide ((rd t253 x123_7) < 4611686018427387904) = false := decide_eq_false c144
                        clear c144
                        have H' := Aside0.mk H
                        clear H
                        go_wp2
                        go_roundg kj137
                        case measure => have := HJ5.out; have := HK2.out; have := HJ15.out; have := HJ113.out; have := HJ115.out; have := HJ127.out; have := HK7.out; have := HJ137.out; omega
                        case rel => exact ⟨(x3_7), (x4_7), (wrap64 (x123_7 + 1)), (by first | rfl | (simp; done) | (simp [*]; done)), (by first | rfl | (simp; done) | (simp [*]; done)), (by first | rfl | (simp; done) | (simp [*]; done)), H', ⟨by have := HJ5.out; have := HK2.out; have := HJ15.out; have := HJ113.out; have := HJ115.out; have := HJ127.out; have := HK7.out; have := HJ137.out; omega⟩, ⟨by (with_reducible repeat (first | apply Kd.R_alloc | apply Kd.R_drewN | apply Kd.R_drew)); exact HO_121.out⟩, ⟨by (with_reducible repeat (first | refine blk_drewN ?_ _ | refine blk_drew ?_ | refine blk_alloc ?_ _)); exact BK245.out⟩, ⟨by repeat (first | (with_reducible first | exact HB.out | apply below_alloc | apply pw_below_drewN | apply below_drew1 | refine below_set ?_ GE245.out) | exact HB.out)⟩⟩
                      ·rw [if_neg c143] at H
                       have c143b0 : decide (x4_7 ≤ (rd t253 x123_7)) = false := decide_eq_false c143
                       clear c143
                       have H' := Aside0.mk H
                       clear H
                       go_wp2
                       go_roundg kj137
                       case measure => have := HJ5.out; have := HK2.out; have := HJ15.out; have := HJ113.out; have := HJ115.out; have := HJ127.out; have := HK7.out; have := HJ137.out; omega
                       case rel => exact ⟨(x3_7), (x4_7), (wrap64 (x123_7 + 1)), (by first | rfl | (simp; done) | (simp [*]; done)), (by first | rfl | (simp; done) | (simp [*]; done)), (by first | rfl | (simp; done) | (simp [*]; done)), H', ⟨by have := HJ5.out; have := HK2.out; have := HJ15.out; have := HJ113.out; have := HJ115.out; have := HJ127.out; have := HK7.out; have := HJ137.out; omega⟩, ⟨by (with_reducible repeat (first | apply Kd.R_alloc | apply Kd.R_drewN | apply Kd.R_drew)); exact HO_121.out⟩, ⟨by (with_reducible repeat (first | refine blk_drewN ?_ _ | refine blk_drew ?_ | refine blk_alloc ?_ _)); exact BK245.out⟩, ⟨by repeat (first | (with_reducible first | exact HB.out | apply below_alloc | apply pw_below_drewN | apply below_drew1 | refine below_set ?_ GE245.out) | exact HB.out)⟩⟩
                  ·rw [if_neg c135] at H
                   have c135b0 : decide (x123_7 < (t253.length : Int)) = false := decide_eq_false c135
                   clear c135
                   have HC145 := Aside0.mk H
                   clear H
                   go_upto_region 22 with (fail)
                   go_cut [149] (fun v149 wc => ∃ (kq : Nat) (x149_144 : Bool), v149 = .bool x149_144 ∧ Aside0 (tautochronelaw12_CodeGood.j8 kq l0 x3_7 x4_7 l0 (l0.length : Int) x41_2 x149_144 ((rd_T26 l0 x41_2).f0) ((rd_T26 l0 x41_2).f1) ((rd_T26 l0 x41_2).f2) ((rd_T26 l0 x41_2).f3) ((rd_T26 l0 x41_2).f4) ((rd_T26 l0 x41_2).f5) ((rd_T26 l0 x41_2).f6) ((rd_T26 l0 x41_2).f7) = some r) ∧ Aside0 (kq ≤ k7) ∧ Aside0 (wc.heap[gb245]? = some (.cells #[.int .i64 ((rd_T26 l0 x41_2).f0), .int .i64 ((rd_T26 l0 x41_2).f1), .int .i64 ((rd_T26 l0 x41_2).f2), .int .i64 ((rd_T26 l0 x41_2).f3), .int .i64 ((rd_T26 l0 x41_2).f4), .int .i64 ((rd_T26 l0 x41_2).f5), .int .u64 ((rd_T26 l0 x41_2).f6), .int .i64 ((rd_T26 l0 x41_2).f7)] 26 (0, 0))) ∧ Aside0 (Below w.heap.size w wc))
                   case first =>
                    have H := HC145.out
                    clear HC145
                    replace H := Option.bind_eq_some_iff.mp H
                    obtain ⟨t257, A1460, H⟩ := H
                    replace H : (if t257 = true then (tautochronelaw12_CodeGood.j8 k7 l0 x3_7 x4_7 l0 (l0.length : Int) x41_2 (decide (((rd_T26 l0 x41_2).f2) ≥ 4611686018427387904)) ((rd_T26 l0 x41_2).f0) ((rd_T26 l0 x41_2).f1) ((rd_T26 l0 x41_2).f2) ((rd_T26 l0 x41_2).f3) ((rd_T26 l0 x41_2).f4) ((rd_T26 l0 x41_2).f5) ((rd_T26 l0 x41_2).f6) ((rd_T26 l0 x41_2).f7)) else (tautochronelaw12_CodeGood.j8 k7 l0 x3_7 x4_7 l0 (l0.length : Int) x41_2 false ((rd_T26 l0 x41_2).f0) ((rd_T26 l0 x41_2).f1) ((rd_T26 l0 x41_2).f2) ((rd_T26 l0 x41_2).f3) ((rd_T26 l0 x41_2).f4) ((rd_T26 l0 x41_2).f5) ((rd_T26 l0 x41_2).f6) ((rd_T26 l0 x41_2).f7))) = some r := H
                    have A146 := Aside0.mk A1460
                    clear A1460
                    by_cases c147 : t257 = true
                    ·subst c147
                     have H1 : (tautochronelaw12_CodeGood.j8 k7 l0 x3_7 x4_7 l0 (l0.length : Int) x41_2 (decide (((rd_T26 l0 x41_2).f2) ≥ 4611686018427387904)) ((rd_T26 l0 x41_2).f0) ((rd_T26 l0 x41_2).f1) ((rd_T26 l0 x41_2).f2) ((rd_T26 l0 x41_2).f3) ((rd_T26 l0 x41_2).f4) ((rd_T26 l0 x41_2).f5) ((rd_T26 l0 x41_2).f6) ((rd_T26 l0 x41_2).f7)) = some r := by rw [if_pos rfl] at H; exact H
                     clear H
                     have H := H1
                     clear H1
                     have H' := Aside0.mk H
                     clear H
                     have hcz148_0 : wr.cell? ⟨gb245, 0, none⟩ = some (.int .i64 ((rd_T26 l0 x41_2).f0)) := (blk_cell BK245.out 0).trans rfl
                     have hcz148_1 : wr.cell? ⟨gb245, 1, none⟩ = some (.int .i64 ((rd_T26 l0 x41_2).f1)) := (blk_cell BK245.out 1).trans rfl
                     have hcz148_2 : wr.cell? ⟨gb245, 2, none⟩ = some (.int .i64 ((rd_T26 l0 x41_2).f2)) := (blk_cell BK245.out 2).trans rfl
                     have hcz148_3 : wr.cell? ⟨gb245, 3, none⟩ = some (.int .i64 ((rd_T26 l0 x41_2).f3)) := (blk_cell BK245.out 3).trans rfl
                     have hcz148_4 : wr.cell? ⟨gb245, 4, none⟩ = some (.int .i64 ((rd_T26 l0 x41_2).f4)) := (blk_cell BK245.out 4).trans rfl
                     have hcz148_5 : wr.cell? ⟨gb245, 5, none⟩ = some (.int .i64 ((rd_T26 l0 x41_2).f5)) := (blk_cell BK245.out 5).trans rfl
                     have hcz148_6 : wr.cell? ⟨gb245, 6, none⟩ = some (.int .u64 ((rd_T26 l0 x41_2).f6)) := (blk_cell BK245.out 6).trans rfl
                     have hcz148_7 : wr.cell? ⟨gb245, 7, none⟩ = some (.int .i64 ((rd_T26 l0 x41_2).f7)) := (blk_cell BK245.out 7).trans rfl
                     have hfz148_0 := blk_frozen BK245.out 0
                     have hfz148_1 := blk_frozen BK245.out 1
                     have hfz148_2 := blk_frozen BK245.out 2
                     have hfz148_3 := blk_frozen BK245.out 3
                     have hfz148_4 := blk_frozen BK245.out 4
                     have hfz148_5 := blk_frozen BK245.out 5
                     have hfz148_6 := blk_frozen BK245.out 6
                     have hfz148_7 := blk_frozen BK245.out 7
                     go_wp2_with (first | ((with_reducible refine gate_callee (f := 11) rfl ?_); refine goesL_ (some 144) rfl rfl Tryd.func11 (by kernel_rfl) rfl #[.agg #[.int .i64 ((rd_T26 l0 x41_2).f0), .int .i64 ((rd_T26 l0 x41_2).f1), .int .i64 ((rd_T26 l0 x41_2).f2), .int .i64 ((rd_T26 l0 x41_2).f3), .int .i64 ((rd_T26 l0 x41_2).f4), .int .i64 ((rd_T26 l0 x41_2).f5), .int .u64 ((rd_T26 l0 x41_2).f6), .int .i64 ((rd_T26 l0 x41_2).f7)]] rfl (by (try simp only [List.map_toArray, List.map_cons, List.map_nil]); first | done | rfl | (simp only [List.length_drop, List.length_take]; rfl)) ?_; (with_reducible refine (tautochronelaw12_sets.calls ((rd_T26 l0 x41_2).f0) ((rd_T26 l0 x41_2).f1) ((rd_T26 l0 x41_2).f2) ((rd_T26 l0 x41_2).f3) ((rd_T26 l0 x41_2).f4) ((rd_T26 l0 x41_2).f5) ((rd_T26 l0 x41_2).f6) ((rd_T26 l0 x41_2).f7) true _ A146.out).mono ?_); rintro e w149 ⟨rfl, hb⟩; refine ⟨_, rfl, ?_⟩; have n0_ := Aside0.mk (Kd.R_below (by (with_reducible repeat (first | apply Kd.R_alloc | apply Kd.R_drewN | apply Kd.R_drew)); exact HO_121.out) hb); have n1_ := Aside0.mk (blk_below (g := gb245) (o := .cells #[.int .i64 ((rd_T26 l0 x41_2).f0), .int .i64 ((rd_T26 l0 x41_2).f1), .int .i64 ((rd_T26 l0 x41_2).f2), .int .i64 ((rd_T26 l0 x41_2).f3), .int .i64 ((rd_T26 l0 x41_2).f4), .int .i64 ((rd_T26 l0 x41_2).f5), .int .u64 ((rd_T26 l0 x41_2).f6), .int .i64 ((rd_T26 l0 x41_2).f7)] 26 (0, 0)) (by (with_reducible repeat (first | refine blk_drewN ?_ _ | refine blk_drew ?_ | refine blk_alloc ?_ _)); exact BK245.out) hb); have n2_ := Aside0.mk (below_step (by repeat (first | (with_reducible first | exact HB.out | apply below_alloc | apply pw_below_drewN | apply below_drew1 | refine below_set ?_ GE245.out) | exact HB.out)) hb); clear HO_121; clear BK245; clear HB; have HO_121 := n0_; have BK245 := n1_; have HB := n2_; clear n0_ n1_ n2_; (try clear hb); (try clear hb2); (try clear hk); (try clear hi); have hcz150_0 : w149.cell? ⟨gb245, 0, none⟩ = some (.int .i64 ((rd_T26 l0 x41_2).f0)) := (blk_cell BK245.out 0).trans rfl; have hcz150_1 : w149.cell? ⟨gb245, 1, none⟩ = some (.int .i64 ((rd_T26 l0 x41_2).f1)) := (blk_cell BK245.out 1).trans rfl; have hcz150_2 : w149.cell? ⟨gb245, 2, none⟩ = some (.int .i64 ((rd_T26 l0 x41_2).f2)) := (blk_cell BK245.out 2).trans rfl; have hcz150_3 : w149.cell? ⟨gb245, 3, none⟩ = some (.int .i64 ((rd_T26 l0 x41_2).f3)) := (blk_cell BK245.out 3).trans rfl; have hcz150_4 : w149.cell? ⟨gb245, 4, none⟩ = some (.int .i64 ((rd_T26 l0 x41_2).f4)) := (blk_cell BK245.out 4).trans rfl; have hcz150_5 : w149.cell? ⟨gb245, 5, none⟩ = some (.int .i64 ((rd_T26 l0 x41_2).f5)) := (blk_cell BK245.out 5).trans rfl; have hcz150_6 : w149.cell? ⟨gb245, 6, none⟩ = some (.int .u64 ((rd_T26 l0 x41_2).f6)) := (blk_cell BK245.out 6).trans rfl; have hcz150_7 : w149.cell? ⟨gb245, 7, none⟩ = some (.int .i64 ((rd_T26 l0 x41_2).f7)) := (blk_cell BK245.out 7).trans rfl; have hfz150_0 := blk_frozen BK245.out 0; have hfz150_1 := blk_frozen BK245.out 1; have hfz150_2 := blk_frozen BK245.out 2; have hfz150_3 := blk_frozen BK245.out 3; have hfz150_4 := blk_frozen BK245.out 4; have hfz150_5 := blk_frozen BK245.out 5; have hfz150_6 := blk_frozen BK245.out 6; have hfz150_7 := blk_frozen BK245.out 7))
                     go_meet
                     case rel => exact ⟨_, (decide (((rd_T26 l0 x41_2).f2) ≥ 4611686018427387904)), (by first | rfl | (simp; done) | (simp [*]; done)), H', ⟨by have := HJ5.out; have := HK2.out; have := HJ15.out; have := HJ113.out; have := HJ115.out; have := HJ127.out; have := HK7.out; first | omega | exact Nat.le_refl _⟩, ⟨by (with_reducible repeat (first | refine blk_drewN ?_ _ | refine blk_drew ?_ | refine blk_alloc ?_ _)); exact BK245.out⟩, ⟨by repeat (first | (with_reducible first | exact HB.out | apply below_alloc | apply pw_below_drewN | apply below_drew1 | refine below_set ?_ GE245.out) | exact HB.out)⟩⟩
                    ·replace c147 := Bool.eq_false_iff.mpr c147
                     subst c147
                     have H1 : (tautochronelaw12_CodeGood.j8 k7 l0 x3_7 x4_7 l0 (l0.length : Int) x41_2 false ((rd_T26 l0 x41_2).f0) ((rd_T26 l0 x41_2).f1) ((rd_T26 l0 x41_2).f2) ((rd_T26 l0 x41_2).f3) ((rd_T26 l0 x41_2).f4) ((rd_T26 l0 x41_2).f5) ((rd_T26 l0 x41_2).f6) ((rd_T26 l0 x41_2).f7)) = some r := by rw [if_neg (show ¬ (false = true) by decide)] at H; exact H
                     clear H
                     have H := H1
                     clear H1
                     have H' := Aside0.mk H
                     clear H
                     have hcz151_0 : wr.cell? ⟨gb245, 0, none⟩ = some (.int .i64 ((rd_T26 l0 x41_2).f0)) := (blk_cell BK245.out 0).trans rfl
                     have hcz151_1 : wr.cell? ⟨gb245, 1, none⟩ = some (.int .i64 ((rd_T26 l0 x41_2).f1)) := (blk_cell BK245.out 1).trans rfl
                     have hcz151_2 : wr.cell? ⟨gb245, 2, none⟩ = some (.int .i64 ((rd_T26 l0 x41_2).f2)) := (blk_cell BK245.out 2).trans rfl
                     have hcz151_3 : wr.cell? ⟨gb245, 3, none⟩ = some (.int .i64 ((rd_T26 l0 x41_2).f3)) := (blk_cell BK245.out 3).trans rfl
                     have hcz151_4 : wr.cell? ⟨gb245, 4, none⟩ = some (.int .i64 ((rd_T26 l0 x41_2).f4)) := (blk_cell BK245.out 4).trans rfl
                     have hcz151_5 : wr.cell? ⟨gb245, 5, none⟩ = some (.int .i64 ((rd_T26 l0 x41_2).f5)) := (blk_cell BK245.out 5).trans rfl
                     have hcz151_6 : wr.cell? ⟨gb245, 6, none⟩ = some (.int .u64 ((rd_T26 l0 x41_2).f6)) := (blk_cell BK245.out 6).trans rfl
                     have hcz151_7 : wr.cell? ⟨gb245, 7, none⟩ = some (.int .i64 ((rd_T26 l0 x41_2).f7)) := (blk_cell BK245.out 7).trans rfl
                     have hfz151_0 := blk_frozen BK245.out 0
                     have hfz151_1 := blk_frozen BK245.out 1
                     have hfz151_2 := blk_frozen BK245.out 2
                     have hfz151_3 := blk_frozen BK245.out 3
                     have hfz151_4 := blk_frozen BK245.out 4
                     have hfz151_5 := blk_frozen BK245.out 5
                     have hfz151_6 := blk_frozen BK245.out 6
                     have hfz151_7 := blk_frozen BK245.out 7
                     go_wp2_with (first | ((with_reducible refine gate_callee (f := 11) rfl ?_); refine goesL_ (some 144) rfl rfl Tryd.func11 (by kernel_rfl) rfl #[.agg #[.int .i64 ((rd_T26 l0 x41_2).f0), .int .i64 ((rd_T26 l0 x41_2).f1), .int .i64 ((rd_T26 l0 x41_2).f2), .int .i64 ((rd_T26 l0 x41_2).f3), .int .i64 ((rd_T26 l0 x41_2).f4), .int .i64 ((rd_T26 l0 x41_2).f5), .int .u64 ((rd_T26 l0 x41_2).f6), .int .i64 ((rd_T26 l0 x41_2).f7)]] rfl (by (try simp only [List.map_toArray, List.map_cons, List.map_nil]); first | done | rfl | (simp only [List.length_drop, List.length_take]; rfl)) ?_; (with_reducible refine (tautochronelaw12_sets.calls ((rd_T26 l0 x41_2).f0) ((rd_T26 l0 x41_2).f1) ((rd_T26 l0 x41_2).f2) ((rd_T26 l0 x41_2).f3) ((rd_T26 l0 x41_2).f4) ((rd_T26 l0 x41_2).f5) ((rd_T26 l0 x41_2).f6) ((rd_T26 l0 x41_2).f7) false _ A146.out).mono ?_); rintro e w152 ⟨rfl, hb⟩; refine ⟨_, rfl, ?_⟩; have n0_ := Aside0.mk (Kd.R_below (by (with_reducible repeat (first | apply Kd.R_alloc | apply Kd.R_drewN | apply Kd.R_drew)); exact HO_121.out) hb); have n1_ := Aside0.mk (blk_below (g := gb245) (o := .cells #[.int .i64 ((rd_T26 l0 x41_2).f0), .int .i64 ((rd_T26 l0 x41_2).f1), .int .i64 ((rd_T26 l0 x41_2).f2), .int .i64 ((rd_T26 l0 x41_2).f3), .int .i64 ((rd_T26 l0 x41_2).f4), .int .i64 ((rd_T26 l0 x41_2).f5), .int .u64 ((rd_T26 l0 x41_2).f6), .int .i64 ((rd_T26 l0 x41_2).f7)] 26 (0, 0)) (by (with_reducible repeat (first | refine blk_drewN ?_ _ | refine blk_drew ?_ | refine blk_alloc ?_ _)); exact BK245.out) hb); have n2_ := Aside0.mk (below_step (by repeat (first | (with_reducible first | exact HB.out | apply below_alloc | apply pw_below_drewN | apply below_drew1 | refine below_set ?_ GE245.out) | exact HB.out)) hb); clear HO_121; clear BK245; clear HB; have HO_121 := n0_; have BK245 := n1_; have HB := n2_; clear n0_ n1_ n2_; (try clear hb); (try clear hb2); (try clear hk); (try clear hi)))
                     go_meet
                     case rel => exact ⟨_, (false), (by first | rfl | (simp; done) | (simp [*]; done)), H', ⟨by have := HJ5.out; have := HK2.out; have := HJ15.out; have := HJ113.out; have := HJ115.out; have := HJ127.out; have := HK7.out; first | omega | exact Nat.le_refl _⟩, ⟨by (with_reducible repeat (first | refine blk_drewN ?_ _ | refine blk_drew ?_ | refine blk_alloc ?_ _)); exact BK245.out⟩, ⟨by repeat (first | (with_reducible first | exact HB.out | apply below_alloc | apply pw_below_drewN | apply below_drew1 | refine below_set ?_ GE245.out) | exact HB.out)⟩⟩
                   case rest =>
                    clear HC145
                    try clear c1
                    try clear p2
                    try clear q2
                    try clear hx2
                    try clear p6
                    try clear c11
                    try clear c13
                    try clear c14
                    try clear p25
                    try clear q25
                    try clear hx25
                    try clear p64
                    try clear c135
                    try clear c135b0
                    try clear c136
                    try clear c137
                    try clear c140
                    try clear c141
                    try clear c141b0
                    try clear c142
                    try clear c142b0
                    try clear c143
                    try clear c143b0
                    try clear c144
                    try clear c144b0
                    try clear c147
                    try clear hfz132_0 hfz132_1 hfz132_2 hfz132_3 hfz132_4 hfz132_5 hfz132_6 hfz132_7
                    try clear hx256_0
                    try clear p2
                    try clear p256
                    try clear p64
                    try clear q256
                    obtain ⟨kq, x149_144, rfl, HA, HJ144, BK245, HB⟩ := hcut
                    cases kq with
                    | zero => exact absurd HA.out (by simp [tautochronelaw12_CodeGood.j8])
                    | succ kj144 =>
                     have H := HA.out
                     clear HA
                     simp only [tautochronelaw12_CodeGood.j8] at H
                     by_cases c153 : x149_144 = true
                     ·subst c153
                      have H1 : (some true) = some r := by rw [if_pos rfl] at H; exact H
                      clear H
                      have H := H1
                      clear H1
                      obtain rfl := Option.some.inj H
                      go_wp2
                      go_ret
                      exact ⟨by first | rfl | (simp [errW_none, errW_some] <;> rfl) | (simp [*, errW_none, errW_some] <;> rfl), by repeat (first | (with_reducible first | exact HB.out | apply below_alloc | apply pw_below_drewN | apply below_drew1 | refine below_set ?_ GE245.out) | exact HB.out)⟩
                     ·replace c153 := Bool.eq_false_iff.mpr c153
                      subst c153
                      have H1 : ((tautochronelaw12_uses.f kj144 ((rd_T26 l0 x41_2).f0) ((rd_T26 l0 x41_2).f1) ((rd_T26 l0 x41_2).f2) ((rd_T26 l0 x41_2).f3) ((rd_T26 l0 x41_2).f4) ((rd_T26 l0 x41_2).f5) ((rd_T26 l0 x41_2).f6) ((rd_T26 l0 x41_2).f7)).bind fun t258 => (tautochronelaw12_CodeGood.l2 kj144 l0 x3_7 x4_7 l0 (l0.length : Int) x41_2 t258 (t258.length : Int) 0)) = some r := by rw [if_neg (show ¬ (false = true) by decide)] at H; exact H
                      clear H
                      have H := H1
                      clear H1
                      replace H := Option.bind_eq_some_iff.mp H
                      obtain ⟨t258, A1540, H⟩ := H
                      replace H : (tautochronelaw12_CodeGood.l2 kj144 l0 x3_7 x4_7 l0 (l0.length : Int) x41_2 t258 (t258.length : Int) 0) = some r := H
                      have A154 := Aside0.mk A1540
                      clear A1540
                      have H' := Aside0.mk H
                      clear H
                      have hcz155_0 : wc.cell? ⟨gb245, 0, none⟩ = some (.int .i64 ((rd_T26 l0 x41_2).f0)) := (blk_cell BK245.out 0).trans rfl
                      have hcz155_1 : wc.cell? ⟨gb245, 1, none⟩ = some (.int .i64 ((rd_T26 l0 x41_2).f1)) := (blk_cell BK245.out 1).trans rfl
                      have hcz155_2 : wc.cell? ⟨gb245, 2, none⟩ = some (.int .i64 ((rd_T26 l0 x41_2).f2)) := (blk_cell BK245.out 2).trans rfl
                      have hcz155_3 : wc.cell? ⟨gb245, 3, none⟩ = some (.int .i64 ((rd_T26 l0 x41_2).f3)) := (blk_cell BK245.out 3).trans rfl
                      have hcz155_4 : wc.cell? ⟨gb245, 4, none⟩ = some (.int .i64 ((rd_T26 l0 x41_2).f4)) := (blk_cell BK245.out 4).trans rfl
                      have hcz155_5 : wc.cell? ⟨gb245, 5, none⟩ = some (.int .i64 ((rd_T26 l0 x41_2).f5)) := (blk_cell BK245.out 5).trans rfl
                      have hcz155_6 : wc.cell? ⟨gb245, 6, none⟩ = some (.int .u64 ((rd_T26 l0 x41_2).f6)) := (blk_cell BK245.out 6).trans rfl
                      have hcz155_7 : wc.cell? ⟨gb245, 7, none⟩ = some (.int .i64 ((rd_T26 l0 x41_2).f7)) := (blk_cell BK245.out 7).trans rfl
                      have hfz155_0 := blk_frozen BK245.out 0
                      have hfz155_1 := blk_frozen BK245.out 1
                      have hfz155_2 := blk_frozen BK245.out 2
                      have hfz155_3 := blk_frozen BK245.out 3
                      have hfz155_4 := blk_frozen BK245.out 4
                      have hfz155_5 := blk_frozen BK245.out 5
                      have hfz155_6 := blk_frozen BK245.out 6
                      have hfz155_7 := blk_frozen BK245.out 7
                      go_wp2_with (first | ((with_reducible refine gate_callee (f := 14) rfl ?_); refine goesL_ (some 151) rfl rfl Tryd.func14 (by kernel_rfl) rfl #[.agg #[.int .i64 ((rd_T26 l0 x41_2).f0), .int .i64 ((rd_T26 l0 x41_2).f1), .int .i64 ((rd_T26 l0 x41_2).f2), .int .i64 ((rd_T26 l0 x41_2).f3), .int .i64 ((rd_T26 l0 x41_2).f4), .int .i64 ((rd_T26 l0 x41_2).f5), .int .u64 ((rd_T26 l0 x41_2).f6), .int .i64 ((rd_T26 l0 x41_2).f7)]] rfl (by (try simp only [List.map_toArray, List.map_cons, List.map_nil]); first | done | rfl | (simp only [List.length_drop, List.length_take]; rfl)) ?_; (with_reducible refine (tautochronelaw12_uses.calls kj144 ((rd_T26 l0 x41_2).f0) ((rd_T26 l0 x41_2).f1) ((rd_T26 l0 x41_2).f2) ((rd_T26 l0 x41_2).f3) ((rd_T26 l0 x41_2).f4) ((rd_T26 l0 x41_2).f5) ((rd_T26 l0 x41_2).f6) ((rd_T26 l0 x41_2).f7) t258 _ A154.out).mono ?_); rintro e w156 ⟨v259, rfl, ho0, hb⟩; refine ⟨_, rfl, ?_⟩; have n0_ := Aside0.mk (Kd.R_lower ho0 (below_size (by repeat (first | (with_reducible first | exact HB.out | apply below_alloc | apply pw_below_drewN | apply below_drew1 | refine below_set ?_ GE245.out) | exact HB.out)))); have n1_ := Aside0.mk (blk_below (g := gb245) (o := .cells #[.int .i64 ((rd_T26 l0 x41_2).f0), .int .i64 ((rd_T26 l0 x41_2).f1), .int .i64 ((rd_T26 l0 x41_2).f2), .int .i64 ((rd_T26 l0 x41_2).f3), .int .i64 ((rd_T26 l0 x41_2).f4), .int .i64 ((rd_T26 l0 x41_2).f5), .int .u64 ((rd_T26 l0 x41_2).f6), .int .i64 ((rd_T26 l0 x41_2).f7)] 26 (0, 0)) (by (with_reducible repeat (first | refine blk_drewN ?_ _ | refine blk_drew ?_ | refine blk_alloc ?_ _)); exact BK245.out) hb); have n2_ := Aside0.mk (below_step (by repeat (first | (with_reducible first | exact HB.out | apply below_alloc | apply pw_below_drewN | apply below_drew1 | refine below_set ?_ GE245.out) | exact HB.out)) hb); clear BK245; clear HB; have HO260 := n0_; have BK245 := n1_; have HB := n2_; clear n0_ n1_ n2_; (try clear hb); (try clear hb2); (try clear hk); (try clear hi); (try clear ho0); obtain ⟨Ao157, co157, eo157⟩ := Kd.R_slice HO260.out; subst eo157))
                      go_loopg [153] kj144 (fun kq v153 w' => ∃ (x153_9 : Int), v153 = .int .i64 x153_9 ∧ Aside0 (tautochronelaw12_CodeGood.l2 kq l0 x3_7 x4_7 l0 (l0.length : Int) x41_2 t258 (t258.length : Int) x153_9 = some r) ∧ Aside0 (kq ≤ kj144) ∧ Aside0 (Kd.R (Kd.int .i64) 3 w' w.heap.size (fun _ => True) (.slice Ao157 t258.length co157) t258) ∧ Aside0 (w'.heap[gb245]? = some (.cells #[.int .i64 ((rd_T26 l0 x41_2).f0), .int .i64 ((rd_T26 l0 x41_2).f1), .int .i64 ((rd_T26 l0 x41_2).f2), .int .i64 ((rd_T26 l0 x41_2).f3), .int .i64 ((rd_T26 l0 x41_2).f4), .int .i64 ((rd_T26 l0 x41_2).f5), .int .u64 ((rd_T26 l0 x41_2).f6), .int .i64 ((rd_T26 l0 x41_2).f7)] 26 (0, 0))) ∧ Aside0 (Below w.heap.size w w'))
                      case atStart => exact ⟨(0), (by first | rfl | (simp; done) | (simp [*]; done)), H', ⟨Nat.le_refl _⟩, ⟨by (with_reducible repeat (first | apply Kd.R_alloc | apply Kd.R_drewN | apply Kd.R_drew)); exact HO260.out⟩, ⟨by (with_reducible repeat (first | refine blk_drewN ?_ _ | refine blk_drew ?_ | refine blk_alloc ?_ _)); exact BK245.out⟩, ⟨by repeat (first | (with_reducible first | exact HB.out | apply below_alloc | apply pw_below_drewN | apply below_drew1 | refine below_set ?_ GE245.out) | exact HB.out)⟩⟩
                      case round =>
                       clear H'
                       try clear c1
                       try clear p2
                       try clear q2
                       try clear hx2
                       try clear p6
                       try clear c11
                       try clear c13
                       try clear c14
                       try clear c15
                       try clear p25
                       try clear q25
                       try clear hx25
                       try clear p64
                       try clear c135
                       try clear c135b0
                       try clear c136
                       try clear c137
                       try clear c140
                       try clear c141
                       try clear c141b0
                       try clear c142
                       try clear c142b0
                       try clear c143
                       try clear c143b0
                       try clear c144
                       try clear c144b0
                       try clear c147
                       try clear c153
                       try clear hcz155_0 hcz155_1 hcz155_2 hcz155_3 hcz155_4 hcz155_5 hcz155_6 hcz155_7
                       try clear hfz132_0 hfz132_1 hfz132_2 hfz132_3 hfz132_4 hfz132_5 hfz132_6 hfz132_7
                       try clear hfz155_0 hfz155_1 hfz155_2 hfz155_3 hfz155_4 hfz155_5 hfz155_6 hfz155_7
                       try clear hx256_0
                       try clear p2
                       try clear p25
                       try clear p256
                       try clear p6
                       try clear p64
                       try clear q2
                       try clear q25
                       try clear q256
                       obtain ⟨x153_9, rfl, HA, HK9, HO_151, BK245, HB⟩ := hrel
                       cases gk with
                       | zero => exact absurd HA.out (by simp [tautochronelaw12_CodeGood.l2])
                       | succ k9 =>
                        have H := HA.out
                        clear HA
                        simp only [tautochronelaw12_CodeGood.l2] at H
                        by_cases c158 : x153_9 < (t258.length : Int)
                        ·rw [if_pos c158] at H
                         have c158b0 : decide (x153_9 < (t258.length : Int)) = true := decide_eq_true c158
                         clear c158
                         by_cases c159 : 0 ≤ x153_9
                         rotate_left
                         ·rw [if_neg c159] at H; exact absurd H (by simp)
                         rw [if_pos c159] at H
                         have c159b0 : decide (0 ≤ x153_9) = true := decide_eq_true c159
                         clear c159
                         by_cases c160 : x153_9 < (t258.length : Int)
                         rotate_left
                         ·rw [if_neg c160] at H; exact absurd H (by simp)
                         rw [if_pos c160] at H
                         have c160b0 : decide (x153_9 < (t258.length : Int)) = true := decide_eq_true c160
                         clear c160
                         by_cases c161 : (rd t258 x153_9) ≥ 4611686018427387904
                         ·rw [if_pos c161] at H
                          have c161b0 : decide (4611686018427387904 ≤ (rd t258 x153_9)) = true := decide_eq_true c161
                          clear c161
                          obtain rfl := Option.some.inj H
                          have p261 : 0 ≤ (x153_9 : Int) := of_decide_eq_true (by first | (with_reducible assumption) | assumption)
                          have q261 : x153_9 < (t258.length : Int) := of_decide_eq_true (by first | (with_reducible assumption) | assumption)
                          obtain ⟨ad261, e261, hx261_0⟩ := Kd.at_int (Kd.R_reads' HO_151.out).2.2 x153_9 p261 q261
                          cases e261
                          replace p261 := eq_true p261
                          replace q261 := eq_true q261
                          go_wp2
                          go_ret
                          exact ⟨by first | rfl | (simp [errW_none, errW_some] <;> rfl) | (simp [*, errW_none, errW_some] <;> rfl), by repeat (first | (with_reducible first | exact HB.out | apply below_alloc | apply pw_below_drewN | apply below_drew1 | refine below_set ?_ GE245.out) | exact HB.out)⟩
                         ·rw [if_neg c161] at H
                          have c161b0 : decide (4611686018427387904 ≤ (rd t258 x153_9)) = false := decide_eq_false c161
                          clear c161
                          have H' := Aside0.mk H
                          clear H
                          have p261 : 0 ≤ (x153_9 : Int) := of_decide_eq_true (by first | (with_reducible assumption) | assumption)
                          have q261 : x153_9 < (t258.length : Int) := of_decide_eq_true (by first | (with_reducible assumption) | assumption)
                          obtain ⟨ad261, e261, hx261_0⟩ := Kd.at_int (Kd.R_reads' HO_151.out).2.2 x153_9 p261 q261
                          cases e261
                          replace p261 := eq_true p261
                          replace q261 := eq_true q261
                          go_wp2
                          go_roundg k9
                          case measure => have := HJ5.out; have := HK2.out; have := HJ15.out; have := HJ113.out; have := HJ115.out; have := HJ127.out; have := HK7.out; have := HJ144.out; have := HK9.out; omega
                          case rel => exact ⟨(wrap64 (x153_9 + 1)), (by first | rfl | (simp; done) | (simp [*]; done)), H', ⟨by have := HJ5.out; have := HK2.out; have := HJ15.out; have := HJ113.out; have := HJ115.out; have := HJ127.out; have := HK7.out; have := HJ144.out; have := HK9.out; omega⟩, ⟨by (with_reducible repeat (first | apply Kd.R_alloc | apply Kd.R_drewN | apply Kd.R_drew)); exact HO_151.out⟩, ⟨by (with_reducible repeat (first | refine blk_drewN ?_ _ | refine blk_drew ?_ | refine blk_alloc ?_ _)); exact BK245.out⟩, ⟨by repeat (first | (with_reducible first | exact HB.out | apply below_alloc | apply pw_below_drewN | apply below_drew1 | refine below_set ?_ GE245.out) | exact HB.out)⟩⟩
                        ·rw [if_neg c158] at H
                         have c158b0 : decide (x153_9 < (t258.length : Int)) = false := decide_eq_false c158
                         clear c158
                         have H' := Aside0.mk H
                         clear H
                         go_wp2
                         go_roundg k9
                         case measure => have := HJ5.out; have := HK2.out; have := HJ15.out; have := HJ113.out; have := HJ115.out; have := HJ127.out; have := HK7.out; have := HJ144.out; have := HK9.out; omega
                         case rel => exact ⟨(x3_7), (x4_7), (wrap64 (x41_2 + 1)), (by first | rfl | (simp; done) | (simp [*]; done)), (by first | rfl | (simp; done) | (simp [*]; done)), (by first | rfl | (simp; done) | (simp [*]; done)), H', ⟨by have := HJ5.out; have := HK2.out; have := HJ15.out; have := HJ113.out; have := HJ115.out; have := HJ127.out; have := HK7.out; have := HJ144.out; have := HK9.out; omega⟩, ⟨by repeat (first | (with_reducible first | exact HB.out | apply below_alloc | apply pw_below_drewN | apply below_drew1 | refine below_set ?_ GE245.out) | exact HB.out)⟩⟩
       ·rw [if_neg c13] at H
        have c13b0 : decide (x41_2 < (l0.length : Int)) = false := decide_eq_false c13
        clear c13
        replace H := Option.bind_eq_some_iff.mp H
        obtain ⟨t242, A1620, H⟩ := H
        replace H : (if (t242 == x3_2) = true then ((code_Values.f k2 l0).bind fun t243 => (some (t243 == x4_2))) else (some false)) = some r := H
        have A162 := Aside0.mk A1620
        clear A1620
        by_cases c163 : (t242 == x3_2) = true
        ·rw [if_pos c163] at H
         have c163b0 : (t242 == x3_2) = true := c163
         (try (have c163b1 : decide (t242 = x3_2) = true := by simpa using c163))
         (try (have c163b2 : (t242 == x3_2) = true := by simpa using c163))
         clear c163
         replace H := Option.bind_eq_some_iff.mp H
         obtain ⟨t243, A1640, H⟩ := H
         replace H : (some (t243 == x4_2)) = some r := H
         have A164 := Aside0.mk A1640
         clear A1640
         obtain rfl := Option.some.inj H
         go_wp2_with (first | ((with_reducible refine gate_callee (f := 19) rfl ?_); refine goesL_ (some 162) rfl rfl Tryd.func19 (by kernel_rfl) rfl #[.slice A0 l0.length c0] rfl (by (try simp only [List.map_toArray, List.map_cons, List.map_nil]); first | done | rfl | (simp only [List.length_drop, List.length_take]; rfl)) ?_; (with_reducible refine (code_Good.calls k2 _ _ l0 t242 _ ?side1 ?side2 A162.out).mono ?_); (case side1 => repeat (first | exact (Kd.C_below HR0.out HB.out) | (with_reducible refine Kd.C_alloc ?_ _) | (with_reducible refine Kd.C_drewN ?_ _) | (with_reducible refine Kd.C_drew ?_))); (case side2 => exact HC0.out); rintro e w165 ⟨rfl, hb⟩; refine ⟨_, rfl, ?_⟩; have n0_ := Aside0.mk (below_step (by repeat (first | (with_reducible first | exact HB.out | apply below_alloc | apply pw_below_drewN | apply below_drew1) | exact HB.out)) hb); clear HB; have HB := n0_; clear n0_; (try clear hb); (try clear hb2); (try clear hk); (try clear hi)) | (go_at_call 20; (with_reducible refine (code_Values.calls k2 _ _ l0 t243 _ ?side1 ?side2 A164.out).mono ?_); (case side1 => repeat (first | exact (Kd.C_below HR0.out HB.out) | (with_reducible refine Kd.C_alloc ?_ _) | (with_reducible refine Kd.C_drewN ?_ _) | (with_reducible refine Kd.C_drew ?_))); (case side2 => exact HC0.out); rintro e w166 ⟨rfl, hb⟩; have n0_ := Aside0.mk (below_step (by repeat (first | (with_reducible first | exact HB.out | apply below_alloc | apply pw_below_drewN | apply below_drew1) | exact HB.out)) hb); clear HB; have HB := n0_; clear n0_; (try clear hb); (try clear hb2); (try clear hk); (try clear hi)))
         go_ret
         exact ⟨by first | rfl | (simp [errW_none, errW_some] <;> rfl) | (simp [*, errW_none, errW_some] <;> rfl), by repeat (first | (with_reducible first | exact HB.out | apply below_alloc | apply pw_below_drewN | apply below_drew1) | exact HB.out)⟩
        ·rw [if_neg c163] at H
         have c163b0 : (t242 == x3_2) = false := by simpa using c163
         (try (have c163b1 : decide (t242 = x3_2) = false := by simpa using c163))
         (try (have c163b2 : (t242 == x3_2) = false := by simpa using c163))
         (try (have c163b3 : ¬ (t242 = x3_2) := by simpa using c163))
         clear c163
         obtain rfl := Option.some.inj H
         go_wp2_with (first | ((with_reducible refine gate_callee (f := 19) rfl ?_); refine goesL_ (some 162) rfl rfl Tryd.func19 (by kernel_rfl) rfl #[.slice A0 l0.length c0] rfl (by (try simp only [List.map_toArray, List.map_cons, List.map_nil]); first | done | rfl | (simp only [List.length_drop, List.length_take]; rfl)) ?_; (with_reducible refine (code_Good.calls k2 _ _ l0 t242 _ ?side1 ?side2 A162.out).mono ?_); (case side1 => repeat (first | exact (Kd.C_below HR0.out HB.out) | (with_reducible refine Kd.C_alloc ?_ _) | (with_reducible refine Kd.C_drewN ?_ _) | (with_reducible refine Kd.C_drew ?_))); (case side2 => exact HC0.out); rintro e w167 ⟨rfl, hb⟩; refine ⟨_, rfl, ?_⟩; have n0_ := Aside0.mk (below_step (by repeat (first | (with_reducible first | exact HB.out | apply below_alloc | apply pw_below_drewN | apply below_drew1) | exact HB.out)) hb); clear HB; have HB := n0_; clear n0_; (try clear hb); (try clear hb2); (try clear hk); (try clear hi)))
         go_ret
         exact ⟨by first | rfl | (simp [errW_none, errW_some] <;> rfl) | (simp [*, errW_none, errW_some] <;> rfl), by repeat (first | (with_reducible first | exact HB.out | apply below_alloc | apply pw_below_drewN | apply below_drew1) | exact HB.out)⟩
 ·replace c3 := Bool.eq_false_iff.mpr c3
  subst c3
  have H1 : (some false) = some r := by rw [if_neg (show ¬ (false = true) by decide)] at H; exact H
  clear H
  have H := H1
  clear H1
  obtain rfl := Option.some.inj H
  go_enter Tryd.func5, Tryd.ntmps5
  go_wp2_with (first | ((with_reducible refine gate_callee (f := 8) rfl ?_); refine goesL_ (some 11) rfl rfl Tryd.func8 (by kernel_rfl) rfl #[] rfl (by (try simp only [List.map_toArray, List.map_cons, List.map_nil]); first | done | rfl | (simp only [List.length_drop, List.length_take]; rfl)) ?_; (with_reducible refine (tautochronelaw12_awake.calls k  false _ A2.out).mono ?_); rintro e w168 ⟨rfl, hb⟩; refine ⟨_, rfl, ?_⟩; have n0_ := Aside0.mk (below_step (by repeat (first | (with_reducible first | exact HB.out | apply below_alloc | apply pw_below_drewN | apply below_drew1) | exact HB.out)) hb); clear HB; have HB := n0_; clear n0_; (try clear hb); (try clear hb2); (try clear hk); (try clear hi)))
  go_ret
  exact ⟨by first | rfl | (simp [errW_none, errW_some] <;> rfl) | (simp [*, errW_none, errW_some] <;> rfl), by repeat (first | (with_reducible first | exact HB.out | apply below_alloc | apply pw_below_drewN | apply below_drew1) | exact HB.out)⟩

end Go.Proofs.YtcgnbknbnbgcmaaDoor.PQ
