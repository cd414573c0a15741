-- Written by a program of this session (wip/tools/extprint.py, pr.sh).
import Derived.Test.YtcgnbknbnbgcmaaDoorPQx0
import Derived.Test.YtcgnbknbnbgcmaaDoorPQx2
import Derived.Test.YtcgnbknbnbgcmaaDoorPQx4
namespace Go.Proofs.YtcgnbknbnbgcmaaDoor.PQ
open Go.RowKit Go.Proofs.YtcgnbknbnbgcmaaDoorW.PrintWords Go.Proofs.YtcgnbknbnbgcmaaDoorW.PrintLast Go.Proofs.YtcgnbknbnbgcmaaDoorW.PrintMore
attribute [local go_sem] max2_int min2_int max_two min_two max_three min_three max_four min_four   -- for this text's walks alone
set_option linter.unusedVariables false
set_option linter.unusedSimpArgs false

/-! ### tautochronelaw12_awake: function 8 -/
def tautochronelaw12_awake.f (k : Nat)  : Option (Bool) := (code_Text.f k 2 1 3 1 2 0 0 0).bind fun t182 => (if t182.toList = ([100, 111, 32, 118, 51, 32, 45, 32, 118, 49, 32, 118, 50] : List UInt8) then ((code_Text.f k 4 0 1 (-1) 0 0 5 0).bind fun t183 => (if t183.toList = ([114, 101, 97, 100, 32, 118, 49, 32, 53] : List UInt8) then ((code_Good.f k (([(⟨13, 0, 0, 0, 0, 0, 0, 0⟩ : S26)] : List (S26)))).bind fun t187 => (some t187)) else (some false))) else (some false))
theorem tautochronelaw12_awake.mono : ∀ k, LeO (tautochronelaw12_awake.f k ) (tautochronelaw12_awake.f (k + 1) ) := by
  intro  k
  unfold tautochronelaw12_awake.f
  repeat' first
      | (with_reducible exact code_Good.mono _ _)
      | (with_reducible exact code_Text.mono _ _ _ _ _ _ _ _ _)
      | (with_reducible exact LeO.refl _)
      | (with_reducible exact LeO.none _)
      | (with_reducible refine LeO.ite ?_ ?_)
      | (with_reducible refine LeO.bind ?_ (fun _ => ?_))
      | exact code_Good.mono _ _
      | exact code_Text.mono _ _ _ _ _ _ _ _ _
      | exact LeO.none _
      | refine LeO.ite ?_ ?_
      | refine LeO.bind ?_ (fun _ => ?_)
set_option maxHeartbeats 8000000 in
set_option maxRecDepth 100000 in
theorem tautochronelaw12_awake.calls (k : Nat)  (r : Bool) (w : World) (h : tautochronelaw12_awake.f k  = some r) :
    Calls Tryd.prog 8 #[] w fun e w' => e = .returned (.bool r) ∧ Below w.heap.size w w' := by
  have hu26 := Tryd.underlying26
  have HB := Aside0.mk (Below.refl w.heap.size w)
  have H : ((code_Text.f k 2 1 3 1 2 0 0 0).bind fun t182 => (if t182.toList = ([100, 111, 32, 118, 51, 32, 45, 32, 118, 49, 32, 118, 50] : List UInt8) then ((code_Text.f k 4 0 1 (-1) 0 0 5 0).bind fun t183 => (if t183.toList = ([114, 101, 97, 100, 32, 118, 49, 32, 53] : List UInt8) then ((code_Good.f k (([(⟨13, 0, 0, 0, 0, 0, 0, 0⟩ : S26)] : List (S26)))).bind fun t187 => (some t187)) else (some false))) else (some false))) = some r := h
  clear h
  replace H := Option.bind_eq_some_iff.mp H
  obtain ⟨t182, A10, H⟩ := H
  replace H : (if t182.toList = ([100, 111, 32, 118, 51, 32, 45, 32, 118, 49, 32, 118, 50] : List UInt8) then ((code_Text.f k 4 0 1 (-1) 0 0 5 0).bind fun t183 => (if t183.toList = ([114, 101, 97, 100, 32, 118, 49, 32, 53] : List UInt8) then ((code_Good.f k (([(⟨13, 0, 0, 0, 0, 0, 0, 0⟩ : S26)] : List (S26)))).bind fun t187 => (some t187)) else (some false))) else (some false)) = some r := H
  have A1 := Aside0.mk A10
  clear A10
  by_cases c2 : t182.toList = ([100, 111, 32, 118, 51, 32, 45, 32, 118, 49, 32, 118, 50] : List UInt8)
  · rw [if_pos c2] at H
    have c2b0 : (t182.toList == ([100, 111, 32, 118, 51, 32, 45, 32, 118, 49, 32, 118, 50] : List UInt8)) = true := beq_iff_eq.mpr c2
    have c2b1 : (t182.toList != ([100, 111, 32, 118, 51, 32, 45, 32, 118, 49, 32, 118, 50] : List UInt8)) = false := bne_eq_false_iff_eq.mpr c2
    clear c2
    replace H := Option.bind_eq_some_iff.mp H
    obtain ⟨t183, A30, H⟩ := H
    replace H : (if t183.toList = ([114, 101, 97, 100, 32, 118, 49, 32, 53] : List UInt8) then ((code_Good.f k (([(⟨13, 0, 0, 0, 0, 0, 0, 0⟩ : S26)] : List (S26)))).bind fun t187 => (some t187)) else (some false)) = some r := H
    have A3 := Aside0.mk A30
    clear A30
    by_cases c4 : t183.toList = ([114, 101, 97, 100, 32, 118, 49, 32, 53] : List UInt8)
    · rw [if_pos c4] at H
      have c4b0 : (t183.toList == ([114, 101, 97, 100, 32, 118, 49, 32, 53] : List UInt8)) = true := beq_iff_eq.mpr c4
      have c4b1 : (t183.toList != ([114, 101, 97, 100, 32, 118, 49, 32, 53] : List UInt8)) = false := bne_eq_false_iff_eq.mpr c4
      clear c4
      obtain ⟨y184, hy184⟩ : ∃ y_ : List (S26), y_ = (([(⟨13, 0, 0, 0, 0, 0, 0, 0⟩ : S26)] : List (S26))) := ⟨_, rfl⟩
      replace H : ((code_Good.f k y184).bind fun t187 => (some t187)) = some r := by first | (rw [hy184]; with_reducible exact H) | (have H2_ := (Option.bind_some _ _).symm.trans H; rw [hy184]; with_reducible exact H2_) | (have H2_ := (Option.bind_some _ _).symm.trans H; with_reducible exact H2_) | with_reducible exact H | (rw [hy184]; exact H) | exact H
      have Ny184 := Aside0.mk hy184
      clear hy184
      replace H := Option.bind_eq_some_iff.mp H
      obtain ⟨t187, A50, H⟩ := H
      replace H : (some t187) = some r := H
      have A5 := Aside0.mk A50
      clear A50
      obtain rfl := Option.some.inj H
      go_enter Tryd.func8, Tryd.ntmps8
      go_wp2_with (first | ((with_reducible refine gate_callee (f := 15) rfl ?_); refine goesL_ (some 2) rfl rfl Tryd.func15 (by kernel_rfl) rfl #[.agg #[.int .i64 2, .int .i64 1, .int .i64 3, .int .i64 1, .int .i64 2, .int .i64 0, .int .u64 0, .int .i64 0]] rfl (by (try simp only [List.map_toArray, List.map_cons, List.map_nil]); first | done | rfl | (simp only [List.length_drop, List.length_take]; rfl)) ?_; (with_reducible refine (code_Text.calls k 2 1 3 1 2 0 0 0 t182 _ A1.out).mono ?_); rintro e w6 ⟨rfl, hb⟩; refine ⟨_, rfl, ?_⟩; have n0_ := Aside0.mk (below_step (by repeat (first | (with_reducible first | exact HB.out | apply below_alloc | apply pw_below_drewN | apply below_drew1) | exact HB.out)) hb); clear HB; have HB := n0_; clear n0_; (try clear hb); (try clear hb2); (try clear hk); (try clear hi)) | (go_at_call 15; (with_reducible refine (code_Text.calls k 4 0 1 (-1) 0 0 5 0 t183 _ A3.out).mono ?_); rintro e w7 ⟨rfl, hb⟩; have n0_ := Aside0.mk (below_step (by repeat (first | (with_reducible first | exact HB.out | apply below_alloc | apply pw_below_drewN | apply below_drew1) | exact HB.out)) hb); clear HB; have HB := n0_; clear n0_; (try clear hb); (try clear hb2); (try clear hk); (try clear hi)) | ((with_reducible refine gate_dst (N := 11) rfl ?_); (try (refine gate_guard (by rfl) ?_; dsimp only)); refine Kd.R_lit k26 _ 26 ?hg (N := 11) ?hd (xs := ([(⟨13, 0, 0, 0, 0, 0, 0, 0⟩ : S26)] : List (S26))) (inner := [.int .i64 13, .int .i64 0, .int .i64 0, .int .i64 0, .int .i64 0, .int .i64 0, .int .u64 0, .int .i64 0]) (ok := fun _ => True) (okp := fun _ => True) ?hr ?hp (fun _ hk => hk) trivial (Below.refl _ _) (Nat.le_refl _) (by simp) ?_; (case hd => rfl); (case hg => rfl); (case hr => first | (go_simp; done) | (go_simp; rfl)); (case hp => exact (Reps.c8 (show Kd.M k26 _ _ _ (⟨13, 0, 0, 0, 0, 0, 0, 0⟩ : S26) [.int .i64 13, .int .i64 0, .int .i64 0, .int .i64 0, .int .i64 0, .int .i64 0, .int .u64 0, .int .i64 0] from (k26_mkM _ _ _ (⟨13, 0, 0, 0, 0, 0, 0, 0⟩ : S26) )) (Reps.none _ _))); intro v185 w8 ho9 hb hg_ hnew_; clear hg_ hnew_; (first | rw [← Ny184.out] at ho9 | (simp only [Int.reduceToNat] at ho9; rw [← Ny184.out] at ho9)); have n0_ := Aside0.mk (Kd.R_lower ho9 (below_size (by repeat (first | (with_reducible first | exact HB.out | apply below_alloc | apply pw_below_drewN | apply below_drew1) | exact HB.out)))); have n1_ := Aside0.mk (below_step (by repeat (first | (with_reducible first | exact HB.out | apply below_alloc | apply pw_below_drewN | apply below_drew1) | exact HB.out)) hb); clear HB; have HO186 := n0_; have HB := n1_; clear n0_ n1_; clear hb ho9; obtain ⟨Ao10, co10, eo10⟩ := Kd.R_slice HO186.out; subst eo10) | (go_at_call 19; (with_reducible refine (code_Good.calls k _ _ y184 t187 _ ?side1 ?side2 A5.out).mono ?_); (case side1 => repeat (first | exact (Kd.R_reads' HO186.out).2.2 | (with_reducible refine Kd.C_alloc ?_ _) | (with_reducible refine Kd.C_drewN ?_ _) | (with_reducible refine Kd.C_drew ?_))); (case side2 => exact (Kd.R_reads' HO186.out).2.1); rintro e w11 ⟨rfl, hb⟩; have n0_ := Aside0.mk (Kd.R_below (by (with_reducible repeat (first | apply Kd.R_alloc | apply Kd.R_drewN | apply Kd.R_drew)); exact HO186.out) hb); have n1_ := Aside0.mk (below_step (by repeat (first | (with_reducible first | exact HB.out | apply below_alloc | apply pw_below_drewN | apply below_drew1) | exact HB.out)) hb); clear HO186; clear HB; have HO186 := n0_; have HB := n1_; clear n0_ n1_; (try clear hb); (try clear hb2); (try clear hk); (try clear hi)))
      go_ret
      exact ⟨by first | rfl | (simp [errW_none, errW_some] <;> rfl) | (simp [*, errW_none, errW_some] <;> rfl), by repeat (first | (with_reducible first | exact HB.out | apply below_alloc | apply pw_below_drewN | apply below_drew1) | exact HB.out)⟩
    · rw [if_neg c4] at H
      have c4b0 : (t183.toList == ([114, 101, 97, 100, 32, 118, 49, 32, 53] : List UInt8)) = false := beq_eq_false_iff_ne.mpr c4
      have c4b1 : (t183.toList != ([114, 101, 97, 100, 32, 118, 49, 32, 53] : List UInt8)) = true := bne_iff_ne.mpr c4
      obtain rfl := Option.some.inj H
      go_enter Tryd.func8, Tryd.ntmps8
      go_wp2_with (first | ((with_reducible refine gate_callee (f := 15) rfl ?_); refine goesL_ (some 2) rfl rfl Tryd.func15 (by kernel_rfl) rfl #[.agg #[.int .i64 2, .int .i64 1, .int .i64 3, .int .i64 1, .int .i64 2, .int .i64 0, .int .u64 0, .int .i64 0]] rfl (by (try simp only [List.map_toArray, List.map_cons, List.map_nil]); first | done | rfl | (simp only [List.length_drop, List.length_take]; rfl)) ?_; (with_reducible refine (code_Text.calls k 2 1 3 1 2 0 0 0 t182 _ A1.out).mono ?_); rintro e w12 ⟨rfl, hb⟩; refine ⟨_, rfl, ?_⟩; have n0_ := Aside0.mk (below_step (by repeat (first | (with_reducible first | exact HB.out | apply below_alloc | apply pw_below_drewN | apply below_drew1) | exact HB.out)) hb); clear HB; have HB := n0_; clear n0_; (try clear hb); (try clear hb2); (try clear hk); (try clear hi)) | (go_at_call 15; (with_reducible refine (code_Text.calls k 4 0 1 (-1) 0 0 5 0 t183 _ A3.out).mono ?_); rintro e w13 ⟨rfl, hb⟩; have n0_ := Aside0.mk (below_step (by repeat (first | (with_reducible first | exact HB.out | apply below_alloc | apply pw_below_drewN | apply below_drew1) | exact HB.out)) hb); clear HB; have HB := n0_; clear n0_; (try clear hb); (try clear hb2); (try clear hk); (try clear hi)))
      go_ret
      exact ⟨by first | rfl | (simp [errW_none, errW_some] <;> rfl) | (simp [*, errW_none, errW_some] <;> rfl), by repeat (first | (with_reducible first | exact HB.out | apply below_alloc | apply pw_below_drewN | apply below_drew1) | exact HB.out)⟩
  · rw [if_neg c2] at H
    have c2b0 : (t182.toList == ([100, 111, 32, 118, 51, 32, 45, 32, 118, 49, 32, 118, 50] : List UInt8)) = false := beq_eq_false_iff_ne.mpr c2
    have c2b1 : (t182.toList != ([100, 111, 32, 118, 51, 32, 45, 32, 118, 49, 32, 118, 50] : List UInt8)) = true := bne_iff_ne.mpr c2
    obtain rfl := Option.some.inj H
    go_enter Tryd.func8, Tryd.ntmps8
    go_wp2_with (first | ((with_reducible refine gate_callee (f := 15) rfl ?_); refine goesL_ (some 2) rfl rfl Tryd.func15 (by kernel_rfl) rfl #[.agg #[.int .i64 2, .int .i64 1, .int .i64 3, .int .i64 1, .int .i64 2, .int .i64 0, .int .u64 0, .int .i64 0]] rfl (by (try simp only [List.map_toArray, List.map_cons, List.map_nil]); first | done | rfl | (simp only [List.length_drop, List.length_take]; rfl)) ?_; (with_reducible refine (code_Text.calls k 2 1 3 1 2 0 0 0 t182 _ A1.out).mono ?_); rintro e w14 ⟨rfl, hb⟩; refine ⟨_, rfl, ?_⟩; have n0_ := Aside0.mk (below_step (by repeat (first | (with_reducible first | exact HB.out | apply below_alloc | apply pw_below_drewN | apply below_drew1) | exact HB.out)) hb); clear HB; have HB := n0_; clear n0_; (try clear hb); (try clear hb2); (try clear hk); (try clear hi)))
    go_ret
    exact ⟨by first | rfl | (simp [errW_none, errW_some] <;> rfl) | (simp [*, errW_none, errW_some] <;> rfl), by repeat (first | (with_reducible first | exact HB.out | apply below_alloc | apply pw_below_drewN | apply below_drew1) | exact HB.out)⟩

/-! ### tautochronelaw12_sets: function 11 -/
def tautochronelaw12_sets.f (a0_0 : Int) (a0_1 : Int) (a0_2 : Int) (a0_3 : Int) (a0_4 : Int) (a0_5 : Int) (a0_6 : Int) (a0_7 : Int) : Option (Bool) := if a0_0 = 0 then (some true) else (if a0_0 = 1 then (some true) else (if a0_0 = 2 then (some true) else (if a0_0 = 3 then (some true) else (some (a0_0 == 4)))))
set_option maxHeartbeats 8000000 in
set_option maxRecDepth 100000 in
theorem tautochronelaw12_sets.calls (a0_0 : Int) (a0_1 : Int) (a0_2 : Int) (a0_3 : Int) (a0_4 : Int) (a0_5 : Int) (a0_6 : Int) (a0_7 : Int) (r : Bool) (w : World) (h : tautochronelaw12_sets.f a0_0 a0_1 a0_2 a0_3 a0_4 a0_5 a0_6 a0_7 = some r) :
    Calls Tryd.prog 11 #[.agg #[.int .i64 a0_0, .int .i64 a0_1, .int .i64 a0_2, .int .i64 a0_3, .int .i64 a0_4, .int .i64 a0_5, .int .u64 a0_6, .int .i64 a0_7]] w fun e w' => e = .returned (.bool r) ∧ Below w.heap.size w w' := by
  have hu26 := Tryd.underlying26
  have HB := Aside0.mk (Below.refl w.heap.size w)
  have H : (if a0_0 = 0 then (some true) else (if a0_0 = 1 then (some true) else (if a0_0 = 2 then (some true) else (if a0_0 = 3 then (some true) else (some (a0_0 == 4)))))) = some r := h
  clear h
  by_cases c2 : a0_0 = 0
  · rw [if_pos c2] at H
    have c2b0 : (a0_0 == 0) = true := beq_iff_eq.mpr c2
    have c2b1 : (a0_0 != 0) = false := bne_eq_false_iff_eq.mpr c2
    clear c2
    obtain rfl := Option.some.inj H
    go_enter Tryd.func11, Tryd.ntmps11
    go_wp2_with (first | ((with_reducible refine gate_dst (N := 1) rfl ?_); refine box_event ?hg (N := 1) ?hd (cs := #[.int .i64 a0_0, .int .i64 a0_1, .int .i64 a0_2, .int .i64 a0_3, .int .i64 a0_4, .int .i64 a0_5, .int .u64 a0_6, .int .i64 a0_7]) (t := 26) ?hr ?_; (case hd => rfl); (case hg => rfl); (case hr => first | (go_simp; done) | (go_simp; rfl)); intro gb188 hg w3 hbox hb; have n0_ := Aside0.mk (below_step (by repeat (first | (with_reducible first | exact HB.out | apply below_alloc | apply pw_below_drewN | apply below_drew1) | exact HB.out)) hb); have n1_ := Aside0.mk (hbox); have n2_ := Aside0.mk ((by rw [hg]; exact (below_size (by repeat (first | (with_reducible first | exact HB.out | apply below_alloc | apply pw_below_drewN | apply below_drew1) | exact HB.out))) : w.heap.size ≤ gb188)); have n3_ := Aside0.mk ((by rw [hg]; exact (below_size (by repeat (first | (with_reducible first | exact HB.out | apply below_alloc | apply pw_below_drewN | apply below_drew1) | exact HB.out))) : w.heap.size ≤ gb188)); clear HB; have HB := n0_; have BK188 := n1_; have GW188 := n2_; have GE188 := n3_; clear n0_ n1_ n2_ n3_; clear hb hbox hg; have hcz4_0 : w3.cell? ⟨gb188, 0, none⟩ = some (.int .i64 a0_0) := (blk_cell BK188.out 0).trans rfl; have hcz4_1 : w3.cell? ⟨gb188, 1, none⟩ = some (.int .i64 a0_1) := (blk_cell BK188.out 1).trans rfl; have hcz4_2 : w3.cell? ⟨gb188, 2, none⟩ = some (.int .i64 a0_2) := (blk_cell BK188.out 2).trans rfl; have hcz4_3 : w3.cell? ⟨gb188, 3, none⟩ = some (.int .i64 a0_3) := (blk_cell BK188.out 3).trans rfl; have hcz4_4 : w3.cell? ⟨gb188, 4, none⟩ = some (.int .i64 a0_4) := (blk_cell BK188.out 4).trans rfl; have hcz4_5 : w3.cell? ⟨gb188, 5, none⟩ = some (.int .i64 a0_5) := (blk_cell BK188.out 5).trans rfl; have hcz4_6 : w3.cell? ⟨gb188, 6, none⟩ = some (.int .u64 a0_6) := (blk_cell BK188.out 6).trans rfl; have hcz4_7 : w3.cell? ⟨gb188, 7, none⟩ = some (.int .i64 a0_7) := (blk_cell BK188.out 7).trans rfl; have hfz4_0 := blk_frozen BK188.out 0; have hfz4_1 := blk_frozen BK188.out 1; have hfz4_2 := blk_frozen BK188.out 2; have hfz4_3 := blk_frozen BK188.out 3; have hfz4_4 := blk_frozen BK188.out 4; have hfz4_5 := blk_frozen BK188.out 5; have hfz4_6 := blk_frozen BK188.out 6; have hfz4_7 := blk_frozen BK188.out 7))
    go_ret
    exact ⟨by first | rfl | (simp [errW_none, errW_some] <;> rfl) | (simp [*, errW_none, errW_some] <;> rfl), by repeat (first | (with_reducible first | exact HB.out | apply below_alloc | apply pw_below_drewN | apply below_drew1 | refine below_set ?_ GE188.out) | exact HB.out)⟩
  · rw [if_neg c2] at H
    have c2b0 : (a0_0 == 0) = false := beq_eq_false_iff_ne.mpr c2
    have c2b1 : (a0_0 != 0) = true := bne_iff_ne.mpr c2
    by_cases c5 : a0_0 = 1
    · rw [if_pos c5] at H
      have c5b0 : (a0_0 == 1) = true := beq_iff_eq.mpr c5
      have c5b1 : (a0_0 != 1) = false := bne_eq_false_iff_eq.mpr c5
      clear c5
      obtain rfl := Option.some.inj H
      go_enter Tryd.func11, Tryd.ntmps11
      go_wp2_with (first | ((with_reducible refine gate_dst (N := 1) rfl ?_); refine box_event ?hg (N := 1) ?hd (cs := #[.int .i64 a0_0, .int .i64 a0_1, .int .i64 a0_2, .int .i64 a0_3, .int .i64 a0_4, .int .i64 a0_5, .int .u64 a0_6, .int .i64 a0_7]) (t := 26) ?hr ?_; (case hd => rfl); (case hg => rfl); (case hr => first | (go_simp; done) | (go_simp; rfl)); intro gb188 hg w6 hbox hb; have n0_ := Aside0.mk (below_step (by repeat (first | (with_reducible first | exact HB.out | apply below_alloc | apply pw_below_drewN | apply below_drew1) | exact HB.out)) hb); have n1_ := Aside0.mk (hbox); have n2_ := Aside0.mk ((by rw [hg]; exact (below_size (by repeat (first | (with_reducible first | exact HB.out | apply below_alloc | apply pw_below_drewN | apply below_drew1) | exact HB.out))) : w.heap.size ≤ gb188)); have n3_ := Aside0.mk ((by rw [hg]; exact (below_size (by repeat (first | (with_reducible first | exact HB.out | apply below_alloc | apply pw_below_drewN | apply below_drew1) | exact HB.out))) : w.heap.size ≤ gb188)); clear HB; have HB := n0_; have BK188 := n1_; have GW188 := n2_; have GE188 := n3_; clear n0_ n1_ n2_ n3_; clear hb hbox hg; have hcz7_0 : w6.cell? ⟨gb188, 0, none⟩ = some (.int .i64 a0_0) := (blk_cell BK188.out 0).trans rfl; have hcz7_1 : w6.cell? ⟨gb188, 1, none⟩ = some (.int .i64 a0_1) := (blk_cell BK188.out 1).trans rfl; have hcz7_2 : w6.cell? ⟨gb188, 2, none⟩ = some (.int .i64 a0_2) := (blk_cell BK188.out 2).trans rfl; have hcz7_3 : w6.cell? ⟨gb188, 3, none⟩ = some (.int .i64 a0_3) := (blk_cell BK188.out 3).trans rfl; have hcz7_4 : w6.cell? ⟨gb188, 4, none⟩ = some (.int .i64 a0_4) := (blk_cell BK188.out 4).trans rfl; have hcz7_5 : w6.cell? ⟨gb188, 5, none⟩ = some (.int .i64 a0_5) := (blk_cell BK188.out 5).trans rfl; have hcz7_6 : w6.cell? ⟨gb188, 6, none⟩ = some (.int .u64 a0_6) := (blk_cell BK188.out 6).trans rfl; have hcz7_7 : w6.cell? ⟨gb188, 7, none⟩ = some (.int .i64 a0_7) := (blk_cell BK188.out 7).trans rfl; have hfz7_0 := blk_frozen BK188.out 0; have hfz7_1 := blk_frozen BK188.out 1; have hfz7_2 := blk_frozen BK188.out 2; have hfz7_3 := blk_frozen BK188.out 3; have hfz7_4 := blk_frozen BK188.out 4; have hfz7_5 := blk_frozen BK188.out 5; have hfz7_6 := blk_frozen BK188.out 6; have hfz7_7 := blk_frozen BK188.out 7))
      go_ret
      exact ⟨by first | rfl | (simp [errW_none, errW_some] <;> rfl) | (simp [*, errW_none, errW_some] <;> rfl), by repeat (first | (with_reducible first | exact HB.out | apply below_alloc | apply pw_below_drewN | apply below_drew1 | refine below_set ?_ GE188.out) | exact HB.out)⟩
    · rw [if_neg c5] at H
      have c5b0 : (a0_0 == 1) = false := beq_eq_false_iff_ne.mpr c5
      have c5b1 : (a0_0 != 1) = true := bne_iff_ne.mpr c5
      by_cases c8 : a0_0 = 2
      · rw [if_pos c8] at H
        have c8b0 : (a0_0 == 2) = true := beq_iff_eq.mpr c8
        have c8b1 : (a0_0 != 2) = false := bne_eq_false_iff_eq.mpr c8
        clear c8
        obtain rfl := Option.some.inj H
        go_enter Tryd.func11, Tryd.ntmps11
        go_wp2_with (first | ((with_reducible refine gate_dst (N := 1) rfl ?_); refine box_event ?hg (N := 1) ?hd (cs := #[.int .i64 a0_0, .int .i64 a0_1, .int .i64 a0_2, .int .i64 a0_3, .int .i64 a0_4, .int .i64 a0_5, .int .u64 a0_6, .int .i64 a0_7]) (t := 26) ?hr ?_; (case hd => rfl); (case hg => rfl); (case hr => first | (go_simp; done) | (go_simp; rfl)); intro gb188 hg w9 hbox hb; have n0_ := Aside0.mk (below_step (by repeat (first | (with_reducible first | exact HB.out | apply below_alloc | apply pw_below_drewN | apply below_drew1) | exact HB.out)) hb); have n1_ := Aside0.mk (hbox); have n2_ := Aside0.mk ((by rw [hg]; exact (below_size (by repeat (first | (with_reducible first | exact HB.out | apply below_alloc | apply pw_below_drewN | apply below_drew1) | exact HB.out))) : w.heap.size ≤ gb188)); have n3_ := Aside0.mk ((by rw [hg]; exact (below_size (by repeat (first | (with_reducible first | exact HB.out | apply below_alloc | apply pw_below_drewN | apply below_drew1) | exact HB.out))) : w.heap.size ≤ gb188)); clear HB; have HB := n0_; have BK188 := n1_; have GW188 := n2_; have GE188 := n3_; clear n0_ n1_ n2_ n3_; clear hb hbox hg; have hcz10_0 : w9.cell? ⟨gb188, 0, none⟩ = some (.int .i64 a0_0) := (blk_cell BK188.out 0).trans rfl; have hcz10_1 : w9.cell? ⟨gb188, 1, none⟩ = some (.int .i64 a0_1) := (blk_cell BK188.out 1).trans rfl; have hcz10_2 : w9.cell? ⟨gb188, 2, none⟩ = some (.int .i64 a0_2) := (blk_cell BK188.out 2).trans rfl; have hcz10_3 : w9.cell? ⟨gb188, 3, none⟩ = some (.int .i64 a0_3) := (blk_cell BK188.out 3).trans rfl; have hcz10_4 : w9.cell? ⟨gb188, 4, none⟩ = some (.int .i64 a0_4) := (blk_cell BK188.out 4).trans rfl; have hcz10_5 : w9.cell? ⟨gb188, 5, none⟩ = some (.int .i64 a0_5) := (blk_cell BK188.out 5).trans rfl; have hcz10_6 : w9.cell? ⟨gb188, 6, none⟩ = some (.int .u64 a0_6) := (blk_cell BK188.out 6).trans rfl; have hcz10_7 : w9.cell? ⟨gb188, 7, none⟩ = some (.int .i64 a0_7) := (blk_cell BK188.out 7).trans rfl; have hfz10_0 := blk_frozen BK188.out 0; have hfz10_1 := blk_frozen BK188.out 1; have hfz10_2 := blk_frozen BK188.out 2; have hfz10_3 := blk_frozen BK188.out 3; have hfz10_4 := blk_frozen BK188.out 4; have hfz10_5 := blk_frozen BK188.out 5; have hfz10_6 := blk_frozen BK188.out 6; have hfz10_7 := blk_frozen BK188.out 7))
        go_ret
        exact ⟨by first | rfl | (simp [errW_none, errW_some] <;> rfl) | (simp [*, errW_none, errW_some] <;> rfl), by repeat (first | (with_reducible first | exact HB.out | apply below_alloc | apply pw_below_drewN | apply below_drew1 | refine below_set ?_ GE188.out) | exact HB.out)⟩
      · rw [if_neg c8] at H
        have c8b0 : (a0_0 == 2) = false := beq_eq_false_iff_ne.mpr c8
        have c8b1 : (a0_0 != 2) = true := bne_iff_ne.mpr c8
        by_cases c11 : a0_0 = 3
        · rw [if_pos c11] at H
          have c11b0 : (a0_0 == 3) = true := beq_iff_eq.mpr c11
          have c11b1 : (a0_0 != 3) = false := bne_eq_false_iff_eq.mpr c11
          clear c11
          obtain rfl := Option.some.inj H
          go_enter Tryd.func11, Tryd.ntmps11
          go_wp2_with (first | ((with_reducible refine gate_dst (N := 1) rfl ?_); refine box_event ?hg (N := 1) ?hd (cs := #[.int .i64 a0_0, .int .i64 a0_1, .int .i64 a0_2, .int .i64 a0_3, .int .i64 a0_4, .int .i64 a0_5, .int .u64 a0_6, .int .i64 a0_7]) (t := 26) ?hr ?_; (case hd => rfl); (case hg => rfl); (case hr => first | (go_simp; done) | (go_simp; rfl)); intro gb188 hg w12 hbox hb; have n0_ := Aside0.mk (below_step (by repeat (first | (with_reducible first | exact HB.out | apply below_alloc | apply pw_below_drewN | apply below_drew1) | exact HB.out)) hb); have n1_ := Aside0.mk (hbox); have n2_ := Aside0.mk ((by rw [hg]; exact (below_size (by repeat (first | (with_reducible first | exact HB.out | apply below_alloc | apply pw_below_drewN | apply below_drew1) | exact HB.out))) : w.heap.size ≤ gb188)); have n3_ := Aside0.mk ((by rw [hg]; exact (below_size (by repeat (first | (with_reducible first | exact HB.out | apply below_alloc | apply pw_below_drewN | apply below_drew1) | exact HB.out))) : w.heap.size ≤ gb188)); clear HB; have HB := n0_; have BK188 := n1_; have GW188 := n2_; have GE188 := n3_; clear n0_ n1_ n2_ n3_; clear hb hbox hg; have hcz13_0 : w12.cell? ⟨gb188, 0, none⟩ = some (.int .i64 a0_0) := (blk_cell BK188.out 0).trans rfl; have hcz13_1 : w12.cell? ⟨gb188, 1, none⟩ = some (.int .i64 a0_1) := (blk_cell BK188.out 1).trans rfl; have hcz13_2 : w12.cell? ⟨gb188, 2, none⟩ = some (.int .i64 a0_2) := (blk_cell BK188.out 2).trans rfl; have hcz13_3 : w12.cell? ⟨gb188, 3, none⟩ = some (.int .i64 a0_3) := (blk_cell BK188.out 3).trans rfl; have hcz13_4 : w12.cell? ⟨gb188, 4, none⟩ = some (.int .i64 a0_4) := (blk_cell BK188.out 4).trans rfl; have hcz13_5 : w12.cell? ⟨gb188, 5, none⟩ = some (.int .i64 a0_5) := (blk_cell BK188.out 5).trans rfl; have hcz13_6 : w12.cell? ⟨gb188, 6, none⟩ = some (.int .u64 a0_6) := (blk_cell BK188.out 6).trans rfl; have hcz13_7 : w12.cell? ⟨gb188, 7, none⟩ = some (.int .i64 a0_7) := (blk_cell BK188.out 7).trans rfl; have hfz13_0 := blk_frozen BK188.out 0; have hfz13_1 := blk_frozen BK188.out 1; have hfz13_2 := blk_frozen BK188.out 2; have hfz13_3 := blk_frozen BK188.out 3; have hfz13_4 := blk_frozen BK188.out 4; have hfz13_5 := blk_frozen BK188.out 5; have hfz13_6 := blk_frozen BK188.out 6; have hfz13_7 := blk_frozen BK188.out 7))
          go_ret
          exact ⟨by first | rfl | (simp [errW_none, errW_some] <;> rfl) | (simp [*, errW_none, errW_some] <;> rfl), by repeat (first | (with_reducible first | exact HB.out | apply below_alloc | apply pw_below_drewN | apply below_drew1 | refine below_set ?_ GE188.out) | exact HB.out)⟩
        · rw [if_neg c11] at H
          have c11b0 : (a0_0 == 3) = false := beq_eq_false_iff_ne.mpr c11
          have c11b1 : (a0_0 != 3) = true := bne_iff_ne.mpr c11
          obtain rfl := Option.some.inj H
          go_enter Tryd.func11, Tryd.ntmps11
          go_wp2_with (first | ((with_reducible refine gate_dst (N := 1) rfl ?_); refine box_event ?hg (N := 1) ?hd (cs := #[.int .i64 a0_0, .int .i64 a0_1, .int .i64 a0_2, .int .i64 a0_3, .int .i64 a0_4, .int .i64 a0_5, .int .u64 a0_6, .int .i64 a0_7]) (t := 26) ?hr ?_; (case hd => rfl); (case hg => rfl); (case hr => first | (go_simp; done) | (go_simp; rfl)); intro gb188 hg w14 hbox hb; have n0_ := Aside0.mk (below_step (by repeat (first | (with_reducible first | exact HB.out | apply below_alloc | apply pw_below_drewN | apply below_drew1) | exact HB.out)) hb); have n1_ := Aside0.mk (hbox); have n2_ := Aside0.mk ((by rw [hg]; exact (below_size (by repeat (first | (with_reducible first | exact HB.out | apply below_alloc | apply pw_below_drewN | apply below_drew1) | exact HB.out))) : w.heap.size ≤ gb188)); have n3_ := Aside0.mk ((by rw [hg]; exact (below_size (by repeat (first | (with_reducible first | exact HB.out | apply below_alloc | apply pw_below_drewN | apply below_drew1) | exact HB.out))) : w.heap.size ≤ gb188)); clear HB; have HB := n0_; have BK188 := n1_; have GW188 := n2_; have GE188 := n3_; clear n0_ n1_ n2_ n3_; clear hb hbox hg; have hcz15_0 : w14.cell? ⟨gb188, 0, none⟩ = some (.int .i64 a0_0) := (blk_cell BK188.out 0).trans rfl; have hcz15_1 : w14.cell? ⟨gb188, 1, none⟩ = some (.int .i64 a0_1) := (blk_cell BK188.out 1).trans rfl; have hcz15_2 : w14.cell? ⟨gb188, 2, none⟩ = some (.int .i64 a0_2) := (blk_cell BK188.out 2).trans rfl; have hcz15_3 : w14.cell? ⟨gb188, 3, none⟩ = some (.int .i64 a0_3) := (blk_cell BK188.out 3).trans rfl; have hcz15_4 : w14.cell? ⟨gb188, 4, none⟩ = some (.int .i64 a0_4) := (blk_cell BK188.out 4).trans rfl; have hcz15_5 : w14.cell? ⟨gb188, 5, none⟩ = some (.int .i64 a0_5) := (blk_cell BK188.out 5).trans rfl; have hcz15_6 : w14.cell? ⟨gb188, 6, none⟩ = some (.int .u64 a0_6) := (blk_cell BK188.out 6).trans rfl; have hcz15_7 : w14.cell? ⟨gb188, 7, none⟩ = some (.int .i64 a0_7) := (blk_cell BK188.out 7).trans rfl; have hfz15_0 := blk_frozen BK188.out 0; have hfz15_1 := blk_frozen BK188.out 1; have hfz15_2 := blk_frozen BK188.out 2; have hfz15_3 := blk_frozen BK188.out 3; have hfz15_4 := blk_frozen BK188.out 4; have hfz15_5 := blk_frozen BK188.out 5; have hfz15_6 := blk_frozen BK188.out 6; have hfz15_7 := blk_frozen BK188.out 7))
          go_ret
          exact ⟨by first | rfl | (simp [errW_none, errW_some] <;> rfl) | (simp [*, errW_none, errW_some] <;> rfl), by repeat (first | (with_reducible first | exact HB.out | apply below_alloc | apply pw_below_drewN | apply below_drew1 | refine below_set ?_ GE188.out) | exact HB.out)⟩

/-! ### tautochronelaw12_uses: function 14 -/
def tautochronelaw12_uses.j0 : Nat → Int → Bool → Int → Int → Int → Int → Int → Int → Int → Int → Option (List Int)
  | 0, _, _, _, _, _, _, _, _, _, _ => none
  | k + 1, x4, x5, x192000, x192001, x192002, x192003, x192004, x192005, x192006, x192007 => if x5 = true then (some (([x192003] : List Int))) else (if x4 = 2 then (some (([x192003, x192004] : List Int))) else (if x4 = 3 then (some (([x192003, x192004, x192005] : List Int))) else (if x4 = 4 then (if x192003 ≥ 0 then (some (([x192003] : List Int))) else (some ([] : List Int))) else (if x4 = 5 then (if x192003 ≥ 0 then (some (([x192003, x192004] : List Int))) else (some (([x192004] : List Int)))) else (some ([] : List Int))))))
def tautochronelaw12_uses.f (k : Nat) (a0_0 : Int) (a0_1 : Int) (a0_2 : Int) (a0_3 : Int) (a0_4 : Int) (a0_5 : Int) (a0_6 : Int) (a0_7 : Int) : Option (List Int) := if a0_0 = 1 then (tautochronelaw12_uses.j0 k a0_0 (a0_0 == 1) a0_0 a0_1 a0_2 a0_3 a0_4 a0_5 a0_6 a0_7) else (if a0_0 = 7 then (tautochronelaw12_uses.j0 k a0_0 (a0_0 == 7) a0_0 a0_1 a0_2 a0_3 a0_4 a0_5 a0_6 a0_7) else (if a0_0 = 10 then (tautochronelaw12_uses.j0 k a0_0 (a0_0 == 10) a0_0 a0_1 a0_2 a0_3 a0_4 a0_5 a0_6 a0_7) else (tautochronelaw12_uses.j0 k a0_0 (a0_0 == 12) a0_0 a0_1 a0_2 a0_3 a0_4 a0_5 a0_6 a0_7)))
theorem tautochronelaw12_uses.mono_l : ∀ k, (∀ y0 y1 y2 y3 y4 y5 y6 y7 y8 y9, LeO (tautochronelaw12_uses.j0 k y0 y1 y2 y3 y4 y5 y6 y7 y8 y9) (tautochronelaw12_uses.j0 (k + 1) y0 y1 y2 y3 y4 y5 y6 y7 y8 y9))
  | 0 => fun _ _ _ _ _ _ _ _ _ _ r h => by simp [tautochronelaw12_uses.j0] at h
  | k + 1 => by
    have ih0 := tautochronelaw12_uses.mono_l k
    · intro y0 y1 y2 y3 y4 y5 y6 y7 y8 y9
      unfold tautochronelaw12_uses.j0
      repeat' first
      | (with_reducible exact ih0 _ _ _ _ _ _ _ _ _ _)
      | (with_reducible exact LeO.refl _)
      | (with_reducible exact LeO.none _)
      | (with_reducible refine LeO.ite ?_ ?_)
      | (with_reducible refine LeO.bind ?_ (fun _ => ?_))
      | exact ih0 _ _ _ _ _ _ _ _ _ _
      | exact LeO.none _
      | refine LeO.ite ?_ ?_
      | refine LeO.bind ?_ (fun _ => ?_)
theorem tautochronelaw12_uses.mono : ∀ a0 a1 a2 a3 a4 a5 a6 a7 k, LeO (tautochronelaw12_uses.f k a0 a1 a2 a3 a4 a5 a6 a7) (tautochronelaw12_uses.f (k + 1) a0 a1 a2 a3 a4 a5 a6 a7) := by
  intro a0 a1 a2 a3 a4 a5 a6 a7 k
  have ih0 := tautochronelaw12_uses.mono_l k
  unfold tautochronelaw12_uses.f
  repeat' first
      | (with_reducible exact ih0 _ _ _ _ _ _ _ _ _ _)
      | (with_reducible exact LeO.refl _)
      | (with_reducible exact LeO.none _)
      | (with_reducible refine LeO.ite ?_ ?_)
      | (with_reducible refine LeO.bind ?_ (fun _ => ?_))
      | exact ih0 _ _ _ _ _ _ _ _ _ _
      | exact LeO.none _
      | refine LeO.ite ?_ ?_
      | refine LeO.bind ?_ (fun _ => ?_)
set_option maxHeartbeats 8000000 in
set_option maxRecDepth 100000 in
theorem tautochronelaw12_uses.calls (k : Nat) (a0_0 : Int) (a0_1 : Int) (a0_2 : Int) (a0_3 : Int) (a0_4 : Int) (a0_5 : Int) (a0_6 : Int) (a0_7 : Int) (r : List Int) (w : World) (h : tautochronelaw12_uses.f k a0_0 a0_1 a0_2 a0_3 a0_4 a0_5 a0_6 a0_7 = some r) :
    Calls Tryd.prog 14 #[.agg #[.int .i64 a0_0, .int .i64 a0_1, .int .i64 a0_2, .int .i64 a0_3, .int .i64 a0_4, .int .i64 a0_5, .int .u64 a0_6, .int .i64 a0_7]] w fun e w' => ∃ v0_ : Value, e = .returned (v0_) ∧ Kd.R (Kd.int .i64) 3 w' w.heap.size (fun _ => True) v0_ r ∧ Below w.heap.size w w' := by
  have hu26 := Tryd.underlying26
  have HB := Aside0.mk (Below.refl w.heap.size w)
  have H : (if a0_0 = 1 then (tautochronelaw12_uses.j0 k a0_0 (a0_0 == 1) a0_0 a0_1 a0_2 a0_3 a0_4 a0_5 a0_6 a0_7) else (if a0_0 = 7 then (tautochronelaw12_uses.j0 k a0_0 (a0_0 == 7) a0_0 a0_1 a0_2 a0_3 a0_4 a0_5 a0_6 a0_7) else (if a0_0 = 10 then (tautochronelaw12_uses.j0 k a0_0 (a0_0 == 10) a0_0 a0_1 a0_2 a0_3 a0_4 a0_5 a0_6 a0_7) else (tautochronelaw12_uses.j0 k a0_0 (a0_0 == 12) a0_0 a0_1 a0_2 a0_3 a0_4 a0_5 a0_6 a0_7)))) = some r := h
  clear h
  have HC2 := Aside0.mk H
  clear H
  go_enter Tryd.func14, Tryd.ntmps14
  go_upto_if 5 with (first | ((with_reducible refine gate_dst (N := 1) rfl ?_); refine box_event ?hg (N := 1) ?hd (cs := #[.int .i64 a0_0, .int .i64 a0_1, .int .i64 a0_2, .int .i64 a0_3, .int .i64 a0_4, .int .i64 a0_5, .int .u64 a0_6, .int .i64 a0_7]) (t := 26) ?hr ?_; (case hd => rfl); (case hg => rfl); (case hr => first | (go_simp; done) | (go_simp; rfl)); intro gb191 hg w3 hbox hb; have n0_ := Aside0.mk (below_step (by repeat (first | (with_reducible first | exact HB.out | apply below_alloc | apply pw_below_drewN | apply below_drew1) | exact HB.out)) hb); have n1_ := Aside0.mk (hbox); have n2_ := Aside0.mk ((by rw [hg]; exact (below_size (by repeat (first | (with_reducible first | exact HB.out | apply below_alloc | apply pw_below_drewN | apply below_drew1) | exact HB.out))) : w.heap.size ≤ gb191)); have n3_ := Aside0.mk ((by rw [hg]; exact (below_size (by repeat (first | (with_reducible first | exact HB.out | apply below_alloc | apply pw_below_drewN | apply below_drew1) | exact HB.out))) : w.heap.size ≤ gb191)); clear HB; have HB := n0_; have BK191 := n1_; have GW191 := n2_; have GE191 := n3_; clear n0_ n1_ n2_ n3_; clear hb hbox hg; have hcz4_0 : w3.cell? ⟨gb191, 0, none⟩ = some (.int .i64 a0_0) := (blk_cell BK191.out 0).trans rfl; have hcz4_1 : w3.cell? ⟨gb191, 1, none⟩ = some (.int .i64 a0_1) := (blk_cell BK191.out 1).trans rfl; have hcz4_2 : w3.cell? ⟨gb191, 2, none⟩ = some (.int .i64 a0_2) := (blk_cell BK191.out 2).trans rfl; have hcz4_3 : w3.cell? ⟨gb191, 3, none⟩ = some (.int .i64 a0_3) := (blk_cell BK191.out 3).trans rfl; have hcz4_4 : w3.cell? ⟨gb191, 4, none⟩ = some (.int .i64 a0_4) := (blk_cell BK191.out 4).trans rfl; have hcz4_5 : w3.cell? ⟨gb191, 5, none⟩ = some (.int .i64 a0_5) := (blk_cell BK191.out 5).trans rfl; have hcz4_6 : w3.cell? ⟨gb191, 6, none⟩ = some (.int .u64 a0_6) := (blk_cell BK191.out 6).trans rfl; have hcz4_7 : w3.cell? ⟨gb191, 7, none⟩ = some (.int .i64 a0_7) := (blk_cell BK191.out 7).trans rfl; have hfz4_0 := blk_frozen BK191.out 0; have hfz4_1 := blk_frozen BK191.out 1; have hfz4_2 := blk_frozen BK191.out 2; have hfz4_3 := blk_frozen BK191.out 3; have hfz4_4 := blk_frozen BK191.out 4; have hfz4_5 := blk_frozen BK191.out 5; have hfz4_6 := blk_frozen BK191.out 6; have hfz4_7 := blk_frozen BK191.out 7))
  (try simp only [Act.put, List.setIfInBounds_toArray, List.set_cons_zero, List.set_cons_succ])
  go_cut [5] (fun v5 wc => ∃ (kq : Nat) (x5_1 : Bool), v5 = .bool x5_1 ∧ Aside0 (tautochronelaw12_uses.j0 kq a0_0 x5_1 a0_0 a0_1 a0_2 a0_3 a0_4 a0_5 a0_6 a0_7 = some r) ∧ Aside0 (kq ≤ k) ∧ Aside0 (wc.heap[gb191]? = some (.cells #[.int .i64 a0_0, .int .i64 a0_1, .int .i64 a0_2, .int .i64 a0_3, .int .i64 a0_4, .int .i64 a0_5, .int .u64 a0_6, .int .i64 a0_7] 26 (0, 0))) ∧ Aside0 (Below w.heap.size w wc))
  case first =>
    have H := HC2.out
    clear HC2
    by_cases c5 : a0_0 = 1
    · rw [if_pos c5] at H
      have c5b0 : (a0_0 == 1) = true := beq_iff_eq.mpr c5
      have c5b1 : (a0_0 != 1) = false := bne_eq_false_iff_eq.mpr c5
      clear c5
      (first | rw [c5b0] | (simp only [i64_w, i32_w]; rw [c5b0]) | skip)
      have H' := Aside0.mk H
      clear H
      go_wp2
      go_meet
      case rel => exact ⟨_, ((a0_0 == 1)), (by first | rfl | (simp; done) | (simp [*]; done)), H', ⟨by first | omega | exact Nat.le_refl _⟩, ⟨by (with_reducible repeat (first | refine blk_drewN ?_ _ | refine blk_drew ?_ | refine blk_alloc ?_ _)); exact BK191.out⟩, ⟨by repeat (first | (with_reducible first | exact HB.out | apply below_alloc | apply pw_below_drewN | apply below_drew1 | refine below_set ?_ GE191.out) | exact HB.out)⟩⟩
    · rw [if_neg c5] at H
      have c5b0 : (a0_0 == 1) = false := beq_eq_false_iff_ne.mpr c5
      have c5b1 : (a0_0 != 1) = true := bne_iff_ne.mpr c5
      (first | rw [c5b0] | (simp only [i64_w, i32_w]; rw [c5b0]) | skip)
      by_cases c6 : a0_0 = 7
      · rw [if_pos c6] at H
        have c6b0 : (a0_0 == 7) = true := beq_iff_eq.mpr c6
        have c6b1 : (a0_0 != 7) = false := bne_eq_false_iff_eq.mpr c6
        clear c6
        have H' := Aside0.mk H
        clear H
        go_wp2
        go_meet
        case rel => exact ⟨_, ((a0_0 == 7)), (by first | rfl | (simp; done) | (simp [*]; done)), H', ⟨by first | omega | exact Nat.le_refl _⟩, ⟨by (with_reducible repeat (first | refine blk_drewN ?_ _ | refine blk_drew ?_ | refine blk_alloc ?_ _)); exact BK191.out⟩, ⟨by repeat (first | (with_reducible first | exact HB.out | apply below_alloc | apply pw_below_drewN | apply below_drew1 | refine below_set ?_ GE191.out) | exact HB.out)⟩⟩
      · rw [if_neg c6] at H
        have c6b0 : (a0_0 == 7) = false := beq_eq_false_iff_ne.mpr c6
        have c6b1 : (a0_0 != 7) = true := bne_iff_ne.mpr c6
        by_cases c7 : a0_0 = 10
        · rw [if_pos c7] at H
          have c7b0 : (a0_0 == 10) = true := beq_iff_eq.mpr c7
          have c7b1 : (a0_0 != 10) = false := bne_eq_false_iff_eq.mpr c7
          clear c7
          have H' := Aside0.mk H
          clear H
          go_wp2
          go_meet
          case rel => exact ⟨_, ((a0_0 == 10)), (by first | rfl | (simp; done) | (simp [*]; done)), H', ⟨by first | omega | exact Nat.le_refl _⟩, ⟨by (with_reducible repeat (first | refine blk_drewN ?_ _ | refine blk_drew ?_ | refine blk_alloc ?_ _)); exact BK191.out⟩, ⟨by repeat (first | (with_reducible first | exact HB.out | apply below_alloc | apply pw_below_drewN | apply below_drew1 | refine below_set ?_ GE191.out) | exact HB.out)⟩⟩
        · rw [if_neg c7] at H
          have c7b0 : (a0_0 == 10) = false := beq_eq_false_iff_ne.mpr c7
          have c7b1 : (a0_0 != 10) = true := bne_iff_ne.mpr c7
          have H' := Aside0.mk H
          clear H
          go_wp2
          go_meet
          case rel => exact ⟨_, ((a0_0 == 12)), (by first | rfl | (simp; done) | (simp [*]; done)), H', ⟨by first | omega | exact Nat.le_refl _⟩, ⟨by (with_reducible repeat (first | refine blk_drewN ?_ _ | refine blk_drew ?_ | refine blk_alloc ?_ _)); exact BK191.out⟩, ⟨by repeat (first | (with_reducible first | exact HB.out | apply below_alloc | apply pw_below_drewN | apply below_drew1 | refine below_set ?_ GE191.out) | exact HB.out)⟩⟩
  case rest =>
    clear HC2
    try clear c1
    try clear p2
    try clear c5
    try clear c5b0
    try clear c5b1
    try clear c6
    try clear c6b0
    try clear c6b1
    try clear c7
    try clear c7b0
    try clear c7b1
    try clear hcz4_0 hcz4_1 hcz4_2 hcz4_3 hcz4_4 hcz4_5 hcz4_6 hcz4_7
    try clear hfz4_0 hfz4_1 hfz4_2 hfz4_3 hfz4_4 hfz4_5 hfz4_6 hfz4_7
    obtain ⟨kq, x5_1, rfl, HA, HJ1, BK191, HB⟩ := hcut
    cases kq with
    | zero => exact absurd HA.out (by simp [tautochronelaw12_uses.j0])
    | succ kj1 =>
      have H := HA.out
      clear HA
      simp only [tautochronelaw12_uses.j0] at H
      by_cases c8 : x5_1 = true
      · subst c8
        have H1 : (some (([a0_3] : List Int))) = some r := by rw [if_pos rfl] at H; exact H
        clear H
        have H := H1
        clear H1
        obtain ⟨y192, hy192⟩ : ∃ y_ : List Int, y_ = (([a0_3] : List Int)) := ⟨_, rfl⟩
        replace H : (some y192) = some r := by first | (rw [hy192]; with_reducible exact H) | (have H2_ := (Option.bind_some _ _).symm.trans H; rw [hy192]; with_reducible exact H2_) | (have H2_ := (Option.bind_some _ _).symm.trans H; with_reducible exact H2_) | with_reducible exact H | (rw [hy192]; exact H) | exact H
        have Ny192 := Aside0.mk hy192
        clear hy192
        obtain rfl := Option.some.inj H
        have hcz9_0 : wc.cell? ⟨gb191, 0, none⟩ = some (.int .i64 a0_0) := (blk_cell BK191.out 0).trans rfl
        have hcz9_1 : wc.cell? ⟨gb191, 1, none⟩ = some (.int .i64 a0_1) := (blk_cell BK191.out 1).trans rfl
        have hcz9_2 : wc.cell? ⟨gb191, 2, none⟩ = some (.int .i64 a0_2) := (blk_cell BK191.out 2).trans rfl
        have hcz9_3 : wc.cell? ⟨gb191, 3, none⟩ = some (.int .i64 a0_3) := (blk_cell BK191.out 3).trans rfl
        have hcz9_4 : wc.cell? ⟨gb191, 4, none⟩ = some (.int .i64 a0_4) := (blk_cell BK191.out 4).trans rfl
        have hcz9_5 : wc.cell? ⟨gb191, 5, none⟩ = some (.int .i64 a0_5) := (blk_cell BK191.out 5).trans rfl
        have hcz9_6 : wc.cell? ⟨gb191, 6, none⟩ = some (.int .u64 a0_6) := (blk_cell BK191.out 6).trans rfl
        have hcz9_7 : wc.cell? ⟨gb191, 7, none⟩ = some (.int .i64 a0_7) := (blk_cell BK191.out 7).trans rfl
        have hfz9_0 := blk_frozen BK191.out 0
        have hfz9_1 := blk_frozen BK191.out 1
        have hfz9_2 := blk_frozen BK191.out 2
        have hfz9_3 := blk_frozen BK191.out 3
        have hfz9_4 := blk_frozen BK191.out 4
        have hfz9_5 := blk_frozen BK191.out 5
        have hfz9_6 := blk_frozen BK191.out 6
        have hfz9_7 := blk_frozen BK191.out 7
        go_wp2_with (first | ((with_reducible refine gate_dst (N := 12) rfl ?_); refine Kd.R_lit (Kd.int .i64) _ 3 ?hg (N := 12) ?hd (xs := ([a0_3] : List Int)) (inner := [.int .i64 a0_3]) (ok := fun _ => True) (okp := fun _ => True) ?hr ?hp (fun _ hk => hk) trivial (Below.refl _ _) (Nat.le_refl _) (by simp) ?_; (case hd => rfl); (case hg => rfl); (case hr => first | (go_simp; done) | (go_simp; rfl)); (case hp => exact (Reps.one (show Kd.M (Kd.int .i64) _ _ _ a0_3 [.int .i64 a0_3] from rfl) (Reps.none _ _))); intro v193 w10 ho11 hb hg_ hnew_; clear hg_ hnew_; (first | rw [← Ny192.out] at ho11 | (simp only [Int.reduceToNat] at ho11; rw [← Ny192.out] at ho11)); have n0_ := Aside0.mk (Kd.R_lower ho11 (below_size (by repeat (first | (with_reducible first | exact HB.out | apply below_alloc | apply pw_below_drewN | apply below_drew1 | refine below_set ?_ GE191.out) | exact HB.out)))); have n1_ := Aside0.mk (blk_below (g := gb191) (o := .cells #[.int .i64 a0_0, .int .i64 a0_1, .int .i64 a0_2, .int .i64 a0_3, .int .i64 a0_4, .int .i64 a0_5, .int .u64 a0_6, .int .i64 a0_7] 26 (0, 0)) (by (with_reducible repeat (first | refine blk_drewN ?_ _ | refine blk_drew ?_ | refine blk_alloc ?_ _)); exact BK191.out) hb); have n2_ := Aside0.mk (below_step (by repeat (first | (with_reducible first | exact HB.out | apply below_alloc | apply pw_below_drewN | apply below_drew1 | refine below_set ?_ GE191.out) | exact HB.out)) hb); clear BK191; clear HB; have HO194 := n0_; have BK191 := n1_; have HB := n2_; clear n0_ n1_ n2_; clear hb ho11))
        go_ret
        exact ⟨_, by first | rfl | (simp [errW_none, errW_some] <;> rfl) | (simp [*, errW_none, errW_some] <;> rfl), by (with_reducible repeat (first | apply Kd.R_alloc | apply Kd.R_drewN | apply Kd.R_drew)); exact HO194.out, by repeat (first | (with_reducible first | exact HB.out | apply below_alloc | apply pw_below_drewN | apply below_drew1 | refine below_set ?_ GE191.out) | exact HB.out)⟩
      · replace c8 := Bool.eq_false_iff.mpr c8
        subst c8
        have H1 : (if a0_0 = 2 then (some (([a0_3, a0_4] : List Int))) else (if a0_0 = 3 then (some (([a0_3, a0_4, a0_5] : List Int))) else (if a0_0 = 4 then (if a0_3 ≥ 0 then (some (([a0_3] : List Int))) else (some ([] : List Int))) else (if a0_0 = 5 then (if a0_3 ≥ 0 then (some (([a0_3, a0_4] : List Int))) else (some (([a0_4] : List Int)))) else (some ([] : List Int)))))) = some r := by rw [if_neg (show ¬ (false = true) by decide)] at H; exact H
        clear H
        have H := H1
        clear H1
        by_cases c12 : a0_0 = 2
        · rw [if_pos c12] at H
          have c12b0 : (a0_0 == 2) = true := beq_iff_eq.mpr c12
          have c12b1 : (a0_0 != 2) = false := bne_eq_false_iff_eq.mpr c12
          clear c12
          obtain ⟨y195, hy195⟩ : ∃ y_ : List Int, y_ = (([a0_3, a0_4] : List Int)) := ⟨_, rfl⟩
          replace H : (some y195) = some r := by first | (rw [hy195]; with_reducible exact H) | (have H2_ := (Option.bind_some _ _).symm.trans H; rw [hy195]; with_reducible exact H2_) | (have H2_ := (Option.bind_some _ _).symm.trans H; with_reducible exact H2_) | with_reducible exact H | (rw [hy195]; exact H) | exact H
          have Ny195 := Aside0.mk hy195
          clear hy195
          obtain rfl := Option.some.inj H
          have hcz13_0 : wc.cell? ⟨gb191, 0, none⟩ = some (.int .i64 a0_0) := (blk_cell BK191.out 0).trans rfl
          have hcz13_1 : wc.cell? ⟨gb191, 1, none⟩ = some (.int .i64 a0_1) := (blk_cell BK191.out 1).trans rfl
          have hcz13_2 : wc.cell? ⟨gb191, 2, none⟩ = some (.int .i64 a0_2) := (blk_cell BK191.out 2).trans rfl
          have hcz13_3 : wc.cell? ⟨gb191, 3, none⟩ = some (.int .i64 a0_3) := (blk_cell BK191.out 3).trans rfl
          have hcz13_4 : wc.cell? ⟨gb191, 4, none⟩ = some (.int .i64 a0_4) := (blk_cell BK191.out 4).trans rfl
          have hcz13_5 : wc.cell? ⟨gb191, 5, none⟩ = some (.int .i64 a0_5) := (blk_cell BK191.out 5).trans rfl
          have hcz13_6 : wc.cell? ⟨gb191, 6, none⟩ = some (.int .u64 a0_6) := (blk_cell BK191.out 6).trans rfl
          have hcz13_7 : wc.cell? ⟨gb191, 7, none⟩ = some (.int .i64 a0_7) := (blk_cell BK191.out 7).trans rfl
          have hfz13_0 := blk_frozen BK191.out 0
          have hfz13_1 := blk_frozen BK191.out 1
          have hfz13_2 := blk_frozen BK191.out 2
          have hfz13_3 := blk_frozen BK191.out 3
          have hfz13_4 := blk_frozen BK191.out 4
          have hfz13_5 := blk_frozen BK191.out 5
          have hfz13_6 := blk_frozen BK191.out 6
          have hfz13_7 := blk_frozen BK191.out 7
          go_wp2_with (first | ((with_reducible refine gate_dst (N := 19) rfl ?_); refine Kd.R_lit (Kd.int .i64) _ 3 ?hg (N := 19) ?hd (xs := ([a0_3, a0_4] : List Int)) (inner := [.int .i64 a0_3, .int .i64 a0_4]) (ok := fun _ => True) (okp := fun _ => True) ?hr ?hp (fun _ hk => hk) trivial (Below.refl _ _) (Nat.le_refl _) (by simp) ?_; (case hd => rfl); (case hg => rfl); (case hr => first | (go_simp; done) | (go_simp; rfl)); (case hp => exact (Reps.one (show Kd.M (Kd.int .i64) _ _ _ a0_3 [.int .i64 a0_3] from rfl) (Reps.one (show Kd.M (Kd.int .i64) _ _ _ a0_4 [.int .i64 a0_4] from rfl) (Reps.none _ _)))); intro v196 w14 ho15 hb hg_ hnew_; clear hg_ hnew_; (first | rw [← Ny195.out] at ho15 | (simp only [Int.reduceToNat] at ho15; rw [← Ny195.out] at ho15)); have n0_ := Aside0.mk (Kd.R_lower ho15 (below_size (by repeat (first | (with_reducible first | exact HB.out | apply below_alloc | apply pw_below_drewN | apply below_drew1 | refine below_set ?_ GE191.out) | exact HB.out)))); have n1_ := Aside0.mk (blk_below (g := gb191) (o := .cells #[.int .i64 a0_0, .int .i64 a0_1, .int .i64 a0_2, .int .i64 a0_3, .int .i64 a0_4, .int .i64 a0_5, .int .u64 a0_6, .int .i64 a0_7] 26 (0, 0)) (by (with_reducible repeat (first | refine blk_drewN ?_ _ | refine blk_drew ?_ | refine blk_alloc ?_ _)); exact BK191.out) hb); have n2_ := Aside0.mk (below_step (by repeat (first | (with_reducible first | exact HB.out | apply below_alloc | apply pw_below_drewN | apply below_drew1 | refine below_set ?_ GE191.out) | exact HB.out)) hb); clear BK191; clear HB; have HO197 := n0_; have BK191 := n1_; have HB := n2_; clear n0_ n1_ n2_; clear hb ho15))
          go_ret
          exact ⟨_, by first | rfl | (simp [errW_none, errW_some] <;> rfl) | (simp [*, errW_none, errW_some] <;> rfl), by (with_reducible repeat (first | apply Kd.R_alloc | apply Kd.R_drewN | apply Kd.R_drew)); exact HO197.out, by repeat (first | (with_reducible first | exact HB.out | apply below_alloc | apply pw_below_drewN | apply below_drew1 | refine below_set ?_ GE191.out) | exact HB.out)⟩
        · rw [if_neg c12] at H
          have c12b0 : (a0_0 == 2) = false := beq_eq_false_iff_ne.mpr c12
          have c12b1 : (a0_0 != 2) = true := bne_iff_ne.mpr c12
          by_cases c16 : a0_0 = 3
          · rw [if_pos c16] at H
            have c16b0 : (a0_0 == 3) = true := beq_iff_eq.mpr c16
            have c16b1 : (a0_0 != 3) = false := bne_eq_false_iff_eq.mpr c16
            clear c16
            obtain ⟨y198, hy198⟩ : ∃ y_ : List Int, y_ = (([a0_3, a0_4, a0_5] : List Int)) := ⟨_, rfl⟩
            replace H : (some y198) = some r := by first | (rw [hy198]; with_reducible exact H) | (have H2_ := (Option.bind_some _ _).symm.trans H; rw [hy198]; with_reducible exact H2_) | (have H2_ := (Option.bind_some _ _).symm.trans H; with_reducible exact H2_) | with_reducible exact H | (rw [hy198]; exact H) | exact H
            have Ny198 := Aside0.mk hy198
            clear hy198
            obtain rfl := Option.some.inj H
            have hcz17_0 : wc.cell? ⟨gb191, 0, none⟩ = some (.int .i64 a0_0) := (blk_cell BK191.out 0).trans rfl
            have hcz17_1 : wc.cell? ⟨gb191, 1, none⟩ = some (.int .i64 a0_1) := (blk_cell BK191.out 1).trans rfl
            have hcz17_2 : wc.cell? ⟨gb191, 2, none⟩ = some (.int .i64 a0_2) := (blk_cell BK191.out 2).trans rfl
            have hcz17_3 : wc.cell? ⟨gb191, 3, none⟩ = some (.int .i64 a0_3) := (blk_cell BK191.out 3).trans rfl
            have hcz17_4 : wc.cell? ⟨gb191, 4, none⟩ = some (.int .i64 a0_4) := (blk_cell BK191.out 4).trans rfl
            have hcz17_5 : wc.cell? ⟨gb191, 5, none⟩ = some (.int .i64 a0_5) := (blk_cell BK191.out 5).trans rfl
            have hcz17_6 : wc.cell? ⟨gb191, 6, none⟩ = some (.int .u64 a0_6) := (blk_cell BK191.out 6).trans rfl
            have hcz17_7 : wc.cell? ⟨gb191, 7, none⟩ = some (.int .i64 a0_7) := (blk_cell BK191.out 7).trans rfl
            have hfz17_0 := blk_frozen BK191.out 0
            have hfz17_1 := blk_frozen BK191.out 1
            have hfz17_2 := blk_frozen BK191.out 2
            have hfz17_3 := blk_frozen BK191.out 3
            have hfz17_4 := blk_frozen BK191.out 4
            have hfz17_5 := blk_frozen BK191.out 5
            have hfz17_6 := blk_frozen BK191.out 6
            have hfz17_7 := blk_frozen BK191.out 7
            go_wp2_with (first | ((with_reducible refine gate_dst (N := 28) rfl ?_); refine Kd.R_lit (Kd.int .i64) _ 3 ?hg (N := 28) ?hd (xs := ([a0_3, a0_4, a0_5] : List Int)) (inner := [.int .i64 a0_3, .int .i64 a0_4, .int .i64 a0_5]) (ok := fun _ => True) (okp := fun _ => True) ?hr ?hp (fun _ hk => hk) trivial (Below.refl _ _) (Nat.le_refl _) (by simp) ?_; (case hd => rfl); (case hg => rfl); (case hr => first | (go_simp; done) | (go_simp; rfl)); (case hp => exact (Reps.one (show Kd.M (Kd.int .i64) _ _ _ a0_3 [.int .i64 a0_3] from rfl) (Reps.one (show Kd.M (Kd.int .i64) _ _ _ a0_4 [.int .i64 a0_4] from rfl) (Reps.one (show Kd.M (Kd.int .i64) _ _ _ a0_5 [.int .i64 a0_5] from rfl) (Reps.none _ _))))); intro v199 w18 ho19 hb hg_ hnew_; clear hg_ hnew_; (first | rw [← Ny198.out] at ho19 | (simp only [Int.reduceToNat] at ho19; rw [← Ny198.out] at ho19)); have n0_ := Aside0.mk (Kd.R_lower ho19 (below_size (by repeat (first | (with_reducible first | exact HB.out | apply below_alloc | apply pw_below_drewN | apply below_drew1 | refine below_set ?_ GE191.out) | exact HB.out)))); have n1_ := Aside0.mk (blk_below (g := gb191) (o := .cells #[.int .i64 a0_0, .int .i64 a0_1, .int .i64 a0_2, .int .i64 a0_3, .int .i64 a0_4, .int .i64 a0_5, .int .u64 a0_6, .int .i64 a0_7] 26 (0, 0)) (by (with_reducible repeat (first | refine blk_drewN ?_ _ | refine blk_drew ?_ | refine blk_alloc ?_ _)); exact BK191.out) hb); have n2_ := Aside0.mk (below_step (by repeat (first | (with_reducible first | exact HB.out | apply below_alloc | apply pw_below_drewN | apply below_drew1 | refine below_set ?_ GE191.out) | exact HB.out)) hb); clear BK191; clear HB; have HO200 := n0_; have BK191 := n1_; have HB := n2_; clear n0_ n1_ n2_; clear hb ho19))
            go_ret
            exact ⟨_, by first | rfl | (simp [errW_none, errW_some] <;> rfl) | (simp [*, errW_none, errW_some] <;> rfl), by (with_reducible repeat (first | apply Kd.R_alloc | apply Kd.R_drewN | apply Kd.R_drew)); exact HO200.out, by repeat (first | (with_reducible first | exact HB.out | apply below_alloc | apply pw_below_drewN | apply below_drew1 | refine below_set ?_ GE191.out) | exact HB.out)⟩
          · rw [if_neg c16] at H
            have c16b0 : (a0_0 == 3) = false := beq_eq_false_iff_ne.mpr c16
            have c16b1 : (a0_0 != 3) = true := bne_iff_ne.mpr c16
            by_cases c20 : a0_0 = 4
            · rw [if_pos c20] at H
              have c20b0 : (a0_0 == 4) = true := beq_iff_eq.mpr c20
              have c20b1 : (a0_0 != 4) = false := bne_eq_false_iff_eq.mpr c20
              clear c20
              by_cases c21 : a0_3 ≥ 0
              · rw [if_pos c21] at H
                have c21b0 : decide (0 ≤ a0_3) = true := decide_eq_true c21
                clear c21
                obtain ⟨y201, hy201⟩ : ∃ y_ : List Int, y_ = (([a0_3] : List Int)) := ⟨_, rfl⟩
                replace H : (some y201) = some r := by first | (rw [hy201]; with_reducible exact H) | (have H2_ := (Option.bind_some _ _).symm.trans H; rw [hy201]; with_reducible exact H2_) | (have H2_ := (Option.bind_some _ _).symm.trans H; with_reducible exact H2_) | with_reducible exact H | (rw [hy201]; exact H) | exact H
                have Ny201 := Aside0.mk hy201
                clear hy201
                obtain rfl := Option.some.inj H
                have hcz22_0 : wc.cell? ⟨gb191, 0, none⟩ = some (.int .i64 a0_0) := (blk_cell BK191.out 0).trans rfl
                have hcz22_1 : wc.cell? ⟨gb191, 1, none⟩ = some (.int .i64 a0_1) := (blk_cell BK191.out 1).trans rfl
                have hcz22_2 : wc.cell? ⟨gb191, 2, none⟩ = some (.int .i64 a0_2) := (blk_cell BK191.out 2).trans rfl
                have hcz22_3 : wc.cell? ⟨gb191, 3, none⟩ = some (.int .i64 a0_3) := (blk_cell BK191.out 3).trans rfl
                have hcz22_4 : wc.cell? ⟨gb191, 4, none⟩ = some (.int .i64 a0_4) := (blk_cell BK191.out 4).trans rfl
                have hcz22_5 : wc.cell? ⟨gb191, 5, none⟩ = some (.int .i64 a0_5) := (blk_cell BK191.out 5).trans rfl
                have hcz22_6 : wc.cell? ⟨gb191, 6, none⟩ = some (.int .u64 a0_6) := (blk_cell BK191.out 6).trans rfl
                have hcz22_7 : wc.cell? ⟨gb191, 7, none⟩ = some (.int .i64 a0_7) := (blk_cell BK191.out 7).trans rfl
                have hfz22_0 := blk_frozen BK191.out 0
                have hfz22_1 := blk_frozen BK191.out 1
                have hfz22_2 := blk_frozen BK191.out 2
                have hfz22_3 := blk_frozen BK191.out 3
                have hfz22_4 := blk_frozen BK191.out 4
                have hfz22_5 := blk_frozen BK191.out 5
                have hfz22_6 := blk_frozen BK191.out 6
                have hfz22_7 := blk_frozen BK191.out 7
                go_wp2_with (first | ((with_reducible refine gate_dst (N := 36) rfl ?_); refine Kd.R_lit (Kd.int .i64) _ 3 ?hg (N := 36) ?hd (xs := ([a0_3] : List Int)) (inner := [.int .i64 a0_3]) (ok := fun _ => True) (okp := fun _ => True) ?hr ?hp (fun _ hk => hk) trivial (Below.refl _ _) (Nat.le_refl _) (by simp) ?_; (case hd => rfl); (case hg => rfl); (case hr => first | (go_simp; done) | (go_simp; rfl)); (case hp => exact (Reps.one (show Kd.M (Kd.int .i64) _ _ _ a0_3 [.int .i64 a0_3] from rfl) (Reps.none _ _))); intro v202 w23 ho24 hb hg_ hnew_; clear hg_ hnew_; (first | rw [← Ny201.out] at ho24 | (simp only [Int.reduceToNat] at ho24; rw [← Ny201.out] at ho24)); have n0_ := Aside0.mk (Kd.R_lower ho24 (below_size (by repeat (first | (with_reducible first | exact HB.out | apply below_alloc | apply pw_below_drewN | apply below_drew1 | refine below_set ?_ GE191.out) | exact HB.out)))); have n1_ := Aside0.mk (blk_below (g := gb191) (o := .cells #[.int .i64 a0_0, .int .i64 a0_1, .int .i64 a0_2, .int .i64 a0_3, .int .i64 a0_4, .int .i64 a0_5, .int .u64 a0_6, .int .i64 a0_7] 26 (0, 0)) (by (with_reducible repeat (first | refine blk_drewN ?_ _ | refine blk_drew ?_ | refine blk_alloc ?_ _)); exact BK191.out) hb); have n2_ := Aside0.mk (below_step (by repeat (first | (with_reducible first | exact HB.out | apply below_alloc | apply pw_below_drewN | apply below_drew1 | refine below_set ?_ GE191.out) | exact HB.out)) hb); clear BK191; clear HB; have HO203 := n0_; have BK191 := n1_; have HB := n2_; clear n0_ n1_ n2_; clear hb ho24))
                go_ret
                exact ⟨_, by first | rfl | (simp [errW_none, errW_some] <;> rfl) | (simp [*, errW_none, errW_some] <;> rfl), by (with_reducible repeat (first | apply Kd.R_alloc | apply Kd.R_drewN | apply Kd.R_drew)); exact HO203.out, by repeat (first | (with_reducible first | exact HB.out | apply below_alloc | apply pw_below_drewN | apply below_drew1 | refine below_set ?_ GE191.out) | exact HB.out)⟩
              · rw [if_neg c21] at H
                have c21b0 : decide (0 ≤ a0_3) = false := decide_eq_false c21
                clear c21
                obtain rfl := Option.some.inj H
                have hcz25_0 : wc.cell? ⟨gb191, 0, none⟩ = some (.int .i64 a0_0) := (blk_cell BK191.out 0).trans rfl
                have hcz25_1 : wc.cell? ⟨gb191, 1, none⟩ = some (.int .i64 a0_1) := (blk_cell BK191.out 1).trans rfl
                have hcz25_2 : wc.cell? ⟨gb191, 2, none⟩ = some (.int .i64 a0_2) := (blk_cell BK191.out 2).trans rfl
                have hcz25_3 : wc.cell? ⟨gb191, 3, none⟩ = some (.int .i64 a0_3) := (blk_cell BK191.out 3).trans rfl
                have hcz25_4 : wc.cell? ⟨gb191, 4, none⟩ = some (.int .i64 a0_4) := (blk_cell BK191.out 4).trans rfl
                have hcz25_5 : wc.cell? ⟨gb191, 5, none⟩ = some (.int .i64 a0_5) := (blk_cell BK191.out 5).trans rfl
                have hcz25_6 : wc.cell? ⟨gb191, 6, none⟩ = some (.int .u64 a0_6) := (blk_cell BK191.out 6).trans rfl
                have hcz25_7 : wc.cell? ⟨gb191, 7, none⟩ = some (.int .i64 a0_7) := (blk_cell BK191.out 7).trans rfl
                have hfz25_0 := blk_frozen BK191.out 0
                have hfz25_1 := blk_frozen BK191.out 1
                have hfz25_2 := blk_frozen BK191.out 2
                have hfz25_3 := blk_frozen BK191.out 3
                have hfz25_4 := blk_frozen BK191.out 4
                have hfz25_5 := blk_frozen BK191.out 5
                have hfz25_6 := blk_frozen BK191.out 6
                have hfz25_7 := blk_frozen BK191.out 7
                go_wp2
                go_ret
                exact ⟨_, by first | rfl | (simp [errW_none, errW_some] <;> rfl) | (simp [*, errW_none, errW_some] <;> rfl), by first | exact Kd.R_nil _ _ _ _ _ | exact Kd.N_nil _ _ _ _ _ | exact Kd.V_nil _ _ _ _ _ | exact Kd.Q_nil _ _ _ _ _ | exact Kd.S_nil _ _ _ _ _, by repeat (first | (with_reducible first | exact HB.out | apply below_alloc | apply pw_below_drewN | apply below_drew1 | refine below_set ?_ GE191.out) | exact HB.out)⟩
            · rw [if_neg c20] at H
              have c20b0 : (a0_0 == 4) = false := beq_eq_false_iff_ne.mpr c20
              have c20b1 : (a0_0 != 4) = true := bne_iff_ne.mpr c20
              by_cases c26 : a0_0 = 5
              · rw [if_pos c26] at H
                have c26b0 : (a0_0 == 5) = true := beq_iff_eq.mpr c26
                have c26b1 : (a0_0 != 5) = false := bne_eq_false_iff_eq.mpr c26
                clear c26
                by_cases c27 : a0_3 ≥ 0
                · rw [if_pos c27] at H
                  have c27b0 : decide (0 ≤ a0_3) = true := decide_eq_true c27
                  clear c27
                  obtain ⟨y204, hy204⟩ : ∃ y_ : List Int, y_ = (([a0_3, a0_4] : List Int)) := ⟨_, rfl⟩
                  replace H : (some y204) = some r := by first | (rw [hy204]; with_reducible exact H) | (have H2_ := (Option.bind_some _ _).symm.trans H; rw [hy204]; with_reducible exact H2_) | (have H2_ := (Option.bind_some _ _).symm.trans H; with_reducible exact H2_) | with_reducible exact H | (rw [hy204]; exact H) | exact H
                  have Ny204 := Aside0.mk hy204
                  clear hy204
                  obtain rfl := Option.some.inj H
                  have hcz28_0 : wc.cell? ⟨gb191, 0, none⟩ = some (.int .i64 a0_0) := (blk_cell BK191.out 0).trans rfl
                  have hcz28_1 : wc.cell? ⟨gb191, 1, none⟩ = some (.int .i64 a0_1) := (blk_cell BK191.out 1).trans rfl
                  have hcz28_2 : wc.cell? ⟨gb191, 2, none⟩ = some (.int .i64 a0_2) := (blk_cell BK191.out 2).trans rfl
                  have hcz28_3 : wc.cell? ⟨gb191, 3, none⟩ = some (.int .i64 a0_3) := (blk_cell BK191.out 3).trans rfl
                  have hcz28_4 : wc.cell? ⟨gb191, 4, none⟩ = some (.int .i64 a0_4) := (blk_cell BK191.out 4).trans rfl
                  have hcz28_5 : wc.cell? ⟨gb191, 5, none⟩ = some (.int .i64 a0_5) := (blk_cell BK191.out 5).trans rfl
                  have hcz28_6 : wc.cell? ⟨gb191, 6, none⟩ = some (.int .u64 a0_6) := (blk_cell BK191.out 6).trans rfl
                  have hcz28_7 : wc.cell? ⟨gb191, 7, none⟩ = some (.int .i64 a0_7) := (blk_cell BK191.out 7).trans rfl
                  have hfz28_0 := blk_frozen BK191.out 0
                  have hfz28_1 := blk_frozen BK191.out 1
                  have hfz28_2 := blk_frozen BK191.out 2
                  have hfz28_3 := blk_frozen BK191.out 3
                  have hfz28_4 := blk_frozen BK191.out 4
                  have hfz28_5 := blk_frozen BK191.out 5
                  have hfz28_6 := blk_frozen BK191.out 6
                  have hfz28_7 := blk_frozen BK191.out 7
                  go_wp2_with (first | ((with_reducible refine gate_dst (N := 46) rfl ?_); refine Kd.R_lit (Kd.int .i64) _ 3 ?hg (N := 46) ?hd (xs := ([a0_3, a0_4] : List Int)) (inner := [.int .i64 a0_3, .int .i64 a0_4]) (ok := fun _ => True) (okp := fun _ => True) ?hr ?hp (fun _ hk => hk) trivial (Below.refl _ _) (Nat.le_refl _) (by simp) ?_; (case hd => rfl); (case hg => rfl); (case hr => first | (go_simp; done) | (go_simp; rfl)); (case hp => exact (Reps.one (show Kd.M (Kd.int .i64) _ _ _ a0_3 [.int .i64 a0_3] from rfl) (Reps.one (show Kd.M (Kd.int .i64) _ _ _ a0_4 [.int .i64 a0_4] from rfl) (Reps.none _ _)))); intro v205 w29 ho30 hb hg_ hnew_; clear hg_ hnew_; (first | rw [← Ny204.out] at ho30 | (simp only [Int.reduceToNat] at ho30; rw [← Ny204.out] at ho30)); have n0_ := Aside0.mk (Kd.R_lower ho30 (below_size (by repeat (first | (with_reducible first | exact HB.out | apply below_alloc | apply pw_below_drewN | apply below_drew1 | refine below_set ?_ GE191.out) | exact HB.out)))); have n1_ := Aside0.mk (blk_below (g := gb191) (o := .cells #[.int .i64 a0_0, .int .i64 a0_1, .int .i64 a0_2, .int .i64 a0_3, .int .i64 a0_4, .int .i64 a0_5, .int .u64 a0_6, .int .i64 a0_7] 26 (0, 0)) (by (with_reducible repeat (first | refine blk_drewN ?_ _ | refine blk_drew ?_ | refine blk_alloc ?_ _)); exact BK191.out) hb); have n2_ := Aside0.mk (below_step (by repeat (first | (with_reducible first | exact HB.out | apply below_alloc | apply pw_below_drewN | apply below_drew1 | refine below_set ?_ GE191.out) | exact HB.out)) hb); clear BK191; clear HB; have HO206 := n0_; have BK191 := n1_; have HB := n2_; clear n0_ n1_ n2_; clear hb ho30))
                  go_ret
                  exact ⟨_, by first | rfl | (simp [errW_none, errW_some] <;> rfl) | (simp [*, errW_none, errW_some] <;> rfl), by (with_reducible repeat (first | apply Kd.R_alloc | apply Kd.R_drewN | apply Kd.R_drew)); exact HO206.out, by repeat (first | (with_reducible first | exact HB.out | apply below_alloc | apply pw_below_drewN | apply below_drew1 | refine below_set ?_ GE191.out) | exact HB.out)⟩
                · rw [if_neg c27] at H
                  have c27b0 : decide (0 ≤ a0_3) = false := decide_eq_false c27
                  clear c27
                  obtain ⟨y207, hy207⟩ : ∃ y_ : List Int, y_ = (([a0_4] : List Int)) := ⟨_, rfl⟩
                  replace H : (some y207) = some r := by first | (rw [hy207]; with_reducible exact H) | (have H2_ := (Option.bind_some _ _).symm.trans H; rw [hy207]; with_reducible exact H2_) | (have H2_ := (Option.bind_some _ _).symm.trans H; with_reducible exact H2_) | with_reducible exact H | (rw [hy207]; exact H) | exact H
                  have Ny207 := Aside0.mk hy207
                  clear hy207
                  obtain rfl := Option.some.inj H
                  have hcz31_0 : wc.cell? ⟨gb191, 0, none⟩ = some (.int .i64 a0_0) := (blk_cell BK191.out 0).trans rfl
                  have hcz31_1 : wc.cell? ⟨gb191, 1, none⟩ = some (.int .i64 a0_1) := (blk_cell BK191.out 1).trans rfl
                  have hcz31_2 : wc.cell? ⟨gb191, 2, none⟩ = some (.int .i64 a0_2) := (blk_cell BK191.out 2).trans rfl
                  have hcz31_3 : wc.cell? ⟨gb191, 3, none⟩ = some (.int .i64 a0_3) := (blk_cell BK191.out 3).trans rfl
                  have hcz31_4 : wc.cell? ⟨gb191, 4, none⟩ = some (.int .i64 a0_4) := (blk_cell BK191.out 4).trans rfl
                  have hcz31_5 : wc.cell? ⟨gb191, 5, none⟩ = some (.int .i64 a0_5) := (blk_cell BK191.out 5).trans rfl
                  have hcz31_6 : wc.cell? ⟨gb191, 6, none⟩ = some (.int .u64 a0_6) := (blk_cell BK191.out 6).trans rfl
                  have hcz31_7 : wc.cell? ⟨gb191, 7, none⟩ = some (.int .i64 a0_7) := (blk_cell BK191.out 7).trans rfl
                  have hfz31_0 := blk_frozen BK191.out 0
                  have hfz31_1 := blk_frozen BK191.out 1
                  have hfz31_2 := blk_frozen BK191.out 2
                  have hfz31_3 := blk_frozen BK191.out 3
                  have hfz31_4 := blk_frozen BK191.out 4
                  have hfz31_5 := blk_frozen BK191.out 5
                  have hfz31_6 := blk_frozen BK191.out 6
                  have hfz31_7 := blk_frozen BK191.out 7
                  go_wp2_with (first | ((with_reducible refine gate_dst (N := 49) rfl ?_); refine Kd.R_lit (Kd.int .i64) _ 3 ?hg (N := 49) ?hd (xs := ([a0_4] : List Int)) (inner := [.int .i64 a0_4]) (ok := fun _ => True) (okp := fun _ => True) ?hr ?hp (fun _ hk => hk) trivial (Below.refl _ _) (Nat.le_refl _) (by simp) ?_; (case hd => rfl); (case hg => rfl); (case hr => first | (go_simp; done) | (go_simp; rfl)); (case hp => exact (Reps.one (show Kd.M (Kd.int .i64) _ _ _ a0_4 [.int .i64 a0_4] from rfl) (Reps.none _ _))); intro v208 w32 ho33 hb hg_ hnew_; clear hg_ hnew_; (first | rw [← Ny207.out] at ho33 | (simp only [Int.reduceToNat] at ho33; rw [← Ny207.out] at ho33)); have n0_ := Aside0.mk (Kd.R_lower ho33 (below_size (by repeat (first | (with_reducible first | exact HB.out | apply below_alloc | apply pw_below_drewN | apply below_drew1 | refine below_set ?_ GE191.out) | exact HB.out)))); have n1_ := Aside0.mk (blk_below (g := gb191) (o := .cells #[.int .i64 a0_0, .int .i64 a0_1, .int .i64 a0_2, .int .i64 a0_3, .int .i64 a0_4, .int .i64 a0_5, .int .u64 a0_6, .int .i64 a0_7] 26 (0, 0)) (by (with_reducible repeat (first | refine blk_drewN ?_ _ | refine blk_drew ?_ | refine blk_alloc ?_ _)); exact BK191.out) hb); have n2_ := Aside0.mk (below_step (by repeat (first | (with_reducible first | exact HB.out | apply below_alloc | apply pw_below_drewN | apply below_drew1 | refine below_set ?_ GE191.out) | exact HB.out)) hb); clear BK191; clear HB; have HO209 := n0_; have BK191 := n1_; have HB := n2_; clear n0_ n1_ n2_; clear hb ho33))
                  go_ret
                  exact ⟨_, by first | rfl | (simp [errW_none, errW_some] <;> rfl) | (simp [*, errW_none, errW_some] <;> rfl), by (with_reducible repeat (first | apply Kd.R_alloc | apply Kd.R_drewN | apply Kd.R_drew)); exact HO209.out, by repeat (first | (with_reducible first | exact HB.out | apply below_alloc | apply pw_below_drewN | apply below_drew1 | refine below_set ?_ GE191.out) | exact HB.out)⟩
              · rw [if_neg c26] at H
                have c26b0 : (a0_0 == 5) = false := beq_eq_false_iff_ne.mpr c26
                have c26b1 : (a0_0 != 5) = true := bne_iff_ne.mpr c26
                obtain rfl := Option.some.inj H
                go_wp2
                go_ret
                exact ⟨_, by first | rfl | (simp [errW_none, errW_some] <;> rfl) | (simp [*, errW_none, errW_some] <;> rfl), by first | exact Kd.R_nil _ _ _ _ _ | exact Kd.N_nil _ _ _ _ _ | exact Kd.V_nil _ _ _ _ _ | exact Kd.Q_nil _ _ _ _ _ | exact Kd.S_nil _ _ _ _ _, by repeat (first | (with_reducible first | exact HB.out | apply below_alloc | apply pw_below_drewN | apply below_drew1 | refine below_set ?_ GE191.out) | exact HB.out)⟩

-- NOT PRINTED: function 3 (tautochronelaw12_CodeUses)

end Go.Proofs.YtcgnbknbnbgcmaaDoor.PQ
