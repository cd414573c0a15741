-- Written by a program of this session (wip/tools/extprint.py, pr.sh).
import Derived.Test.YthboknkpgbfmoaaWalkPlaceNone
namespace Go.Proofs.Ythboknkpgbfmoaa.PQ
open Go.RowKit Go.Proofs.YthboknkpgbfmoaaW.PrintWords Go.Proofs.YthboknkpgbfmoaaW.PrintLast Go.Proofs.YthboknkpgbfmoaaW.PrintMore
attribute [local go_sem] max2_int min2_int max_two min_two max_three min_three max_four min_four
set_option linter.unusedVariables false
set_option linter.unusedSimpArgs false
theorem info26 : (Try.prog.info? 26).map (fun i => (i.zero, i.size, i.bytes)) = some (some (.int .i64 0), 1, 8) := by kernel_rfl
/-! ### place_Labels: function 17 -/
mutual
def place_Labels.l0 : Nat → List Int → List (S28) → Int → Int → Option (List Int)
  | 0, _, _, _, _ => none
  | k + 1, x3, x7, x8, x9 => if x9 < x8 then (if 0 ≤ x9 then (if x9 < (x7.length : Int) then (place_Labels.l1 k x3 x7 x8 x9 (mx 1 (mn ((rd_T28 x7 x9).f3) 64)) 0 ((rd_T28 x7 x9).f0) ((rd_T28 x7 x9).f1) ((rd_T28 x7 x9).f2) ((rd_T28 x7 x9).f3) ((rd_T28 x7 x9).f4) ((rd_T28 x7 x9).f5)) else (none)) else (none)) else (some x3)
def place_Labels.l1 : Nat → List Int → List (S28) → Int → Int → Int → Int → Bool → Int → ByteArray → Int → ByteArray → Int → Option (List Int)
  | 0, _, _, _, _, _, _, _, _, _, _, _, _ => none
  | k + 1, x3, x7, x8, x9, x16, x17, x107000, x107001, x107002, x107003, x107004, x107005 => if x17 < x16 then (if x107000 = true then (if x3.length < 17592186044416 then (place_Labels.l1 k (x3 ++ [0]) x7 x8 x9 x16 (wrap64 (x17 + 1)) x107000 x107001 x107002 x107003 x107004 x107005) else (none)) else (if x3.length < 17592186044416 then (place_Labels.l1 k (x3 ++ [x107001]) x7 x8 x9 x16 (wrap64 (x17 + 1)) x107000 x107001 x107002 x107003 x107004 x107005) else (none))) else (place_Labels.l0 k x3 x7 x8 (wrap64 (x9 + 1)))
end
def place_Labels.f (k : Nat) (l0 : List (S28)) : Option (List Int) := place_Labels.l0 k ([] : List Int) l0 (l0.length : Int) 0
theorem place_Labels.mono_l : ∀ k, (∀ y0 y1 y2 y3, LeO (place_Labels.l0 k y0 y1 y2 y3) (place_Labels.l0 (k + 1) y0 y1 y2 y3)) ∧ (∀ y0 y1 y2 y3 y4 y5 y6 y7 y8 y9 y10 y11, LeO (place_Labels.l1 k y0 y1 y2 y3 y4 y5 y6 y7 y8 y9 y10 y11) (place_Labels.l1 (k + 1) y0 y1 y2 y3 y4 y5 y6 y7 y8 y9 y10 y11))
  | 0 => ⟨fun _ _ _ _ r h => by simp [place_Labels.l0] at h, fun _ _ _ _ _ _ _ _ _ _ _ _ r h => by simp [place_Labels.l1] at h⟩
  | k + 1 => by
    obtain ⟨ih0, ih1⟩ := place_Labels.mono_l k
    refine ⟨?_, ?_⟩
    · intro y0 y1 y2 y3
      unfold place_Labels.l0
      repeat' first
      | (with_reducible exact ih0 _ _ _ _)
      | (with_reducible exact ih1 _ _ _ _ _ _ _ _ _ _ _ _)
      | (with_reducible exact LeO.refl _)
      | (with_reducible exact LeO.none _)
      | (with_reducible refine LeO.ite ?_ ?_)
      | (with_reducible refine LeO.bind ?_ (fun _ => ?_))
      | exact ih0 _ _ _ _
      | exact ih1 _ _ _ _ _ _ _ _ _ _ _ _
      | exact LeO.none _
      | refine LeO.ite ?_ ?_
      | refine LeO.bind ?_ (fun _ => ?_)
    · intro y0 y1 y2 y3 y4 y5 y6 y7 y8 y9 y10 y11
      unfold place_Labels.l1
      repeat' first
      | (with_reducible exact ih0 _ _ _ _)
      | (with_reducible exact ih1 _ _ _ _ _ _ _ _ _ _ _ _)
      | (with_reducible exact LeO.refl _)
      | (with_reducible exact LeO.none _)
      | (with_reducible refine LeO.ite ?_ ?_)
      | (with_reducible refine LeO.bind ?_ (fun _ => ?_))
      | exact ih0 _ _ _ _
      | exact ih1 _ _ _ _ _ _ _ _ _ _ _ _
      | exact LeO.none _
      | refine LeO.ite ?_ ?_
      | refine LeO.bind ?_ (fun _ => ?_)
theorem place_Labels.mono : ∀ a0 k, LeO (place_Labels.f k a0) (place_Labels.f (k + 1) a0) := by
  intro a0 k
  obtain ⟨ih0, ih1⟩ := place_Labels.mono_l k
  unfold place_Labels.f
  repeat' first
      | (with_reducible exact ih0 _ _ _ _)
      | (with_reducible exact ih1 _ _ _ _ _ _ _ _ _ _ _ _)
      | (with_reducible exact LeO.refl _)
      | (with_reducible exact LeO.none _)
      | (with_reducible refine LeO.ite ?_ ?_)
      | (with_reducible refine LeO.bind ?_ (fun _ => ?_))
      | exact ih0 _ _ _ _
      | exact ih1 _ _ _ _ _ _ _ _ _ _ _ _
      | exact LeO.none _
      | refine LeO.ite ?_ ?_
      | refine LeO.bind ?_ (fun _ => ?_)
set_option maxHeartbeats 8000000 in
set_option maxRecDepth 100000 in
theorem place_Labels.calls (k : Nat) (A0 : Option Addr) (c0 : Nat) (l0 : List (S28)) (r : List Int) (w : World) (hr0 : Kd.C k28 w A0 l0.length l0) (hc0 : l0.length ≤ c0) (h : place_Labels.f k l0 = some r) :
    Calls Try.prog 17 #[.slice A0 l0.length c0] w fun e w' => ∃ v0_ : Value, e = .returned (v0_) ∧ Kd.R (Kd.int .i64) 26 w' w.heap.size (fun _ => True) v0_ r ∧ Below w.heap.size w w' := by
  have hu28 := Try.underlying28
  have HR0 := Aside0.mk hr0
  have HC0 := Aside0.mk hc0
  clear hr0 hc0
  have HB := Aside0.mk (Below.refl w.heap.size w)
  have H : (place_Labels.l0 k ([] : List Int) l0 (l0.length : Int) 0) = some r := h
  clear h
  have H' := Aside0.mk H
  clear H
  go_enter Try.func17, Try.ntmps17
  go_wp2
  go_loopg [3, 9] k (fun kq v3 v9 w' => ∃ (x3_1 : List Int) (x9_1 : Int), v9 = .int .i64 x9_1 ∧ Aside0 (place_Labels.l0 kq x3_1 l0 (l0.length : Int) x9_1 = some r) ∧ Aside0 (kq ≤ k) ∧ Aside0 (Kd.R (Kd.int .i64) 26 w' w.heap.size (fun _ => True) v3 x3_1) ∧ Aside0 (Below w.heap.size w w'))
  case atStart => exact ⟨(([] : List Int)), (0), (by first | rfl | (simp; done) | (simp [*]; done)), H', ⟨Nat.le_refl _⟩, ⟨by first | exact Kd.R_nil _ _ _ _ _ | exact Kd.N_nil _ _ _ _ _ | exact Kd.V_nil _ _ _ _ _ | exact Kd.Q_nil _ _ _ _ _ | exact Kd.S_nil _ _ _ _ _⟩, ⟨by repeat (first | (with_reducible first | exact HB.out | apply below_alloc | apply pw_below_drewN | apply below_drew1) | exact HB.out)⟩⟩
  case round =>
    clear H'
    try clear c1
    obtain ⟨x3_1, x9_1, rfl, HA, HK1, HO_3, HB⟩ := hrel
    cases gk with
    | zero => exact absurd HA.out (by simp [place_Labels.l0])
    | succ k1 =>
      have H := HA.out
      clear HA
      simp only [place_Labels.l0] at H
      by_cases c2 : x9_1 < (l0.length : Int)
      · rw [if_pos c2] at H
        have c2b0 : decide (x9_1 < (l0.length : Int)) = true := decide_eq_true c2
        clear c2
        by_cases c3 : 0 ≤ x9_1
        · rw [if_pos c3] at H
          have c3b0 : decide (0 ≤ x9_1) = true := decide_eq_true c3
          clear c3
          by_cases c4 : x9_1 < (l0.length : Int)
          · rw [if_pos c4] at H
            have c4b0 : decide (x9_1 < (l0.length : Int)) = true := decide_eq_true c4
            clear c4
            obtain ⟨ji5, hji5⟩ : ∃ j_ : Int, (mn ((rd_T28 l0 x9_1).f3) 64) = j_ := ⟨_, rfl⟩
            replace H : (place_Labels.l1 k1 x3_1 l0 (l0.length : Int) x9_1 (mx 1 (ji5)) 0 ((rd_T28 l0 x9_1).f0) ((rd_T28 l0 x9_1).f1) ((rd_T28 l0 x9_1).f2) ((rd_T28 l0 x9_1).f3) ((rd_T28 l0 x9_1).f4) ((rd_T28 l0 x9_1).f5)) = some r := by first | (rw [hji5] at H; exact H) | (simp only [hji5] at H ⊢; exact H)
            have hji5_ : (if 64 < ((rd_T28 l0 x9_1).f3) then 64 else ((rd_T28 l0 x9_1).f3)) = ji5 := hji5
            obtain ⟨ji6, hji6⟩ : ∃ j_ : Int, (mx 1 (ji5)) = j_ := ⟨_, rfl⟩
            replace H : (place_Labels.l1 k1 x3_1 l0 (l0.length : Int) x9_1 ji6 0 ((rd_T28 l0 x9_1).f0) ((rd_T28 l0 x9_1).f1) ((rd_T28 l0 x9_1).f2) ((rd_T28 l0 x9_1).f3) ((rd_T28 l0 x9_1).f4) ((rd_T28 l0 x9_1).f5)) = some r := by first | (rw [hji6] at H; exact H) | (simp only [hji6] at H ⊢; exact H)
            have hji6_ : (if 1 < (ji5) then (ji5) else 1) = ji6 := hji6
            have H' := Aside0.mk H
            clear H
            have p105 : 0 ≤ (x9_1 : Int) := of_decide_eq_true (by first | (with_reducible assumption) | assumption)
            have q105 : x9_1 < (l0.length : Int) := of_decide_eq_true (by first | (with_reducible assumption) | assumption)
            obtain ⟨ad105, e105, hx105_0, hx105_1, hx105_2, hx105_3, hx105_4, hx105_5⟩ := at_T28 HR0.out x9_1 p105 q105
            cases e105
            replace hx105_0 := (HB.out.cell (World.block_lt_of_cell? w _ hx105_0)).trans hx105_0
            replace hx105_1 := (HB.out.cell (World.block_lt_of_cell? w _ hx105_1)).trans hx105_1
            replace hx105_2 := (HB.out.cell (World.block_lt_of_cell? w _ hx105_2)).trans hx105_2
            replace hx105_3 := (HB.out.cell (World.block_lt_of_cell? w _ hx105_3)).trans hx105_3
            replace hx105_4 := (HB.out.cell (World.block_lt_of_cell? w _ hx105_4)).trans hx105_4
            replace hx105_5 := (HB.out.cell (World.block_lt_of_cell? w _ hx105_5)).trans hx105_5
            replace p105 := eq_true p105
            replace q105 := eq_true q105
            go_wp2_with (first | ((with_reducible refine gate_dst (N := 5) rfl ?_); refine box_event ?hg (N := 5) ?hd (cs := #[.bool false, .int .i64 0, .string (⟨#[]⟩ : ByteArray), .int .i64 0, .string (⟨#[]⟩ : ByteArray), .int .i64 0]) (t := 28) ?hr ?_; (case hd => rfl); (case hg => rfl); (case hr => first | (go_simp; done) | (go_simp; rfl)); intro gb106 hg w7 hbox hb; have n0_ := Aside0.mk (Kd.R_below (by (with_reducible repeat (first | apply Kd.R_alloc | apply Kd.R_drewN | apply Kd.R_drew)); exact HO_3.out) hb); have n1_ := Aside0.mk (below_step (by repeat (first | (with_reducible first | exact HB.out | apply below_alloc | apply pw_below_drewN | apply below_drew1) | exact HB.out)) hb); have n2_ := Aside0.mk (hbox); have n3_ := Aside0.mk ((by rw [hg]; exact (below_size (by repeat (first | (with_reducible first | exact HB.out | apply below_alloc | apply pw_below_drewN | apply below_drew1) | exact HB.out))) : w.heap.size ≤ gb106)); have n4_ := Aside0.mk ((by rw [hg]; exact (below_size (by repeat (first | (with_reducible first | exact HB.out | apply below_alloc | apply pw_below_drewN | apply below_drew1) | exact HB.out))) : w.heap.size ≤ gb106)); clear HO_3; clear HB; have HO_3 := n0_; have HB := n1_; have BK106 := n2_; have GW106 := n3_; have GE106 := n4_; clear n0_ n1_ n2_ n3_ n4_; clear hb hbox hg; have hcz8_0 : w7.cell? ⟨gb106, 0, none⟩ = some (.bool false) := (blk_cell BK106.out 0).trans rfl; have hcz8_1 : w7.cell? ⟨gb106, 1, none⟩ = some (.int .i64 0) := (blk_cell BK106.out 1).trans rfl; have hcz8_2 : w7.cell? ⟨gb106, 2, none⟩ = some (.string (⟨#[]⟩ : ByteArray)) := (blk_cell BK106.out 2).trans rfl; have hcz8_3 : w7.cell? ⟨gb106, 3, none⟩ = some (.int .i64 0) := (blk_cell BK106.out 3).trans rfl; have hcz8_4 : w7.cell? ⟨gb106, 4, none⟩ = some (.string (⟨#[]⟩ : ByteArray)) := (blk_cell BK106.out 4).trans rfl; have hcz8_5 : w7.cell? ⟨gb106, 5, none⟩ = some (.int .i64 0) := (blk_cell BK106.out 5).trans rfl; have hfz8_0 := blk_frozen BK106.out 0; have hfz8_1 := blk_frozen BK106.out 1; have hfz8_2 := blk_frozen BK106.out 2; have hfz8_3 := blk_frozen BK106.out 3; have hfz8_4 := blk_frozen BK106.out 4; have hfz8_5 := blk_frozen BK106.out 5))
            go_loopg [3, 17] k1 (fun kq v3 v17 w' => ∃ (x3_2 : List Int) (x17_2 : Int), v17 = .int .i64 x17_2 ∧ Aside0 (place_Labels.l1 kq x3_2 l0 (l0.length : Int) x9_1 ji6 x17_2 ((rd_T28 l0 x9_1).f0) ((rd_T28 l0 x9_1).f1) ((rd_T28 l0 x9_1).f2) ((rd_T28 l0 x9_1).f3) ((rd_T28 l0 x9_1).f4) ((rd_T28 l0 x9_1).f5) = some r) ∧ Aside0 (kq ≤ k1) ∧ Aside0 (Kd.R (Kd.int .i64) 26 w' w.heap.size (fun _ => True) v3 x3_2) ∧ Aside0 (w'.heap[gb106]? = some (.cells #[.bool ((rd_T28 l0 x9_1).f0), .int .i64 ((rd_T28 l0 x9_1).f1), .string ((rd_T28 l0 x9_1).f2), .int .i64 ((rd_T28 l0 x9_1).f3), .string ((rd_T28 l0 x9_1).f4), .int .i64 ((rd_T28 l0 x9_1).f5)] 28 (0, 0))) ∧ Aside0 (Below w.heap.size w w'))
            case atStart => exact ⟨(x3_1), (0), (by first | rfl | (simp; done) | (simp [*]; done)), H', ⟨Nat.le_refl _⟩, ⟨by (with_reducible repeat (first | apply Kd.R_alloc | apply Kd.R_drewN | apply Kd.R_drew)); exact Kd.R_mono (Kd.R_far (p := ⟨gb106, 5, none⟩) (Kd.R_far (p := ⟨gb106, 4, none⟩) (Kd.R_far (p := ⟨gb106, 3, none⟩) (Kd.R_far (p := ⟨gb106, 2, none⟩) (Kd.R_far (p := ⟨gb106, 1, none⟩) (Kd.R_far (p := ⟨gb106, 0, none⟩) (Kd.R_types HO_3.out BK106.out (by decide)) (fun _ hk => hk.2) (.bool ((rd_T28 l0 x9_1).f0))) (fun _ hk => hk.2) (.int .i64 ((rd_T28 l0 x9_1).f1))) (fun _ hk => hk.2) (.string ((rd_T28 l0 x9_1).f2))) (fun _ hk => hk.2) (.int .i64 ((rd_T28 l0 x9_1).f3))) (fun _ hk => hk.2) (.string ((rd_T28 l0 x9_1).f4))) (fun _ hk => hk.2) (.int .i64 ((rd_T28 l0 x9_1).f5))) (fun _ hk => trivial)⟩, ⟨by (with_reducible repeat (first | refine blk_drewN ?_ _ | refine blk_drew ?_ | refine blk_alloc ?_ _)); refine blk_put (cs := #[.bool ((rd_T28 l0 x9_1).f0), .int .i64 ((rd_T28 l0 x9_1).f1), .string ((rd_T28 l0 x9_1).f2), .int .i64 ((rd_T28 l0 x9_1).f3), .string ((rd_T28 l0 x9_1).f4), .int .i64 0]) ?_ 5 _ rfl; (with_reducible repeat (first | refine blk_drewN ?_ _ | refine blk_drew ?_ | refine blk_alloc ?_ _)); refine blk_put (cs := #[.bool ((rd_T28 l0 x9_1).f0), .int .i64 ((rd_T28 l0 x9_1).f1), .string ((rd_T28 l0 x9_1).f2), .int .i64 ((rd_T28 l0 x9_1).f3), .string (⟨#[]⟩ : ByteArray), .int .i64 0]) ?_ 4 _ rfl; (with_reducible repeat (first | refine blk_drewN ?_ _ | refine blk_drew ?_ | refine blk_alloc ?_ _)); refine blk_put (cs := #[.bool ((rd_T28 l0 x9_1).f0), .int .i64 ((rd_T28 l0 x9_1).f1), .string ((rd_T28 l0 x9_1).f2), .int .i64 0, .string (⟨#[]⟩ : ByteArray), .int .i64 0]) ?_ 3 _ rfl; (with_reducible repeat (first | refine blk_drewN ?_ _ | refine blk_drew ?_ | refine blk_alloc ?_ _)); refine blk_put (cs := #[.bool ((rd_T28 l0 x9_1).f0), .int .i64 ((rd_T28 l0 x9_1).f1), .string (⟨#[]⟩ : ByteArray), .int .i64 0, .string (⟨#[]⟩ : ByteArray), .int .i64 0]) ?_ 2 _ rfl; (with_reducible repeat (first | refine blk_drewN ?_ _ | refine blk_drew ?_ | refine blk_alloc ?_ _)); refine blk_put (cs := #[.bool ((rd_T28 l0 x9_1).f0), .int .i64 0, .string (⟨#[]⟩ : ByteArray), .int .i64 0, .string (⟨#[]⟩ : ByteArray), .int .i64 0]) ?_ 1 _ rfl; (with_reducible repeat (first | refine blk_drewN ?_ _ | refine blk_drew ?_ | refine blk_alloc ?_ _)); refine blk_put (cs := #[.bool false, .int .i64 0, .string (⟨#[]⟩ : ByteArray), .int .i64 0, .string (⟨#[]⟩ : ByteArray), .int .i64 0]) ?_ 0 _ rfl; (with_reducible repeat (first | refine blk_drewN ?_ _ | refine blk_drew ?_ | refine blk_alloc ?_ _)); exact BK106.out⟩, ⟨by repeat (first | (with_reducible first | exact HB.out | apply below_alloc | apply pw_below_drewN | apply below_drew1 | refine below_set ?_ GE106.out) | exact HB.out)⟩⟩
            case round =>
              clear H'
              try clear c1
              try clear p1
              try clear q1
              try clear hx1
              try clear c2
              try clear c2b0
              try clear p2
              try clear c3
              try clear c3b0
              try clear c4
              try clear c4b0
              try clear hcz8_0
              try clear hcz8_1
              try clear hcz8_2
              try clear hcz8_3
              try clear hcz8_4
              try clear hcz8_5
              try clear hfz8_0
              try clear hfz8_1
              try clear hfz8_2
              try clear hfz8_3
              try clear hfz8_4
              try clear hfz8_5
              try clear hx105_0
              try clear hx105_1
              try clear hx105_2
              try clear hx105_3
              try clear hx105_4
              try clear hx105_5
              try clear p105
              try clear q105
              obtain ⟨x3_2, x17_2, rfl, HA, HK2, HO_3, BK106, HB⟩ := hrel
              cases gk with
              | zero => exact absurd HA.out (by simp [place_Labels.l1])
              | succ k2 =>
                have H := HA.out
                clear HA
                simp only [place_Labels.l1] at H
                by_cases c9 : x17_2 < ji6
                · rw [if_pos c9] at H
                  have c9b0 : decide (x17_2 < ji6) = true := decide_eq_true c9
                  clear c9
                  by_cases c10 : ((rd_T28 l0 x9_1).f0) = true
                  · rw [if_pos c10] at H
                    have c10b0 : ((rd_T28 l0 x9_1).f0) = true := c10
                    clear c10
                    by_cases c11 : x3_2.length < 17592186044416
                    · rw [if_pos c11] at H
                      have LMc11 := Aside0.mk c11
                      clear c11
                      obtain ⟨y107, hy107⟩ : ∃ y_ : List Int, y_ = (x3_2 ++ [0]) := ⟨_, rfl⟩
                      replace H : (place_Labels.l1 k2 y107 l0 (l0.length : Int) x9_1 ji6 (wrap64 (x17_2 + 1)) ((rd_T28 l0 x9_1).f0) ((rd_T28 l0 x9_1).f1) ((rd_T28 l0 x9_1).f2) ((rd_T28 l0 x9_1).f3) ((rd_T28 l0 x9_1).f4) ((rd_T28 l0 x9_1).f5)) = some r := by first | (rw [hy107]; with_reducible exact H) | (have H2_ := (Option.bind_some _ _).symm.trans H; rw [hy107]; with_reducible exact H2_) | (have H2_ := (Option.bind_some _ _).symm.trans H; with_reducible exact H2_) | with_reducible exact H | (rw [hy107]; exact H) | exact H
                      have Ny107 := Aside0.mk hy107
                      clear hy107
                      have H' := Aside0.mk H
                      clear H
                      have hcz12_0 : wr.cell? ⟨gb106, 0, none⟩ = some (.bool true) := ((blk_cell BK106.out 0).trans rfl).trans (congrArg (fun b => some (Value.bool b)) c10b0)
                      clear c10b0
                      have hcz12_1 : wr.cell? ⟨gb106, 1, none⟩ = some (.int .i64 ((rd_T28 l0 x9_1).f1)) := (blk_cell BK106.out 1).trans rfl
                      have hcz12_2 : wr.cell? ⟨gb106, 2, none⟩ = some (.string ((rd_T28 l0 x9_1).f2)) := (blk_cell BK106.out 2).trans rfl
                      have hcz12_3 : wr.cell? ⟨gb106, 3, none⟩ = some (.int .i64 ((rd_T28 l0 x9_1).f3)) := (blk_cell BK106.out 3).trans rfl
                      have hcz12_4 : wr.cell? ⟨gb106, 4, none⟩ = some (.string ((rd_T28 l0 x9_1).f4)) := (blk_cell BK106.out 4).trans rfl
                      have hcz12_5 : wr.cell? ⟨gb106, 5, none⟩ = some (.int .i64 ((rd_T28 l0 x9_1).f5)) := (blk_cell BK106.out 5).trans rfl
                      have hfz12_0 := blk_frozen BK106.out 0
                      have hfz12_1 := blk_frozen BK106.out 1
                      have hfz12_2 := blk_frozen BK106.out 2
                      have hfz12_3 := blk_frozen BK106.out 3
                      have hfz12_4 := blk_frozen BK106.out 4
                      have hfz12_5 := blk_frozen BK106.out 5
                      go_wp2_with (first | ((with_reducible refine gate_builtin (b := .append) (xs := #[.tmp 23, .tmp 25]) rfl ?_); at_builtin; refine Kd.R_append (Kd.int .i64) (w0 := w) w.heap.size rfl (.tmp 23) (.tmp 25) 41 26 (.int .i64 0) 8 rfl Try.underlying41 info26 rfl (by decide) (by omega) u3 x3_2 0 [.int .i64 0] (fun _ => True) (fun _ => False) rfl rfl ?aP (fun _ hk => hk.elim) ?aF ?aO ?aB ?aS ?aL ?_; (case aP => exact rfl); (case aB => exact (by repeat (first | (with_reducible first | exact HB.out | apply below_alloc | apply pw_below_drewN | apply below_drew1 | refine below_set ?_ GE106.out) | exact HB.out))); (case aF => exact (fun _ _ => trivial)); (case aO => exact (by (with_reducible repeat (first | apply Kd.R_alloc | apply Kd.R_drewN | apply Kd.R_drew)); exact HO_3.out)); (case aS => exact (below_size (by repeat (first | (with_reducible first | exact HB.out | apply below_alloc | apply pw_below_drewN | apply below_drew1 | refine below_set ?_ GE106.out) | exact HB.out)))); (case aL => have := LMc11.out; omega); intro v108 w13 ho hb hg hat; rw [← Ny107.out] at ho; have n0_ := Aside0.mk (blk_grown (g := gb106) (o := .cells #[.bool ((rd_T28 l0 x9_1).f0), .int .i64 ((rd_T28 l0 x9_1).f1), .string ((rd_T28 l0 x9_1).f2), .int .i64 ((rd_T28 l0 x9_1).f3), .string ((rd_T28 l0 x9_1).f4), .int .i64 ((rd_T28 l0 x9_1).f5)] 28 (0, 0)) (by (with_reducible repeat (first | refine blk_drewN ?_ _ | refine blk_drew ?_ | refine blk_alloc ?_ _)); exact BK106.out) hg (Kd.R_ne HO_3.out BK106.out (by decide))); have n1_ := Aside0.mk (hb); have n2_ := Aside0.mk (ho); clear BK106; clear HB; clear HO_3; have BK106 := n0_; have HB := n1_; have HO109 := n2_; clear n0_ n1_ n2_; clear ho hb hg hat))
                      go_roundg k2
                      case measure => have := HK1.out; have := HK2.out; omega
                      case rel => exact ⟨(y107), (wrap64 (x17_2 + 1)), (by first | rfl | (simp; done) | (simp [*]; done)), H', ⟨by have := HK1.out; have := HK2.out; omega⟩, ⟨by (with_reducible repeat (first | apply Kd.R_alloc | apply Kd.R_drewN | apply Kd.R_drew)); exact HO109.out⟩, ⟨by (with_reducible repeat (first | refine blk_drewN ?_ _ | refine blk_drew ?_ | refine blk_alloc ?_ _)); exact BK106.out⟩, ⟨by repeat (first | (with_reducible first | exact HB.out | apply below_alloc | apply pw_below_drewN | apply below_drew1 | refine below_set ?_ GE106.out) | exact HB.out)⟩⟩
                    · rw [if_neg c11] at H
                      exact absurd H (by simp)
                  · rw [if_neg c10] at H
                    have c10b0 : ((rd_T28 l0 x9_1).f0) = false := by simpa using c10
                    clear c10
                    by_cases c14 : x3_2.length < 17592186044416
                    · rw [if_pos c14] at H
                      have LMc14 := Aside0.mk c14
                      clear c14
                      obtain ⟨y110, hy110⟩ : ∃ y_ : List Int, y_ = (x3_2 ++ [((rd_T28 l0 x9_1).f1)]) := ⟨_, rfl⟩
                      replace H : (place_Labels.l1 k2 y110 l0 (l0.length : Int) x9_1 ji6 (wrap64 (x17_2 + 1)) ((rd_T28 l0 x9_1).f0) ((rd_T28 l0 x9_1).f1) ((rd_T28 l0 x9_1).f2) ((rd_T28 l0 x9_1).f3) ((rd_T28 l0 x9_1).f4) ((rd_T28 l0 x9_1).f5)) = some r := by first | (rw [hy110]; with_reducible exact H) | (have H2_ := (Option.bind_some _ _).symm.trans H; rw [hy110]; with_reducible exact H2_) | (have H2_ := (Option.bind_some _ _).symm.trans H; with_reducible exact H2_) | with_reducible exact H | (rw [hy110]; exact H) | exact H
                      have Ny110 := Aside0.mk hy110
                      clear hy110
                      have H' := Aside0.mk H
                      clear H
                      have hcz15_0 : wr.cell? ⟨gb106, 0, none⟩ = some (.bool false) := ((blk_cell BK106.out 0).trans rfl).trans (congrArg (fun b => some (Value.bool b)) c10b0)
                      clear c10b0
                      have hcz15_1 : wr.cell? ⟨gb106, 1, none⟩ = some (.int .i64 ((rd_T28 l0 x9_1).f1)) := (blk_cell BK106.out 1).trans rfl
                      have hcz15_2 : wr.cell? ⟨gb106, 2, none⟩ = some (.string ((rd_T28 l0 x9_1).f2)) := (blk_cell BK106.out 2).trans rfl
                      have hcz15_3 : wr.cell? ⟨gb106, 3, none⟩ = some (.int .i64 ((rd_T28 l0 x9_1).f3)) := (blk_cell BK106.out 3).trans rfl
                      have hcz15_4 : wr.cell? ⟨gb106, 4, none⟩ = some (.string ((rd_T28 l0 x9_1).f4)) := (blk_cell BK106.out 4).trans rfl
                      have hcz15_5 : wr.cell? ⟨gb106, 5, none⟩ = some (.int .i64 ((rd_T28 l0 x9_1).f5)) := (blk_cell BK106.out 5).trans rfl
                      have hfz15_0 := blk_frozen BK106.out 0
                      have hfz15_1 := blk_frozen BK106.out 1
                      have hfz15_2 := blk_frozen BK106.out 2
                      have hfz15_3 := blk_frozen BK106.out 3
                      have hfz15_4 := blk_frozen BK106.out 4
                      have hfz15_5 := blk_frozen BK106.out 5
                      go_wp2_with (first | ((with_reducible refine gate_builtin (b := .append) (xs := #[.tmp 23, .tmp 25]) rfl ?_); at_builtin; refine Kd.R_append (Kd.int .i64) (w0 := w) w.heap.size rfl (.tmp 23) (.tmp 25) 41 26 (.int .i64 0) 8 rfl Try.underlying41 info26 rfl (by decide) (by omega) u3 x3_2 ((rd_T28 l0 x9_1).f1) [.int .i64 ((rd_T28 l0 x9_1).f1)] (fun _ => True) (fun _ => False) rfl rfl ?aP (fun _ hk => hk.elim) ?aF ?aO ?aB ?aS ?aL ?_; (case aP => exact rfl); (case aB => exact (by repeat (first | (with_reducible first | exact HB.out | apply below_alloc | apply pw_below_drewN | apply below_drew1 | refine below_set ?_ GE106.out) | exact HB.out))); (case aF => exact (fun _ _ => trivial)); (case aO => exact (by (with_reducible repeat (first | apply Kd.R_alloc | apply Kd.R_drewN | apply Kd.R_drew)); exact HO_3.out)); (case aS => exact (below_size (by repeat (first | (with_reducible first | exact HB.out | apply below_alloc | apply pw_below_drewN | apply below_drew1 | refine below_set ?_ GE106.out) | exact HB.out)))); (case aL => have := LMc14.out; omega); intro v111 w16 ho hb hg hat; rw [← Ny110.out] at ho; have n0_ := Aside0.mk (blk_grown (g := gb106) (o := .cells #[.bool ((rd_T28 l0 x9_1).f0), .int .i64 ((rd_T28 l0 x9_1).f1), .string ((rd_T28 l0 x9_1).f2), .int .i64 ((rd_T28 l0 x9_1).f3), .string ((rd_T28 l0 x9_1).f4), .int .i64 ((rd_T28 l0 x9_1).f5)] 28 (0, 0)) (by (with_reducible repeat (first | refine blk_drewN ?_ _ | refine blk_drew ?_ | refine blk_alloc ?_ _)); exact BK106.out) hg (Kd.R_ne HO_3.out BK106.out (by decide))); have n1_ := Aside0.mk (hb); have n2_ := Aside0.mk (ho); clear BK106; clear HB; clear HO_3; have BK106 := n0_; have HB := n1_; have HO112 := n2_; clear n0_ n1_ n2_; clear ho hb hg hat))
                      go_roundg k2
                      case measure => have := HK1.out; have := HK2.out; omega
                      case rel => exact ⟨(y110), (wrap64 (x17_2 + 1)), (by first | rfl | (simp; done) | (simp [*]; done)), H', ⟨by have := HK1.out; have := HK2.out; omega⟩, ⟨by (with_reducible repeat (first | apply Kd.R_alloc | apply Kd.R_drewN | apply Kd.R_drew)); exact HO112.out⟩, ⟨by (with_reducible repeat (first | refine blk_drewN ?_ _ | refine blk_drew ?_ | refine blk_alloc ?_ _)); exact BK106.out⟩, ⟨by repeat (first | (with_reducible first | exact HB.out | apply below_alloc | apply pw_below_drewN | apply below_drew1 | refine below_set ?_ GE106.out) | exact HB.out)⟩⟩
                    · rw [if_neg c14] at H
                      exact absurd H (by simp)
                · rw [if_neg c9] at H
                  have c9b0 : decide (x17_2 < ji6) = false := decide_eq_false c9
                  clear c9
                  have H' := Aside0.mk H
                  clear H
                  go_wp2
                  go_roundg k2
                  case measure => have := HK1.out; have := HK2.out; omega
                  case rel => exact ⟨(x3_2), (wrap64 (x9_1 + 1)), (by first | rfl | (simp; done) | (simp [*]; done)), H', ⟨by have := HK1.out; have := HK2.out; omega⟩, ⟨by (with_reducible repeat (first | apply Kd.R_alloc | apply Kd.R_drewN | apply Kd.R_drew)); exact HO_3.out⟩, ⟨by repeat (first | (with_reducible first | exact HB.out | apply below_alloc | apply pw_below_drewN | apply below_drew1 | refine below_set ?_ GE106.out) | exact HB.out)⟩⟩
          · rw [if_neg c4] at H
            exact absurd H (by simp)
        · rw [if_neg c3] at H
          exact absurd H (by simp)
      · rw [if_neg c2] at H
        have c2b0 : decide (x9_1 < (l0.length : Int)) = false := decide_eq_false c2
        clear c2
        obtain rfl := Option.some.inj H
        go_wp2
        go_ret
        exact ⟨_, by first | rfl | (simp [errW_none, errW_some] <;> rfl) | (simp [*, errW_none, errW_some] <;> rfl), by (with_reducible repeat (first | apply Kd.R_alloc | apply Kd.R_drewN | apply Kd.R_drew)); exact HO_3.out, by repeat (first | (with_reducible first | exact HB.out | apply below_alloc | apply pw_below_drewN | apply below_drew1) | exact HB.out)⟩

-- NOT PRINTED: function 6 (tautochronelaw10_PlaceLabels)

end Go.Proofs.Ythboknkpgbfmoaa.PQ
