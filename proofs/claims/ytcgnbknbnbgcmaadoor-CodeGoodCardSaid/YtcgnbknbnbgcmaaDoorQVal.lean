-- Written by a program of this session (wip/tools/extprint.py, pr.sh).
import Derived.Test.YtcgnbknbnbgcmaaDoorPQx0
import Derived.Test.YtcgnbknbnbgcmaaDoorPQx1
namespace Go.Proofs.YtcgnbknbnbgcmaaDoor.PQ
open Go.RowKit Go.Proofs.YtcgnbknbnbgcmaaDoorW.PrintWords Go.Proofs.YtcgnbknbnbgcmaaDoorW.PrintLast Go.Proofs.YtcgnbknbnbgcmaaDoorW.PrintMore
attribute [local go_sem] max2_int min2_int max_two min_two max_three min_three max_four min_four   -- for this text's walks alone
set_option linter.unusedVariables false
set_option linter.unusedSimpArgs false

/-! ### code_Values: function 20 -/
mutual
def code_Values.l0 : Nat → Int → List (S26) → Int → Int → Option (Int)
  | 0, _, _, _, _ => none
  | k + 1, x3, x10, x11, x12 => if x12 < x11 then (if 0 ≤ x12 then (if x12 < (x10.length : Int) then ((code_Defines.f ((rd_T26 x10 x12).f0) ((rd_T26 x10 x12).f1) ((rd_T26 x10 x12).f2) ((rd_T26 x10 x12).f3) ((rd_T26 x10 x12).f4) ((rd_T26 x10 x12).f5) ((rd_T26 x10 x12).f6) ((rd_T26 x10 x12).f7)).bind fun bt266 => (if bt266.2 = true then (code_Values.j1 k (mx x3 (wrap64 (bt266.1 + 1))) x10 x11 x12 ((rd_T26 x10 x12).f0) ((rd_T26 x10 x12).f1) ((rd_T26 x10 x12).f2) ((rd_T26 x10 x12).f3) ((rd_T26 x10 x12).f4) ((rd_T26 x10 x12).f5) ((rd_T26 x10 x12).f6) ((rd_T26 x10 x12).f7)) else (code_Values.j1 k x3 x10 x11 x12 ((rd_T26 x10 x12).f0) ((rd_T26 x10 x12).f1) ((rd_T26 x10 x12).f2) ((rd_T26 x10 x12).f3) ((rd_T26 x10 x12).f4) ((rd_T26 x10 x12).f5) ((rd_T26 x10 x12).f6) ((rd_T26 x10 x12).f7)))) else (none)) else (none)) else (some x3)
def code_Values.j1 : Nat → Int → List (S26) → Int → Int → Int → Int → Int → Int → Int → Int → Int → Int → Option (Int)
  | 0, _, _, _, _, _, _, _, _, _, _, _, _ => none
  | k + 1, x3, x10, x11, x12, x266000, x266001, x266002, x266003, x266004, x266005, x266006, x266007 => (code_Uses.f k x266000 x266001 x266002 x266003 x266004 x266005 x266006 x266007).bind fun t268 => (code_Values.l1 k x3 x10 x11 x12 t268 (t268.length : Int) 0)
def code_Values.l1 : Nat → Int → List (S26) → Int → Int → List Int → Int → Int → Option (Int)
  | 0, _, _, _, _, _, _, _ => none
  | k + 1, x3, x10, x11, x12, x27, x28, x29 => if x29 < x28 then (if 0 ≤ x29 then (if x29 < (x27.length : Int) then (code_Values.l1 k (mx x3 (wrap64 ((rd x27 x29) + 1))) x10 x11 x12 x27 x28 (wrap64 (x29 + 1))) else (none)) else (none)) else (code_Values.l0 k x3 x10 x11 (wrap64 (x12 + 1)))
end
def code_Values.f (k : Nat) (l0 : List (S26)) : Option (Int) := code_Values.l0 k 0 l0 (l0.length : Int) 0
theorem code_Values.mono_l : ∀ k, (∀ y0 y1 y2 y3, LeO (code_Values.l0 k y0 y1 y2 y3) (code_Values.l0 (k + 1) y0 y1 y2 y3)) ∧ (∀ y0 y1 y2 y3 y4 y5 y6 y7 y8 y9 y10 y11, LeO (code_Values.j1 k y0 y1 y2 y3 y4 y5 y6 y7 y8 y9 y10 y11) (code_Values.j1 (k + 1) y0 y1 y2 y3 y4 y5 y6 y7 y8 y9 y10 y11)) ∧ (∀ y0 y1 y2 y3 y4 y5 y6, LeO (code_Values.l1 k y0 y1 y2 y3 y4 y5 y6) (code_Values.l1 (k + 1) y0 y1 y2 y3 y4 y5 y6))
  | 0 => ⟨fun _ _ _ _ r h => by simp [code_Values.l0] at h, fun _ _ _ _ _ _ _ _ _ _ _ _ r h => by simp [code_Values.j1] at h, fun _ _ _ _ _ _ _ r h => by simp [code_Values.l1] at h⟩
  | k + 1 => by
    obtain ⟨ih0, ih1, ih2⟩ := code_Values.mono_l k
    refine ⟨?_, ?_, ?_⟩
    · intro y0 y1 y2 y3
      unfold code_Values.l0
      repeat' first
      | (with_reducible exact ih0 _ _ _ _)
      | (with_reducible exact ih1 _ _ _ _ _ _ _ _ _ _ _ _)
      | (with_reducible exact ih2 _ _ _ _ _ _ _)
      | (with_reducible exact code_Uses.mono _ _ _ _ _ _ _ _ _)
      | (with_reducible exact LeO.refl _)
      | (with_reducible exact LeO.none _)
      | (with_reducible refine LeO.ite ?_ ?_)
      | (with_reducible refine LeO.bind ?_ (fun _ => ?_))
      | exact ih0 _ _ _ _
      | exact ih1 _ _ _ _ _ _ _ _ _ _ _ _
      | exact ih2 _ _ _ _ _ _ _
      | exact code_Uses.mono _ _ _ _ _ _ _ _ _
      | exact LeO.none _
      | refine LeO.ite ?_ ?_
      | refine LeO.bind ?_ (fun _ => ?_)
    · intro y0 y1 y2 y3 y4 y5 y6 y7 y8 y9 y10 y11
      unfold code_Values.j1
      repeat' first
      | (with_reducible exact ih0 _ _ _ _)
      | (with_reducible exact ih1 _ _ _ _ _ _ _ _ _ _ _ _)
      | (with_reducible exact ih2 _ _ _ _ _ _ _)
      | (with_reducible exact code_Uses.mono _ _ _ _ _ _ _ _ _)
      | (with_reducible exact LeO.refl _)
      | (with_reducible exact LeO.none _)
      | (with_reducible refine LeO.ite ?_ ?_)
      | (with_reducible refine LeO.bind ?_ (fun _ => ?_))
      | exact ih0 _ _ _ _
      | exact ih1 _ _ _ _ _ _ _ _ _ _ _ _
      | exact ih2 _ _ _ _ _ _ _
      | exact code_Uses.mono _ _ _ _ _ _ _ _ _
      | exact LeO.none _
      | refine LeO.ite ?_ ?_
      | refine LeO.bind ?_ (fun _ => ?_)
    · intro y0 y1 y2 y3 y4 y5 y6
      unfold code_Values.l1
      repeat' first
      | (with_reducible exact ih0 _ _ _ _)
      | (with_reducible exact ih1 _ _ _ _ _ _ _ _ _ _ _ _)
      | (with_reducible exact ih2 _ _ _ _ _ _ _)
      | (with_reducible exact code_Uses.mono _ _ _ _ _ _ _ _ _)
      | (with_reducible exact LeO.refl _)
      | (with_reducible exact LeO.none _)
      | (with_reducible refine LeO.ite ?_ ?_)
      | (with_reducible refine LeO.bind ?_ (fun _ => ?_))
      | exact ih0 _ _ _ _
      | exact ih1 _ _ _ _ _ _ _ _ _ _ _ _
      | exact ih2 _ _ _ _ _ _ _
      | exact code_Uses.mono _ _ _ _ _ _ _ _ _
      | exact LeO.none _
      | refine LeO.ite ?_ ?_
      | refine LeO.bind ?_ (fun _ => ?_)
theorem code_Values.mono : ∀ a0 k, LeO (code_Values.f k a0) (code_Values.f (k + 1) a0) := by
  intro a0 k
  obtain ⟨ih0, ih1, ih2⟩ := code_Values.mono_l k
  unfold code_Values.f
  repeat' first
      | (with_reducible exact ih0 _ _ _ _)
      | (with_reducible exact ih1 _ _ _ _ _ _ _ _ _ _ _ _)
      | (with_reducible exact ih2 _ _ _ _ _ _ _)
      | (with_reducible exact code_Uses.mono _ _ _ _ _ _ _ _ _)
      | (with_reducible exact LeO.refl _)
      | (with_reducible exact LeO.none _)
      | (with_reducible refine LeO.ite ?_ ?_)
      | (with_reducible refine LeO.bind ?_ (fun _ => ?_))
      | exact ih0 _ _ _ _
      | exact ih1 _ _ _ _ _ _ _ _ _ _ _ _
      | exact ih2 _ _ _ _ _ _ _
      | exact code_Uses.mono _ _ _ _ _ _ _ _ _
      | exact LeO.none _
      | refine LeO.ite ?_ ?_
      | refine LeO.bind ?_ (fun _ => ?_)
set_option maxHeartbeats 8000000 in
set_option maxRecDepth 100000 in
theorem code_Values.calls (k : Nat) (A0 : Option Addr) (c0 : Nat) (l0 : List (S26)) (r : Int) (w : World) (hr0 : Kd.C k26 w A0 l0.length l0) (hc0 : l0.length ≤ c0) (h : code_Values.f k l0 = some r) :
    Calls Tryd.prog 20 #[.slice A0 l0.length c0] w fun e w' => e = .returned (.int .i64 r) ∧ Below w.heap.size w w' := by
  have hu26 := Tryd.underlying26
  have HR0 := Aside0.mk hr0
  have HC0 := Aside0.mk hc0
  clear hr0 hc0
  have HB := Aside0.mk (Below.refl w.heap.size w)
  have H : (code_Values.l0 k 0 l0 (l0.length : Int) 0) = some r := h
  clear h
  have H' := Aside0.mk H
  clear H
  go_enter Tryd.func20, Tryd.ntmps20
  go_wp2
  go_loopg [3, 12] k (fun kq v3 v12 w' => ∃ (x3_1 : Int) (x12_1 : Int), v3 = .int .i64 x3_1 ∧ v12 = .int .i64 x12_1 ∧ Aside0 (code_Values.l0 kq x3_1 l0 (l0.length : Int) x12_1 = some r) ∧ Aside0 (kq ≤ k) ∧ Aside0 (Below w.heap.size w w'))
  case atStart => exact ⟨(0), (0), (by first | rfl | (simp; done) | (simp [*]; done)), (by first | rfl | (simp; done) | (simp [*]; done)), H', ⟨Nat.le_refl _⟩, ⟨by repeat (first | (with_reducible first | exact HB.out | apply below_alloc | apply pw_below_drewN | apply below_drew1) | exact HB.out)⟩⟩
  case round =>
    clear H'
    obtain ⟨x3_1, x12_1, rfl, rfl, HA, HK1, HB⟩ := hrel
    cases gk with
    | zero => exact absurd HA.out (by simp [code_Values.l0])
    | succ k1 =>
      have H := HA.out
      clear HA
      simp only [code_Values.l0] at H
      by_cases c2 : x12_1 < (l0.length : Int)
      · rw [if_pos c2] at H
        have c2b0 : decide (x12_1 < (l0.length : Int)) = true := decide_eq_true c2
        clear c2
        by_cases c3 : 0 ≤ x12_1
        rotate_left
        · rw [if_neg c3] at H; exact absurd H (by simp)
        rw [if_pos c3] at H
        have c3b0 : decide (0 ≤ x12_1) = true := decide_eq_true c3
        clear c3
        by_cases c4 : x12_1 < (l0.length : Int)
        rotate_left
        · rw [if_neg c4] at H; exact absurd H (by simp)
        rw [if_pos c4] at H
        have c4b0 : decide (x12_1 < (l0.length : Int)) = true := decide_eq_true c4
        clear c4
        replace H := Option.bind_eq_some_iff.mp H
        obtain ⟨⟨t266, t267⟩, A50, H⟩ := H
        replace H : (if t267 = true then (code_Values.j1 k1 (mx x3_1 (wrap64 (t266 + 1))) l0 (l0.length : Int) x12_1 ((rd_T26 l0 x12_1).f0) ((rd_T26 l0 x12_1).f1) ((rd_T26 l0 x12_1).f2) ((rd_T26 l0 x12_1).f3) ((rd_T26 l0 x12_1).f4) ((rd_T26 l0 x12_1).f5) ((rd_T26 l0 x12_1).f6) ((rd_T26 l0 x12_1).f7)) else (code_Values.j1 k1 x3_1 l0 (l0.length : Int) x12_1 ((rd_T26 l0 x12_1).f0) ((rd_T26 l0 x12_1).f1) ((rd_T26 l0 x12_1).f2) ((rd_T26 l0 x12_1).f3) ((rd_T26 l0 x12_1).f4) ((rd_T26 l0 x12_1).f5) ((rd_T26 l0 x12_1).f6) ((rd_T26 l0 x12_1).f7))) = some r := H
        have A5 := Aside0.mk A50
        clear A50
        have HC6 := Aside0.mk H
        clear H
        have p264 : 0 ≤ (x12_1 : Int) := of_decide_eq_true (by first | (with_reducible assumption) | assumption)
        have q264 : x12_1 < (l0.length : Int) := of_decide_eq_true (by first | (with_reducible assumption) | assumption)
        obtain ⟨ad264, e264, hx264_0, hx264_1, hx264_2, hx264_3, hx264_4, hx264_5, hx264_6, hx264_7⟩ := at_T26 HR0.out x12_1 p264 q264
        cases e264
        replace hx264_0 := (HB.out.cell (World.block_lt_of_cell? w _ hx264_0)).trans hx264_0
        replace hx264_1 := (HB.out.cell (World.block_lt_of_cell? w _ hx264_1)).trans hx264_1
        replace hx264_2 := (HB.out.cell (World.block_lt_of_cell? w _ hx264_2)).trans hx264_2
        replace hx264_3 := (HB.out.cell (World.block_lt_of_cell? w _ hx264_3)).trans hx264_3
        replace hx264_4 := (HB.out.cell (World.block_lt_of_cell? w _ hx264_4)).trans hx264_4
        replace hx264_5 := (HB.out.cell (World.block_lt_of_cell? w _ hx264_5)).trans hx264_5
        replace hx264_6 := (HB.out.cell (World.block_lt_of_cell? w _ hx264_6)).trans hx264_6
        replace hx264_7 := (HB.out.cell (World.block_lt_of_cell? w _ hx264_7)).trans hx264_7
        replace p264 := eq_true p264
        replace q264 := eq_true q264
        go_upto_if 21 with (first | ((with_reducible refine gate_dst (N := 5) rfl ?_); refine box_event ?hg (N := 5) ?hd (cs := #[.int .i64 0, .int .i64 0, .int .i64 0, .int .i64 0, .int .i64 0, .int .i64 0, .int .u64 0, .int .i64 0]) (t := 26) ?hr ?_; (case hd => rfl); (case hg => rfl); (case hr => first | (go_simp; done) | (go_simp; rfl)); intro gb265 hg w7 hbox hb; have n0_ := Aside0.mk (below_step (by repeat (first | (with_reducible first | exact HB.out | apply below_alloc | apply pw_below_drewN | apply below_drew1) | exact HB.out)) hb); have n1_ := Aside0.mk (hbox); have n2_ := Aside0.mk ((by rw [hg]; exact (below_size (by repeat (first | (with_reducible first | exact HB.out | apply below_alloc | apply pw_below_drewN | apply below_drew1) | exact HB.out))) : w.heap.size ≤ gb265)); have n3_ := Aside0.mk ((by rw [hg]; exact (below_size (by repeat (first | (with_reducible first | exact HB.out | apply below_alloc | apply pw_below_drewN | apply below_drew1) | exact HB.out))) : w.heap.size ≤ gb265)); clear HB; have HB := n0_; have BK265 := n1_; have GW265 := n2_; have GE265 := n3_; clear n0_ n1_ n2_ n3_; clear hb hbox hg; have hcz8_0 : w7.cell? ⟨gb265, 0, none⟩ = some (.int .i64 0) := (blk_cell BK265.out 0).trans rfl; have hcz8_1 : w7.cell? ⟨gb265, 1, none⟩ = some (.int .i64 0) := (blk_cell BK265.out 1).trans rfl; have hcz8_2 : w7.cell? ⟨gb265, 2, none⟩ = some (.int .i64 0) := (blk_cell BK265.out 2).trans rfl; have hcz8_3 : w7.cell? ⟨gb265, 3, none⟩ = some (.int .i64 0) := (blk_cell BK265.out 3).trans rfl; have hcz8_4 : w7.cell? ⟨gb265, 4, none⟩ = some (.int .i64 0) := (blk_cell BK265.out 4).trans rfl; have hcz8_5 : w7.cell? ⟨gb265, 5, none⟩ = some (.int .i64 0) := (blk_cell BK265.out 5).trans rfl; have hcz8_6 : w7.cell? ⟨gb265, 6, none⟩ = some (.int .u64 0) := (blk_cell BK265.out 6).trans rfl; have hcz8_7 : w7.cell? ⟨gb265, 7, none⟩ = some (.int .i64 0) := (blk_cell BK265.out 7).trans rfl; have hfz8_0 := blk_frozen BK265.out 0; have hfz8_1 := blk_frozen BK265.out 1; have hfz8_2 := blk_frozen BK265.out 2; have hfz8_3 := blk_frozen BK265.out 3; have hfz8_4 := blk_frozen BK265.out 4; have hfz8_5 := blk_frozen BK265.out 5; have hfz8_6 := blk_frozen BK265.out 6; have hfz8_7 := blk_frozen BK265.out 7) | ((with_reducible refine gate_callee (f := 9) rfl ?_); refine goesL_ (some 18) rfl rfl Tryd.func9 (by kernel_rfl) rfl #[.agg #[.int .i64 ((rd_T26 l0 x12_1).f0), .int .i64 ((rd_T26 l0 x12_1).f1), .int .i64 ((rd_T26 l0 x12_1).f2), .int .i64 ((rd_T26 l0 x12_1).f3), .int .i64 ((rd_T26 l0 x12_1).f4), .int .i64 ((rd_T26 l0 x12_1).f5), .int .u64 ((rd_T26 l0 x12_1).f6), .int .i64 ((rd_T26 l0 x12_1).f7)]] rfl (by (try simp only [List.map_toArray, List.map_cons, List.map_nil]); first | done | rfl | (simp only [List.length_drop, List.length_take]; rfl)) ?_; (with_reducible refine (code_Defines.calls ((rd_T26 l0 x12_1).f0) ((rd_T26 l0 x12_1).f1) ((rd_T26 l0 x12_1).f2) ((rd_T26 l0 x12_1).f3) ((rd_T26 l0 x12_1).f4) ((rd_T26 l0 x12_1).f5) ((rd_T26 l0 x12_1).f6) ((rd_T26 l0 x12_1).f7) t266 t267 _ A5.out).mono ?_); rintro e w9 ⟨rfl, hb⟩; refine ⟨_, rfl, ?_⟩; have n0_ := Aside0.mk (blk_below (g := gb265) (o := .cells #[.int .i64 ((rd_T26 l0 x12_1).f0), .int .i64 ((rd_T26 l0 x12_1).f1), .int .i64 ((rd_T26 l0 x12_1).f2), .int .i64 ((rd_T26 l0 x12_1).f3), .int .i64 ((rd_T26 l0 x12_1).f4), .int .i64 ((rd_T26 l0 x12_1).f5), .int .u64 ((rd_T26 l0 x12_1).f6), .int .i64 ((rd_T26 l0 x12_1).f7)] 26 (0, 0)) (by (with_reducible repeat (first | refine blk_drewN ?_ _ | refine blk_drew ?_ | refine blk_alloc ?_ _)); refine blk_put (cs := #[.int .i64 ((rd_T26 l0 x12_1).f0), .int .i64 ((rd_T26 l0 x12_1).f1), .int .i64 ((rd_T26 l0 x12_1).f2), .int .i64 ((rd_T26 l0 x12_1).f3), .int .i64 ((rd_T26 l0 x12_1).f4), .int .i64 ((rd_T26 l0 x12_1).f5), .int .u64 ((rd_T26 l0 x12_1).f6), .int .i64 0]) ?_ 7 _ rfl; refine blk_put (cs := #[.int .i64 ((rd_T26 l0 x12_1).f0), .int .i64 ((rd_T26 l0 x12_1).f1), .int .i64 ((rd_T26 l0 x12_1).f2), .int .i64 ((rd_T26 l0 x12_1).f3), .int .i64 ((rd_T26 l0 x12_1).f4), .int .i64 ((rd_T26 l0 x12_1).f5), .int .u64 0, .int .i64 0]) ?_ 6 _ rfl; refine blk_put (cs := #[.int .i64 ((rd_T26 l0 x12_1).f0), .int .i64 ((rd_T26 l0 x12_1).f1), .int .i64 ((rd_T26 l0 x12_1).f2), .int .i64 ((rd_T26 l0 x12_1).f3), .int .i64 ((rd_T26 l0 x12_1).f4), .int .i64 0, .int .u64 0, .int .i64 0]) ?_ 5 _ rfl; refine blk_put (cs := #[.int .i64 ((rd_T26 l0 x12_1).f0), .int .i64 ((rd_T26 l0 x12_1).f1), .int .i64 ((rd_T26 l0 x12_1).f2), .int .i64 ((rd_T26 l0 x12_1).f3), .int .i64 0, .int .i64 0, .int .u64 0, .int .i64 0]) ?_ 4 _ rfl; refine blk_put (cs := #[.int .i64 ((rd_T26 l0 x12_1).f0), .int .i64 ((rd_T26 l0 x12_1).f1), .int .i64 ((rd_T26 l0 x12_1).f2), .int .i64 0, .int .i64 0, .int .i64 0, .int .u64 0, .int .i64 0]) ?_ 3 _ rfl; refine blk_put (cs := #[.int .i64 ((rd_T26 l0 x12_1).f0), .int .i64 ((rd_T26 l0 x12_1).f1), .int .i64 0, .int .i64 0, .int .i64 0, .int .i64 0, .int .u64 0, .int .i64 0]) ?_ 2 _ rfl; refine blk_put (cs := #[.int .i64 ((rd_T26 l0 x12_1).f0), .int .i64 0, .int .i64 0, .int .i64 0, .int .i64 0, .int .i64 0, .int .u64 0, .int .i64 0]) ?_ 1 _ rfl; refine blk_put (cs := #[.int .i64 0, .int .i64 0, .int .i64 0, .int .i64 0, .int .i64 0, .int .i64 0, .int .u64 0, .int .i64 0]) ?_ 0 _ rfl; (with_reducible repeat (first | refine blk_drewN ?_ _ | refine blk_drew ?_ | refine blk_alloc ?_ _)); exact BK265.out) hb); have n1_ := Aside0.mk (below_step (by repeat (first | (with_reducible first | exact HB.out | apply below_alloc | apply pw_below_drewN | apply below_drew1 | refine below_set ?_ GE265.out) | exact HB.out)) hb); clear BK265; clear HB; have BK265 := n0_; have HB := n1_; clear n0_ n1_; (try clear hb); (try clear hb2); (try clear hk); (try clear hi)))
        (try simp only [Act.put, List.setIfInBounds_toArray, List.set_cons_zero, List.set_cons_succ])
        go_cut [3] (fun v3 wc => ∃ (kq : Nat) (x3_5 : Int), v3 = .int .i64 x3_5 ∧ Aside0 (code_Values.j1 kq x3_5 l0 (l0.length : Int) x12_1 ((rd_T26 l0 x12_1).f0) ((rd_T26 l0 x12_1).f1) ((rd_T26 l0 x12_1).f2) ((rd_T26 l0 x12_1).f3) ((rd_T26 l0 x12_1).f4) ((rd_T26 l0 x12_1).f5) ((rd_T26 l0 x12_1).f6) ((rd_T26 l0 x12_1).f7) = some r) ∧ Aside0 (kq ≤ k1) ∧ Aside0 (wc.heap[gb265]? = some (.cells #[.int .i64 ((rd_T26 l0 x12_1).f0), .int .i64 ((rd_T26 l0 x12_1).f1), .int .i64 ((rd_T26 l0 x12_1).f2), .int .i64 ((rd_T26 l0 x12_1).f3), .int .i64 ((rd_T26 l0 x12_1).f4), .int .i64 ((rd_T26 l0 x12_1).f5), .int .u64 ((rd_T26 l0 x12_1).f6), .int .i64 ((rd_T26 l0 x12_1).f7)] 26 (0, 0))) ∧ Aside0 (Below w.heap.size w wc))
        case first =>
          have H := HC6.out
          clear HC6
          by_cases c10 : t267 = true
          · subst c10
            have H1 : (code_Values.j1 k1 (mx x3_1 (wrap64 (t266 + 1))) l0 (l0.length : Int) x12_1 ((rd_T26 l0 x12_1).f0) ((rd_T26 l0 x12_1).f1) ((rd_T26 l0 x12_1).f2) ((rd_T26 l0 x12_1).f3) ((rd_T26 l0 x12_1).f4) ((rd_T26 l0 x12_1).f5) ((rd_T26 l0 x12_1).f6) ((rd_T26 l0 x12_1).f7)) = some r := by rw [if_pos rfl] at H; exact H
            clear H
            have H := H1
            clear H1
            obtain ⟨ji11, hji11⟩ : ∃ j_ : Int, (mx x3_1 (wrap64 (t266 + 1))) = j_ := ⟨_, rfl⟩
            replace H : (code_Values.j1 k1 ji11 l0 (l0.length : Int) x12_1 ((rd_T26 l0 x12_1).f0) ((rd_T26 l0 x12_1).f1) ((rd_T26 l0 x12_1).f2) ((rd_T26 l0 x12_1).f3) ((rd_T26 l0 x12_1).f4) ((rd_T26 l0 x12_1).f5) ((rd_T26 l0 x12_1).f6) ((rd_T26 l0 x12_1).f7)) = some r := by first | (rw [hji11] at H; exact H) | (simp only [hji11] at H ⊢; exact H)
            have hji11_ : (if x3_1 < (wrap64 (t266 + 1)) then (wrap64 (t266 + 1)) else x3_1) = ji11 := hji11
            have H' := Aside0.mk H
            clear H
            go_wp2
            go_meet
            case rel => exact ⟨_, (ji11), (by first | rfl | (simp; done) | (simp only [← hji11] <;> (first | rfl | simp)) | (simp [*]; done)), H', ⟨by have := HK1.out; first | omega | exact Nat.le_refl _⟩, ⟨by (with_reducible repeat (first | refine blk_drewN ?_ _ | refine blk_drew ?_ | refine blk_alloc ?_ _)); exact BK265.out⟩, ⟨by repeat (first | (with_reducible first | exact HB.out | apply below_alloc | apply pw_below_drewN | apply below_drew1 | refine below_set ?_ GE265.out) | exact HB.out)⟩⟩
          · replace c10 := Bool.eq_false_iff.mpr c10
            subst c10
            have H1 : (code_Values.j1 k1 x3_1 l0 (l0.length : Int) x12_1 ((rd_T26 l0 x12_1).f0) ((rd_T26 l0 x12_1).f1) ((rd_T26 l0 x12_1).f2) ((rd_T26 l0 x12_1).f3) ((rd_T26 l0 x12_1).f4) ((rd_T26 l0 x12_1).f5) ((rd_T26 l0 x12_1).f6) ((rd_T26 l0 x12_1).f7)) = some r := by rw [if_neg (show ¬ (false = true) by decide)] at H; exact H
            clear H
            have H := H1
            clear H1
            have H' := Aside0.mk H
            clear H
            go_wp2
            go_meet
            case rel => exact ⟨_, (x3_1), (by first | rfl | (simp; done) | (simp [*]; done)), H', ⟨by have := HK1.out; first | omega | exact Nat.le_refl _⟩, ⟨by (with_reducible repeat (first | refine blk_drewN ?_ _ | refine blk_drew ?_ | refine blk_alloc ?_ _)); exact BK265.out⟩, ⟨by repeat (first | (with_reducible first | exact HB.out | apply below_alloc | apply pw_below_drewN | apply below_drew1 | refine below_set ?_ GE265.out) | exact HB.out)⟩⟩
        case rest =>
          clear HC6
          try clear c1
          try clear c2
          try clear c2b0
          try clear p2
          try clear q2
          try clear hx2
          try clear c3
          try clear c3b0
          try clear c4
          try clear c4b0
          try clear p6
          try clear c9
          try clear c10
          try clear hcz8_0 hcz8_1 hcz8_2 hcz8_3 hcz8_4 hcz8_5 hcz8_6 hcz8_7
          try clear hfz8_0 hfz8_1 hfz8_2 hfz8_3 hfz8_4 hfz8_5 hfz8_6 hfz8_7
          try clear hx264_0
          try clear hx264_1
          try clear hx264_2
          try clear hx264_3
          try clear hx264_4
          try clear hx264_5
          try clear hx264_6
          try clear hx264_7
          try clear p264
          try clear q264
          obtain ⟨kq, x3_5, rfl, HA, HJ5, BK265, HB⟩ := hcut
          cases kq with
          | zero => exact absurd HA.out (by simp [code_Values.j1])
          | succ kj5 =>
            have H := HA.out
            clear HA
            simp only [code_Values.j1] at H
            replace H := Option.bind_eq_some_iff.mp H
            obtain ⟨t268, A120, H⟩ := H
            replace H : (code_Values.l1 kj5 x3_5 l0 (l0.length : Int) x12_1 t268 (t268.length : Int) 0) = some r := H
            have A12 := Aside0.mk A120
            clear A120
            have H' := Aside0.mk H
            clear H
            have hcz13_0 : wc.cell? ⟨gb265, 0, none⟩ = some (.int .i64 ((rd_T26 l0 x12_1).f0)) := (blk_cell BK265.out 0).trans rfl
            have hcz13_1 : wc.cell? ⟨gb265, 1, none⟩ = some (.int .i64 ((rd_T26 l0 x12_1).f1)) := (blk_cell BK265.out 1).trans rfl
            have hcz13_2 : wc.cell? ⟨gb265, 2, none⟩ = some (.int .i64 ((rd_T26 l0 x12_1).f2)) := (blk_cell BK265.out 2).trans rfl
            have hcz13_3 : wc.cell? ⟨gb265, 3, none⟩ = some (.int .i64 ((rd_T26 l0 x12_1).f3)) := (blk_cell BK265.out 3).trans rfl
            have hcz13_4 : wc.cell? ⟨gb265, 4, none⟩ = some (.int .i64 ((rd_T26 l0 x12_1).f4)) := (blk_cell BK265.out 4).trans rfl
            have hcz13_5 : wc.cell? ⟨gb265, 5, none⟩ = some (.int .i64 ((rd_T26 l0 x12_1).f5)) := (blk_cell BK265.out 5).trans rfl
            have hcz13_6 : wc.cell? ⟨gb265, 6, none⟩ = some (.int .u64 ((rd_T26 l0 x12_1).f6)) := (blk_cell BK265.out 6).trans rfl
            have hcz13_7 : wc.cell? ⟨gb265, 7, none⟩ = some (.int .i64 ((rd_T26 l0 x12_1).f7)) := (blk_cell BK265.out 7).trans rfl
            have hfz13_0 := blk_frozen BK265.out 0
            have hfz13_1 := blk_frozen BK265.out 1
            have hfz13_2 := blk_frozen BK265.out 2
            have hfz13_3 := blk_frozen BK265.out 3
            have hfz13_4 := blk_frozen BK265.out 4
            have hfz13_5 := blk_frozen BK265.out 5
            have hfz13_6 := blk_frozen BK265.out 6
            have hfz13_7 := blk_frozen BK265.out 7
            go_wp2_with (first | ((with_reducible refine gate_callee (f := 13) rfl ?_); refine goesL_ (some 27) rfl rfl Tryd.func13 (by kernel_rfl) rfl #[.agg #[.int .i64 ((rd_T26 l0 x12_1).f0), .int .i64 ((rd_T26 l0 x12_1).f1), .int .i64 ((rd_T26 l0 x12_1).f2), .int .i64 ((rd_T26 l0 x12_1).f3), .int .i64 ((rd_T26 l0 x12_1).f4), .int .i64 ((rd_T26 l0 x12_1).f5), .int .u64 ((rd_T26 l0 x12_1).f6), .int .i64 ((rd_T26 l0 x12_1).f7)]] rfl (by (try simp only [List.map_toArray, List.map_cons, List.map_nil]); first | done | rfl | (simp only [List.length_drop, List.length_take]; rfl)) ?_; (with_reducible refine (code_Uses.calls kj5 ((rd_T26 l0 x12_1).f0) ((rd_T26 l0 x12_1).f1) ((rd_T26 l0 x12_1).f2) ((rd_T26 l0 x12_1).f3) ((rd_T26 l0 x12_1).f4) ((rd_T26 l0 x12_1).f5) ((rd_T26 l0 x12_1).f6) ((rd_T26 l0 x12_1).f7) t268 _ A12.out).mono ?_); rintro e w14 ⟨v269, rfl, ho0, hb⟩; refine ⟨_, rfl, ?_⟩; have n0_ := Aside0.mk (Kd.R_lower ho0 (below_size (by repeat (first | (with_reducible first | exact HB.out | apply below_alloc | apply pw_below_drewN | apply below_drew1 | refine below_set ?_ GE265.out) | exact HB.out)))); have n1_ := Aside0.mk (blk_below (g := gb265) (o := .cells #[.int .i64 ((rd_T26 l0 x12_1).f0), .int .i64 ((rd_T26 l0 x12_1).f1), .int .i64 ((rd_T26 l0 x12_1).f2), .int .i64 ((rd_T26 l0 x12_1).f3), .int .i64 ((rd_T26 l0 x12_1).f4), .int .i64 ((rd_T26 l0 x12_1).f5), .int .u64 ((rd_T26 l0 x12_1).f6), .int .i64 ((rd_T26 l0 x12_1).f7)] 26 (0, 0)) (by (with_reducible repeat (first | refine blk_drewN ?_ _ | refine blk_drew ?_ | refine blk_alloc ?_ _)); exact BK265.out) hb); have n2_ := Aside0.mk (below_step (by repeat (first | (with_reducible first | exact HB.out | apply below_alloc | apply pw_below_drewN | apply below_drew1 | refine below_set ?_ GE265.out) | exact HB.out)) hb); clear BK265; clear HB; have HO270 := n0_; have BK265 := n1_; have HB := n2_; clear n0_ n1_ n2_; (try clear hb); (try clear hb2); (try clear hk); (try clear hi); (try clear ho0); obtain ⟨Ao15, co15, eo15⟩ := Kd.R_slice HO270.out; subst eo15))
            go_loopg [3, 29] kj5 (fun kq v3 v29 w' => ∃ (x3_3 : Int) (x29_3 : Int), v3 = .int .i64 x3_3 ∧ v29 = .int .i64 x29_3 ∧ Aside0 (code_Values.l1 kq x3_3 l0 (l0.length : Int) x12_1 t268 (t268.length : Int) x29_3 = some r) ∧ Aside0 (kq ≤ kj5) ∧ Aside0 (Kd.R (Kd.int .i64) 3 w' w.heap.size (fun _ => True) (.slice Ao15 t268.length co15) t268) ∧ Aside0 (w'.heap[gb265]? = some (.cells #[.int .i64 ((rd_T26 l0 x12_1).f0), .int .i64 ((rd_T26 l0 x12_1).f1), .int .i64 ((rd_T26 l0 x12_1).f2), .int .i64 ((rd_T26 l0 x12_1).f3), .int .i64 ((rd_T26 l0 x12_1).f4), .int .i64 ((rd_T26 l0 x12_1).f5), .int .u64 ((rd_T26 l0 x12_1).f6), .int .i64 ((rd_T26 l0 x12_1).f7)] 26 (0, 0))) ∧ Aside0 (Below w.heap.size w w'))
            case atStart => exact ⟨(x3_5), (0), (by first | rfl | (simp; done) | (simp [*]; done)), (by first | rfl | (simp; done) | (simp [*]; done)), H', ⟨Nat.le_refl _⟩, ⟨by (with_reducible repeat (first | apply Kd.R_alloc | apply Kd.R_drewN | apply Kd.R_drew)); exact HO270.out⟩, ⟨by (with_reducible repeat (first | refine blk_drewN ?_ _ | refine blk_drew ?_ | refine blk_alloc ?_ _)); exact BK265.out⟩, ⟨by repeat (first | (with_reducible first | exact HB.out | apply below_alloc | apply pw_below_drewN | apply below_drew1 | refine below_set ?_ GE265.out) | exact HB.out)⟩⟩
            case round =>
              clear H'
              try clear c1
              try clear c2
              try clear c2b0
              try clear p2
              try clear q2
              try clear hx2
              try clear c3
              try clear c3b0
              try clear c4
              try clear c4b0
              try clear p6
              try clear c9
              try clear c10
              try clear c13
              try clear hcz13_0 hcz13_1 hcz13_2 hcz13_3 hcz13_4 hcz13_5 hcz13_6 hcz13_7
              try clear hcz8_0 hcz8_1 hcz8_2 hcz8_3 hcz8_4 hcz8_5 hcz8_6 hcz8_7
              try clear hfz13_0 hfz13_1 hfz13_2 hfz13_3 hfz13_4 hfz13_5 hfz13_6 hfz13_7
              try clear hfz8_0 hfz8_1 hfz8_2 hfz8_3 hfz8_4 hfz8_5 hfz8_6 hfz8_7
              try clear hx264_0
              try clear hx264_1
              try clear hx264_2
              try clear hx264_3
              try clear hx264_4
              try clear hx264_5
              try clear hx264_6
              try clear hx264_7
              try clear p2
              try clear p264
              try clear p6
              try clear q2
              try clear q264
              obtain ⟨x3_3, x29_3, rfl, rfl, HA, HK3, HO_27, BK265, HB⟩ := hrel
              cases gk with
              | zero => exact absurd HA.out (by simp [code_Values.l1])
              | succ k3 =>
                have H := HA.out
                clear HA
                simp only [code_Values.l1] at H
                by_cases c16 : x29_3 < (t268.length : Int)
                · rw [if_pos c16] at H
                  have c16b0 : decide (x29_3 < (t268.length : Int)) = true := decide_eq_true c16
                  clear c16
                  by_cases c17 : 0 ≤ x29_3
                  rotate_left
                  · rw [if_neg c17] at H; exact absurd H (by simp)
                  rw [if_pos c17] at H
                  have c17b0 : decide (0 ≤ x29_3) = true := decide_eq_true c17
                  clear c17
                  by_cases c18 : x29_3 < (t268.length : Int)
                  rotate_left
                  · rw [if_neg c18] at H; exact absurd H (by simp)
                  rw [if_pos c18] at H
                  have c18b0 : decide (x29_3 < (t268.length : Int)) = true := decide_eq_true c18
                  clear c18
                  obtain ⟨ji19, hji19⟩ : ∃ j_ : Int, (mx x3_3 (wrap64 ((rd t268 x29_3) + 1))) = j_ := ⟨_, rfl⟩
                  replace H : (code_Values.l1 k3 ji19 l0 (l0.length : Int) x12_1 t268 (t268.length : Int) (wrap64 (x29_3 + 1))) = some r := by first | (rw [hji19] at H; exact H) | (simp only [hji19] at H ⊢; exact H)
                  have hji19_ : (if x3_3 < (wrap64 ((rd t268 x29_3) + 1)) then (wrap64 ((rd t268 x29_3) + 1)) else x3_3) = ji19 := hji19
                  have H' := Aside0.mk H
                  clear H
                  have p271 : 0 ≤ (x29_3 : Int) := of_decide_eq_true (by first | (with_reducible assumption) | assumption)
                  have q271 : x29_3 < (t268.length : Int) := of_decide_eq_true (by first | (with_reducible assumption) | assumption)
                  obtain ⟨ad271, e271, hx271_0⟩ := Kd.at_int (Kd.R_reads' HO_27.out).2.2 x29_3 p271 q271
                  cases e271
                  replace p271 := eq_true p271
                  replace q271 := eq_true q271
                  go_wp2
                  go_roundg k3
                  case measure => have := HK1.out; have := HJ5.out; have := HK3.out; omega
                  case rel => exact ⟨(ji19), (wrap64 (x29_3 + 1)), (by first | rfl | (simp; done) | (simp only [← hji19] <;> (first | rfl | simp)) | (simp [*]; done)), (by first | rfl | (simp; done) | (simp [*]; done)), H', ⟨by have := HK1.out; have := HJ5.out; have := HK3.out; omega⟩, ⟨by (with_reducible repeat (first | apply Kd.R_alloc | apply Kd.R_drewN | apply Kd.R_drew)); exact HO_27.out⟩, ⟨by (with_reducible repeat (first | refine blk_drewN ?_ _ | refine blk_drew ?_ | refine blk_alloc ?_ _)); exact BK265.out⟩, ⟨by repeat (first | (with_reducible first | exact HB.out | apply below_alloc | apply pw_below_drewN | apply below_drew1 | refine below_set ?_ GE265.out) | exact HB.out)⟩⟩
                · rw [if_neg c16] at H
                  have c16b0 : decide (x29_3 < (t268.length : Int)) = false := decide_eq_false c16
                  clear c16
                  have H' := Aside0.mk H
                  clear H
                  go_wp2
                  go_roundg k3
                  case measure => have := HK1.out; have := HJ5.out; have := HK3.out; omega
                  case rel => exact ⟨(x3_3), (wrap64 (x12_1 + 1)), (by first | rfl | (simp; done) | (simp [*]; done)), (by first | rfl | (simp; done) | (simp [*]; done)), H', ⟨by have := HK1.out; have := HJ5.out; have := HK3.out; omega⟩, ⟨by repeat (first | (with_reducible first | exact HB.out | apply below_alloc | apply pw_below_drewN | apply below_drew1 | refine below_set ?_ GE265.out) | exact HB.out)⟩⟩
      · rw [if_neg c2] at H
        have c2b0 : decide (x12_1 < (l0.length : Int)) = false := decide_eq_false c2
        clear c2
        obtain rfl := Option.some.inj H
        go_wp2
        go_ret
        exact ⟨by first | rfl | (simp [errW_none, errW_some] <;> rfl) | (simp [*, errW_none, errW_some] <;> rfl), by repeat (first | (with_reducible first | exact HB.out | apply below_alloc | apply pw_below_drewN | apply below_drew1) | exact HB.out)⟩

-- NOT PRINTED: function 5 (tautochronelaw12_CodeGood)

end Go.Proofs.YtcgnbknbnbgcmaaDoor.PQ
