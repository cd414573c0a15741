-- Written by a program of this session (wip/tools/extprint.py, pr.sh).
import Derived.Test.YthboknkpgbfmoaaPQx0
namespace Go.Proofs.Ythboknkpgbfmoaa.PQ
open Go.RowKit Go.Proofs.YthboknkpgbfmoaaW.PrintWords Go.Proofs.YthboknkpgbfmoaaW.PrintLast Go.Proofs.YthboknkpgbfmoaaW.PrintMore
attribute [local go_sem] max2_int min2_int max_two min_two max_three min_three max_four min_four   -- for this text's walks alone
set_option linter.unusedVariables false
set_option linter.unusedSimpArgs false

/-! ### tautochronelaw10_decls: function 13 -/
mutual
def tautochronelaw10_decls.l0 : Nat → List Bool → List (S28) → List Int → Int → Int → Option ((List (S28)))
  | 0, _, _, _, _, _ => none
  | k + 1, x1, x5, x9, x10, x11 => if x11 < x10 then (if 0 ≤ x11 then (if x11 < (x9.length : Int) then (if 1 + (Utf8.encode (wrap32 (wrap64 (97 + (Int.tmod (wrap64 (Int.tdiv x11 26)) 26))))).size ≤ 9223372036854775807 then (if ((⟨#[110]⟩ : ByteArray) ++ (Utf8.encode (wrap32 (wrap64 (97 + (Int.tmod (wrap64 (Int.tdiv x11 26)) 26)))))).size + (Utf8.encode (wrap32 (wrap64 (97 + (Int.tmod x11 26))))).size ≤ 9223372036854775807 then (if x11 = 600 then (some x5) else (if x11 < (x1.length : Int) then (tautochronelaw10_decls.j1 k x1 x5 (rd x9 x11) x9 x10 x11 (rdOf false x1 x11) false 0 (((⟨#[110]⟩ : ByteArray) ++ (Utf8.encode (wrap32 (wrap64 (97 + (Int.tmod (wrap64 (Int.tdiv x11 26)) 26)))))) ++ (Utf8.encode (wrap32 (wrap64 (97 + (Int.tmod x11 26)))))) (wrap64 (rd x9 x11)) (⟨#[]⟩ : ByteArray) 0) else (tautochronelaw10_decls.j1 k x1 x5 (rd x9 x11) x9 x10 x11 false false 0 (((⟨#[110]⟩ : ByteArray) ++ (Utf8.encode (wrap32 (wrap64 (97 + (Int.tmod (wrap64 (Int.tdiv x11 26)) 26)))))) ++ (Utf8.encode (wrap32 (wrap64 (97 + (Int.tmod x11 26)))))) (wrap64 (rd x9 x11)) (⟨#[]⟩ : ByteArray) 0))) else (none)) else (none)) else (none)) else (none)) else (some x5)
def tautochronelaw10_decls.j1 : Nat → List Bool → List (S28) → Int → List Int → Int → Int → Bool → Bool → Int → ByteArray → Int → ByteArray → Int → Option ((List (S28)))
  | 0, _, _, _, _, _, _, _, _, _, _, _, _, _ => none
  | k + 1, x1, x5, x7, x9, x10, x11, x43, x103000, x103001, x103002, x103003, x103004, x103005 => if x43 = true then (if (Int.tmod x7 7) = 6 then (if x5.length < 2199023255552 then (tautochronelaw10_decls.l0 k x1 (x5 ++ [(⟨true, 1, x103002, 0, x103004, x103005⟩ : S28)]) x9 x10 (wrap64 (x11 + 1))) else (none)) else (if x5.length < 2199023255552 then (tautochronelaw10_decls.l0 k x1 (x5 ++ [(⟨false, 1, x103002, x103003, x103004, x103005⟩ : S28)]) x9 x10 (wrap64 (x11 + 1))) else (none))) else (if (Int.tmod x7 7) = 6 then (if x5.length < 2199023255552 then (tautochronelaw10_decls.l0 k x1 (x5 ++ [(⟨true, x103001, x103002, 0, x103004, x103005⟩ : S28)]) x9 x10 (wrap64 (x11 + 1))) else (none)) else (if x5.length < 2199023255552 then (tautochronelaw10_decls.l0 k x1 (x5 ++ [(⟨false, x103001, x103002, x103003, x103004, x103005⟩ : S28)]) x9 x10 (wrap64 (x11 + 1))) else (none)))
end
def tautochronelaw10_decls.f (k : Nat) (l0 : List Int) (l1 : List Bool) : Option ((List (S28))) := tautochronelaw10_decls.l0 k l1 ([] : List (S28)) l0 (l0.length : Int) 0
theorem tautochronelaw10_decls.mono_l : ∀ k, (∀ y0 y1 y2 y3 y4, LeO (tautochronelaw10_decls.l0 k y0 y1 y2 y3 y4) (tautochronelaw10_decls.l0 (k + 1) y0 y1 y2 y3 y4)) ∧ (∀ y0 y1 y2 y3 y4 y5 y6 y7 y8 y9 y10 y11 y12, LeO (tautochronelaw10_decls.j1 k y0 y1 y2 y3 y4 y5 y6 y7 y8 y9 y10 y11 y12) (tautochronelaw10_decls.j1 (k + 1) y0 y1 y2 y3 y4 y5 y6 y7 y8 y9 y10 y11 y12))
  | 0 => ⟨fun _ _ _ _ _ r h => by simp [tautochronelaw10_decls.l0] at h, fun _ _ _ _ _ _ _ _ _ _ _ _ _ r h => by simp [tautochronelaw10_decls.j1] at h⟩
  | k + 1 => by
    obtain ⟨ih0, ih1⟩ := tautochronelaw10_decls.mono_l k
    refine ⟨?_, ?_⟩
    · intro y0 y1 y2 y3 y4
      unfold tautochronelaw10_decls.l0
      repeat' first
      | (with_reducible exact ih0 _ _ _ _ _)
      | (with_reducible exact ih1 _ _ _ _ _ _ _ _ _ _ _ _ _)
      | (with_reducible exact LeO.refl _)
      | (with_reducible exact LeO.none _)
      | (with_reducible refine LeO.ite ?_ ?_)
      | (with_reducible refine LeO.bind ?_ (fun _ => ?_))
      | exact ih0 _ _ _ _ _
      | exact ih1 _ _ _ _ _ _ _ _ _ _ _ _ _
      | exact LeO.none _
      | refine LeO.ite ?_ ?_
      | refine LeO.bind ?_ (fun _ => ?_)
    · intro y0 y1 y2 y3 y4 y5 y6 y7 y8 y9 y10 y11 y12
      unfold tautochronelaw10_decls.j1
      repeat' first
      | (with_reducible exact ih0 _ _ _ _ _)
      | (with_reducible exact ih1 _ _ _ _ _ _ _ _ _ _ _ _ _)
      | (with_reducible exact LeO.refl _)
      | (with_reducible exact LeO.none _)
      | (with_reducible refine LeO.ite ?_ ?_)
      | (with_reducible refine LeO.bind ?_ (fun _ => ?_))
      | exact ih0 _ _ _ _ _
      | exact ih1 _ _ _ _ _ _ _ _ _ _ _ _ _
      | exact LeO.none _
      | refine LeO.ite ?_ ?_
      | refine LeO.bind ?_ (fun _ => ?_)
theorem tautochronelaw10_decls.mono : ∀ a0 a1 k, LeO (tautochronelaw10_decls.f k a0 a1) (tautochronelaw10_decls.f (k + 1) a0 a1) := by
  intro a0 a1 k
  obtain ⟨ih0, ih1⟩ := tautochronelaw10_decls.mono_l k
  unfold tautochronelaw10_decls.f
  repeat' first
      | (with_reducible exact ih0 _ _ _ _ _)
      | (with_reducible exact ih1 _ _ _ _ _ _ _ _ _ _ _ _ _)
      | (with_reducible exact LeO.refl _)
      | (with_reducible exact LeO.none _)
      | (with_reducible refine LeO.ite ?_ ?_)
      | (with_reducible refine LeO.bind ?_ (fun _ => ?_))
      | exact ih0 _ _ _ _ _
      | exact ih1 _ _ _ _ _ _ _ _ _ _ _ _ _
      | exact LeO.none _
      | refine LeO.ite ?_ ?_
      | refine LeO.bind ?_ (fun _ => ?_)
set_option maxHeartbeats 8000000 in
set_option maxRecDepth 100000 in
theorem tautochronelaw10_decls.calls (k : Nat) (A0 : Option Addr) (c0 : Nat) (l0 : List Int) (A1 : Option Addr) (c1 : Nat) (l1 : List Bool) (r : List (S28)) (w : World) (hr0 : Kd.C (Kd.int .i8) w A0 l0.length l0) (hc0 : l0.length ≤ c0) (hr1 : Kd.C Kd.bool w A1 l1.length l1) (hc1 : l1.length ≤ c1) (h : tautochronelaw10_decls.f k l0 l1 = some r) :
    Calls Try.prog 13 #[.slice A0 l0.length c0, .slice A1 l1.length c1] w fun e w' => ∃ v0_ : Value, e = .returned (v0_) ∧ Kd.R k28 28 w' w.heap.size (fun _ => True) v0_ r ∧ Below w.heap.size w w' := by
  have hu28 := Try.underlying28
  have HR0 := Aside0.mk hr0
  have HC0 := Aside0.mk hc0
  clear hr0 hc0
  have HR1 := Aside0.mk hr1
  have HC1 := Aside0.mk hc1
  clear hr1 hc1
  have HB := Aside0.mk (Below.refl w.heap.size w)
  have H : (tautochronelaw10_decls.l0 k l1 ([] : List (S28)) l0 (l0.length : Int) 0) = some r := h
  clear h
  have H' := Aside0.mk H
  clear H
  go_enter Try.func13, Try.ntmps13
  go_wp2
  go_loopg [5, 11] k (fun kq v5 v11 w' => ∃ (x5_1 : List (S28)) (x11_1 : Int), v11 = .int .i64 x11_1 ∧ Aside0 (tautochronelaw10_decls.l0 kq l1 x5_1 l0 (l0.length : Int) x11_1 = some r) ∧ Aside0 (kq ≤ k) ∧ Aside0 (Kd.R k28 28 w' w.heap.size (fun _ => True) v5 x5_1) ∧ Aside0 (Below w.heap.size w w'))
  case atStart => exact ⟨(([] : List (S28))), (0), (by first | rfl | (simp; done) | (simp [*]; done)), H', ⟨Nat.le_refl _⟩, ⟨by first | exact Kd.R_nil _ _ _ _ _ | exact Kd.N_nil _ _ _ _ _ | exact Kd.V_nil _ _ _ _ _ | exact Kd.Q_nil _ _ _ _ _ | exact Kd.S_nil _ _ _ _ _⟩, ⟨by repeat (first | (with_reducible first | exact HB.out | apply below_alloc | apply pw_below_drewN | apply below_drew1) | exact HB.out)⟩⟩
  case round =>
    clear H'
    try clear c1
    try clear p2
    obtain ⟨x5_1, x11_1, rfl, HA, HK1, HO_5, HB⟩ := hrel
    cases gk with
    | zero => exact absurd HA.out (by simp [tautochronelaw10_decls.l0])
    | succ k1 =>
      have H := HA.out
      clear HA
      simp only [tautochronelaw10_decls.l0] at H
      by_cases c3 : x11_1 < (l0.length : Int)
      · rw [if_pos c3] at H
        have c3b0 : decide (x11_1 < (l0.length : Int)) = true := decide_eq_true c3
        clear c3
        by_cases c4 : 0 ≤ x11_1
        · rw [if_pos c4] at H
          have c4b0 : decide (0 ≤ x11_1) = true := decide_eq_true c4
          clear c4
          by_cases c5 : x11_1 < (l0.length : Int)
          · rw [if_pos c5] at H
            have c5b0 : decide (x11_1 < (l0.length : Int)) = true := decide_eq_true c5
            clear c5
            by_cases c6 : 1 + (Utf8.encode (wrap32 (wrap64 (97 + (Int.tmod (wrap64 (Int.tdiv x11_1 26)) 26))))).size ≤ 9223372036854775807
            · rw [if_pos c6] at H
              have c6b0 := eq_true c6
              have c6b1 : decide (1 + (Utf8.encode (wrap32 (wrap64 (97 + (Int.tmod (wrap64 (Int.tdiv x11_1 26)) 26))))).size ≤ 9223372036854775807) = true := decide_eq_true c6
              try have c6b2 : (9223372036854775807 < 1 + (Utf8.encode (wrap32 (wrap64 (97 + (Int.tmod (wrap64 (Int.tdiv x11_1 26)) 26))))).size) = False := eq_false (Nat.not_lt.2 c6)
              by_cases c7 : ((⟨#[110]⟩ : ByteArray) ++ (Utf8.encode (wrap32 (wrap64 (97 + (Int.tmod (wrap64 (Int.tdiv x11_1 26)) 26)))))).size + (Utf8.encode (wrap32 (wrap64 (97 + (Int.tmod x11_1 26))))).size ≤ 9223372036854775807
              · rw [if_pos c7] at H
                have c7b0 := eq_true c7
                have c7b1 : decide (((⟨#[110]⟩ : ByteArray) ++ (Utf8.encode (wrap32 (wrap64 (97 + (Int.tmod (wrap64 (Int.tdiv x11_1 26)) 26)))))).size + (Utf8.encode (wrap32 (wrap64 (97 + (Int.tmod x11_1 26))))).size ≤ 9223372036854775807) = true := decide_eq_true c7
                try have c7b2 : (9223372036854775807 < ((⟨#[110]⟩ : ByteArray) ++ (Utf8.encode (wrap32 (wrap64 (97 + (Int.tmod (wrap64 (Int.tdiv x11_1 26)) 26)))))).size + (Utf8.encode (wrap32 (wrap64 (97 + (Int.tmod x11_1 26))))).size) = False := eq_false (Nat.not_lt.2 c7)
                by_cases c8 : x11_1 = 600
                · rw [if_pos c8] at H
                  have c8b0 : (x11_1 == 600) = true := beq_iff_eq.mpr c8
                  have c8b1 : (x11_1 != 600) = false := bne_eq_false_iff_eq.mpr c8
                  clear c8
                  obtain rfl := Option.some.inj H
                  have p101 : 0 ≤ (x11_1 : Int) := of_decide_eq_true (by first | (with_reducible assumption) | assumption)
                  have q101 : x11_1 < (l0.length : Int) := of_decide_eq_true (by first | (with_reducible assumption) | assumption)
                  obtain ⟨ad101, e101, hx101_0⟩ := Kd.at_int HR0.out x11_1 p101 q101
                  cases e101
                  replace hx101_0 := (HB.out.cell (World.block_lt_of_cell? w _ hx101_0)).trans hx101_0
                  replace p101 := eq_true p101
                  replace q101 := eq_true q101
                  go_wp2_with (first | ((with_reducible refine gate_dst (N := 8) rfl ?_); refine box_event ?hg (N := 8) ?hd (cs := #[.bool false, .int .i64 0, .string (⟨#[]⟩ : ByteArray), .int .i64 0, .string (⟨#[]⟩ : ByteArray), .int .i64 0]) (t := 28) ?hr ?_; (case hd => rfl); (case hg => rfl); (case hr => first | (go_simp; done) | (go_simp; rfl)); intro gb102 hg w9 hbox hb; have n0_ := Aside0.mk (Kd.R_below (Kd.R_elderB (by (with_reducible repeat (first | apply Kd.R_alloc | apply Kd.R_drewN | apply Kd.R_drew)); exact HO_5.out) gb102 (Nat.le_of_eq hg.symm)) hb); have n1_ := Aside0.mk (below_step (by repeat (first | (with_reducible first | exact HB.out | apply below_alloc | apply pw_below_drewN | apply below_drew1) | exact HB.out)) hb); have n2_ := Aside0.mk (hbox); have n3_ := Aside0.mk ((by rw [hg]; exact (below_size (by repeat (first | (with_reducible first | exact HB.out | apply below_alloc | apply pw_below_drewN | apply below_drew1) | exact HB.out))) : w.heap.size ≤ gb102)); have n4_ := Aside0.mk ((by rw [hg]; exact (below_size (by repeat (first | (with_reducible first | exact HB.out | apply below_alloc | apply pw_below_drewN | apply below_drew1) | exact HB.out))) : w.heap.size ≤ gb102)); clear HO_5; clear HB; have HO_5 := n0_; have HB := n1_; have BK102 := n2_; have GW102 := n3_; have GE102 := n4_; clear n0_ n1_ n2_ n3_ n4_; clear hb hbox hg; have hcz10_0 : w9.cell? ⟨gb102, 0, none⟩ = some (.bool false) := (blk_cell BK102.out 0).trans rfl; have hcz10_1 : w9.cell? ⟨gb102, 1, none⟩ = some (.int .i64 0) := (blk_cell BK102.out 1).trans rfl; have hcz10_2 : w9.cell? ⟨gb102, 2, none⟩ = some (.string (⟨#[]⟩ : ByteArray)) := (blk_cell BK102.out 2).trans rfl; have hcz10_3 : w9.cell? ⟨gb102, 3, none⟩ = some (.int .i64 0) := (blk_cell BK102.out 3).trans rfl; have hcz10_4 : w9.cell? ⟨gb102, 4, none⟩ = some (.string (⟨#[]⟩ : ByteArray)) := (blk_cell BK102.out 4).trans rfl; have hcz10_5 : w9.cell? ⟨gb102, 5, none⟩ = some (.int .i64 0) := (blk_cell BK102.out 5).trans rfl; have hfz10_0 := blk_frozen BK102.out 0; have hfz10_1 := blk_frozen BK102.out 1; have hfz10_2 := blk_frozen BK102.out 2; have hfz10_3 := blk_frozen BK102.out 3; have hfz10_4 := blk_frozen BK102.out 4; have hfz10_5 := blk_frozen BK102.out 5))
                  go_ret
                  exact ⟨_, by first | rfl | (simp [errW_none, errW_some] <;> rfl) | (simp [*, errW_none, errW_some] <;> rfl), by (with_reducible repeat (first | apply Kd.R_alloc | apply Kd.R_drewN | apply Kd.R_drew)); exact Kd.R_mono (Kd.R_far (p := ⟨gb102, 5, none⟩) (Kd.R_far (p := ⟨gb102, 4, none⟩) (Kd.R_far (p := ⟨gb102, 3, none⟩) (Kd.R_far (p := ⟨gb102, 2, none⟩) (Kd.R_far (p := ⟨gb102, 1, none⟩) (Kd.R_far (p := ⟨gb102, 0, none⟩) (Kd.R_mono HO_5.out (fun k_ hk => (⟨hk, hk.2⟩ : _ ∧ k_ ≠ gb102))) (fun _ hk => hk.2) (.bool false)) (fun _ hk => hk.2) (.int .i64 0)) (fun _ hk => hk.2) (.string (((⟨#[110]⟩ : ByteArray) ++ (Utf8.encode (wrap32 (wrap64 (97 + (Int.tmod (wrap64 (Int.tdiv x11_1 26)) 26)))))) ++ (Utf8.encode (wrap32 (wrap64 (97 + (Int.tmod x11_1 26)))))))) (fun _ hk => hk.2) (.int .i64 (wrap64 (rd l0 x11_1)))) (fun _ hk => hk.2) (.string (⟨#[]⟩ : ByteArray))) (fun _ hk => hk.2) (.int .i64 0)) (fun _ hk => trivial), by repeat (first | (with_reducible first | exact HB.out | apply below_alloc | apply pw_below_drewN | apply below_drew1 | refine below_set ?_ GE102.out) | exact HB.out)⟩
                · rw [if_neg c8] at H
                  have c8b0 : (x11_1 == 600) = false := beq_eq_false_iff_ne.mpr c8
                  have c8b1 : (x11_1 != 600) = true := bne_iff_ne.mpr c8
                  have HC11 := Aside0.mk H
                  clear H
                  have p101 : 0 ≤ (x11_1 : Int) := of_decide_eq_true (by first | (with_reducible assumption) | assumption)
                  have q101 : x11_1 < (l0.length : Int) := of_decide_eq_true (by first | (with_reducible assumption) | assumption)
                  obtain ⟨ad101, e101, hx101_0⟩ := Kd.at_int HR0.out x11_1 p101 q101
                  cases e101
                  replace hx101_0 := (HB.out.cell (World.block_lt_of_cell? w _ hx101_0)).trans hx101_0
                  replace p101 := eq_true p101
                  replace q101 := eq_true q101
                  go_upto_region 7 with (first | ((with_reducible refine gate_dst (N := 8) rfl ?_); refine box_event ?hg (N := 8) ?hd (cs := #[.bool false, .int .i64 0, .string (⟨#[]⟩ : ByteArray), .int .i64 0, .string (⟨#[]⟩ : ByteArray), .int .i64 0]) (t := 28) ?hr ?_; (case hd => rfl); (case hg => rfl); (case hr => first | (go_simp; done) | (go_simp; rfl)); intro gb102 hg w12 hbox hb; have n0_ := Aside0.mk (Kd.R_below (Kd.R_elderB (by (with_reducible repeat (first | apply Kd.R_alloc | apply Kd.R_drewN | apply Kd.R_drew)); exact HO_5.out) gb102 (Nat.le_of_eq hg.symm)) hb); have n1_ := Aside0.mk (below_step (by repeat (first | (with_reducible first | exact HB.out | apply below_alloc | apply pw_below_drewN | apply below_drew1) | exact HB.out)) hb); have n2_ := Aside0.mk (hbox); have n3_ := Aside0.mk ((by rw [hg]; exact (below_size (by repeat (first | (with_reducible first | exact HB.out | apply below_alloc | apply pw_below_drewN | apply below_drew1) | exact HB.out))) : w.heap.size ≤ gb102)); have n4_ := Aside0.mk ((by rw [hg]; exact (below_size (by repeat (first | (with_reducible first | exact HB.out | apply below_alloc | apply pw_below_drewN | apply below_drew1) | exact HB.out))) : w.heap.size ≤ gb102)); clear HO_5; clear HB; have HO_5 := n0_; have HB := n1_; have BK102 := n2_; have GW102 := n3_; have GE102 := n4_; clear n0_ n1_ n2_ n3_ n4_; clear hb hbox hg; have hcz13_0 : w12.cell? ⟨gb102, 0, none⟩ = some (.bool false) := (blk_cell BK102.out 0).trans rfl; have hcz13_1 : w12.cell? ⟨gb102, 1, none⟩ = some (.int .i64 0) := (blk_cell BK102.out 1).trans rfl; have hcz13_2 : w12.cell? ⟨gb102, 2, none⟩ = some (.string (⟨#[]⟩ : ByteArray)) := (blk_cell BK102.out 2).trans rfl; have hcz13_3 : w12.cell? ⟨gb102, 3, none⟩ = some (.int .i64 0) := (blk_cell BK102.out 3).trans rfl; have hcz13_4 : w12.cell? ⟨gb102, 4, none⟩ = some (.string (⟨#[]⟩ : ByteArray)) := (blk_cell BK102.out 4).trans rfl; have hcz13_5 : w12.cell? ⟨gb102, 5, none⟩ = some (.int .i64 0) := (blk_cell BK102.out 5).trans rfl; have hfz13_0 := blk_frozen BK102.out 0; have hfz13_1 := blk_frozen BK102.out 1; have hfz13_2 := blk_frozen BK102.out 2; have hfz13_3 := blk_frozen BK102.out 3; have hfz13_4 := blk_frozen BK102.out 4; have hfz13_5 := blk_frozen BK102.out 5))
                  (try simp only [Act.put, List.setIfInBounds_toArray, List.set_cons_zero, List.set_cons_succ])
                  go_cut [43] (fun v43 wc => ∃ (kq : Nat) (x43_10 : Bool), v43 = .bool x43_10 ∧ Aside0 (tautochronelaw10_decls.j1 kq l1 x5_1 (rd l0 x11_1) l0 (l0.length : Int) x11_1 x43_10 false 0 (((⟨#[110]⟩ : ByteArray) ++ (Utf8.encode (wrap32 (wrap64 (97 + (Int.tmod (wrap64 (Int.tdiv x11_1 26)) 26)))))) ++ (Utf8.encode (wrap32 (wrap64 (97 + (Int.tmod x11_1 26)))))) (wrap64 (rd l0 x11_1)) (⟨#[]⟩ : ByteArray) 0 = some r) ∧ Aside0 (kq ≤ k1) ∧ Aside0 (Kd.R k28 28 wc w.heap.size (fun k_ => k_ ≠ gb102) u5 x5_1) ∧ Aside0 (wc.heap[gb102]? = some (.cells #[.bool false, .int .i64 0, .string (((⟨#[110]⟩ : ByteArray) ++ (Utf8.encode (wrap32 (wrap64 (97 + (Int.tmod (wrap64 (Int.tdiv x11_1 26)) 26)))))) ++ (Utf8.encode (wrap32 (wrap64 (97 + (Int.tmod x11_1 26)))))), .int .i64 (wrap64 (rd l0 x11_1)), .string (⟨#[]⟩ : ByteArray), .int .i64 0] 28 (0, 0))) ∧ Aside0 (Below w.heap.size w wc))
                  case first =>
                    have H := HC11.out
                    clear HC11
                    by_cases c14 : x11_1 < (l1.length : Int)
                    · rw [if_pos c14] at H
                      have c14b0 : decide (x11_1 < (l1.length : Int)) = true := decide_eq_true c14
                      clear c14
                      (first | rw [c14b0] | (simp only [i64_w, i32_w]; rw [c14b0]) | skip)
                      have H' := Aside0.mk H
                      clear H
                      have p103 : 0 ≤ (x11_1 : Int) := of_decide_eq_true (by first | (with_reducible assumption) | assumption)
                      have q103 : x11_1 < (l1.length : Int) := of_decide_eq_true (by first | (with_reducible assumption) | assumption)
                      obtain ⟨ad103, e103, hx103_0⟩ := Kd.at_bool HR1.out x11_1 p103 q103
                      cases e103
                      have hn103_0 : ad103.block ≠ gb102 := Nat.ne_of_lt (Nat.lt_of_lt_of_le (by have := World.block_lt_of_cell? _ _ hx103_0; first | rwa [add_block] at this | exact this) GW102.out)
                      have hn103_1 : ad103.block ≠ gb102 := Nat.ne_of_lt (Nat.lt_of_lt_of_le (by have := World.block_lt_of_cell? _ _ hx103_0; first | rwa [add_block] at this | exact this) GW102.out)
                      have hn103_2 : ad103.block ≠ gb102 := Nat.ne_of_lt (Nat.lt_of_lt_of_le (by have := World.block_lt_of_cell? _ _ hx103_0; first | rwa [add_block] at this | exact this) GW102.out)
                      have hn103_3 : ad103.block ≠ gb102 := Nat.ne_of_lt (Nat.lt_of_lt_of_le (by have := World.block_lt_of_cell? _ _ hx103_0; first | rwa [add_block] at this | exact this) GW102.out)
                      have hn103_4 : ad103.block ≠ gb102 := Nat.ne_of_lt (Nat.lt_of_lt_of_le (by have := World.block_lt_of_cell? _ _ hx103_0; first | rwa [add_block] at this | exact this) GW102.out)
                      have hn103_5 : ad103.block ≠ gb102 := Nat.ne_of_lt (Nat.lt_of_lt_of_le (by have := World.block_lt_of_cell? _ _ hx103_0; first | rwa [add_block] at this | exact this) GW102.out)
                      replace hx103_0 := (HB.out.cell (World.block_lt_of_cell? w _ hx103_0)).trans hx103_0
                      replace hx103_0 := (cell_far (p := ⟨gb102, 0, none⟩) (by first | (rw [add_block]; exact hn103_0) | (show (Addr.add _ _).block ≠ _; rw [add_block]; exact hn103_0) | exact hn103_0) (.bool false)).trans hx103_0
                      replace hx103_0 := (cell_far (p := ⟨gb102, 1, none⟩) (by first | (rw [add_block]; exact hn103_1) | (show (Addr.add _ _).block ≠ _; rw [add_block]; exact hn103_1) | exact hn103_1) (.int .i64 0)).trans hx103_0
                      replace hx103_0 := (cell_far (p := ⟨gb102, 2, none⟩) (by first | (rw [add_block]; exact hn103_2) | (show (Addr.add _ _).block ≠ _; rw [add_block]; exact hn103_2) | exact hn103_2) (.string (((⟨#[110]⟩ : ByteArray) ++ (Utf8.encode (wrap32 (wrap64 (97 + (Int.tmod (wrap64 (Int.tdiv x11_1 26)) 26)))))) ++ (Utf8.encode (wrap32 (wrap64 (97 + (Int.tmod x11_1 26)))))))).trans hx103_0
                      replace hx103_0 := (cell_far (p := ⟨gb102, 3, none⟩) (by first | (rw [add_block]; exact hn103_3) | (show (Addr.add _ _).block ≠ _; rw [add_block]; exact hn103_3) | exact hn103_3) (.int .i64 (wrap64 (rd l0 x11_1)))).trans hx103_0
                      replace hx103_0 := (cell_far (p := ⟨gb102, 4, none⟩) (by first | (rw [add_block]; exact hn103_4) | (show (Addr.add _ _).block ≠ _; rw [add_block]; exact hn103_4) | exact hn103_4) (.string (⟨#[]⟩ : ByteArray))).trans hx103_0
                      replace hx103_0 := (cell_far (p := ⟨gb102, 5, none⟩) (by first | (rw [add_block]; exact hn103_5) | (show (Addr.add _ _).block ≠ _; rw [add_block]; exact hn103_5) | exact hn103_5) (.int .i64 0)).trans hx103_0
                      clear hn103_0
                      clear hn103_1
                      clear hn103_2
                      clear hn103_3
                      clear hn103_4
                      clear hn103_5
                      replace p103 := eq_true p103
                      replace q103 := eq_true q103
                      go_wp2
                      go_meet
                      case rel => exact ⟨_, (rdOf false l1 x11_1), (by first | rfl | (simp; done) | (simp [*]; done)), H', ⟨by have := HK1.out; first | omega | exact Nat.le_refl _⟩, ⟨by (with_reducible repeat (first | apply Kd.R_alloc | apply Kd.R_drewN | apply Kd.R_drew)); exact Kd.R_mono (Kd.R_far (p := ⟨gb102, 5, none⟩) (Kd.R_far (p := ⟨gb102, 4, none⟩) (Kd.R_far (p := ⟨gb102, 3, none⟩) (Kd.R_far (p := ⟨gb102, 2, none⟩) (Kd.R_far (p := ⟨gb102, 1, none⟩) (Kd.R_far (p := ⟨gb102, 0, none⟩) (Kd.R_mono HO_5.out (fun k_ hk => (⟨hk, hk.2⟩ : _ ∧ k_ ≠ gb102))) (fun _ hk => hk.2) (.bool false)) (fun _ hk => hk.2) (.int .i64 0)) (fun _ hk => hk.2) (.string (((⟨#[110]⟩ : ByteArray) ++ (Utf8.encode (wrap32 (wrap64 (97 + (Int.tmod (wrap64 (Int.tdiv x11_1 26)) 26)))))) ++ (Utf8.encode (wrap32 (wrap64 (97 + (Int.tmod x11_1 26)))))))) (fun _ hk => hk.2) (.int .i64 (wrap64 (rd l0 x11_1)))) (fun _ hk => hk.2) (.string (⟨#[]⟩ : ByteArray))) (fun _ hk => hk.2) (.int .i64 0)) (fun _ hk => hk.1.2)⟩, ⟨by (with_reducible repeat (first | refine blk_drewN ?_ _ | refine blk_drew ?_ | refine blk_alloc ?_ _)); refine blk_put (cs := #[.bool false, .int .i64 0, .string (((⟨#[110]⟩ : ByteArray) ++ (Utf8.encode (wrap32 (wrap64 (97 + (Int.tmod (wrap64 (Int.tdiv x11_1 26)) 26)))))) ++ (Utf8.encode (wrap32 (wrap64 (97 + (Int.tmod x11_1 26)))))), .int .i64 (wrap64 (rd l0 x11_1)), .string (⟨#[]⟩ : ByteArray), .int .i64 0]) ?_ 5 _ rfl; (with_reducible repeat (first | refine blk_drewN ?_ _ | refine blk_drew ?_ | refine blk_alloc ?_ _)); refine blk_put (cs := #[.bool false, .int .i64 0, .string (((⟨#[110]⟩ : ByteArray) ++ (Utf8.encode (wrap32 (wrap64 (97 + (Int.tmod (wrap64 (Int.tdiv x11_1 26)) 26)))))) ++ (Utf8.encode (wrap32 (wrap64 (97 + (Int.tmod x11_1 26)))))), .int .i64 (wrap64 (rd l0 x11_1)), .string (⟨#[]⟩ : ByteArray), .int .i64 0]) ?_ 4 _ rfl; (with_reducible repeat (first | refine blk_drewN ?_ _ | refine blk_drew ?_ | refine blk_alloc ?_ _)); refine blk_put (cs := #[.bool false, .int .i64 0, .string (((⟨#[110]⟩ : ByteArray) ++ (Utf8.encode (wrap32 (wrap64 (97 + (Int.tmod (wrap64 (Int.tdiv x11_1 26)) 26)))))) ++ (Utf8.encode (wrap32 (wrap64 (97 + (Int.tmod x11_1 26)))))), .int .i64 0, .string (⟨#[]⟩ : ByteArray), .int .i64 0]) ?_ 3 _ rfl; (with_reducible repeat (first | refine blk_drewN ?_ _ | refine blk_drew ?_ | refine blk_alloc ?_ _)); refine blk_put (cs := #[.bool false, .int .i64 0, .string (⟨#[]⟩ : ByteArray), .int .i64 0, .string (⟨#[]⟩ : ByteArray), .int .i64 0]) ?_ 2 _ rfl; (with_reducible repeat (first | refine blk_drewN ?_ _ | refine blk_drew ?_ | refine blk_alloc ?_ _)); refine blk_put (cs := #[.bool false, .int .i64 0, .string (⟨#[]⟩ : ByteArray), .int .i64 0, .string (⟨#[]⟩ : ByteArray), .int .i64 0]) ?_ 1 _ rfl; (with_reducible repeat (first | refine blk_drewN ?_ _ | refine blk_drew ?_ | refine blk_alloc ?_ _)); refine blk_put (cs := #[.bool false, .int .i64 0, .string (⟨#[]⟩ : ByteArray), .int .i64 0, .string (⟨#[]⟩ : ByteArray), .int .i64 0]) ?_ 0 _ rfl; (with_reducible repeat (first | refine blk_drewN ?_ _ | refine blk_drew ?_ | refine blk_alloc ?_ _)); exact BK102.out⟩, ⟨by repeat (first | (with_reducible first | exact HB.out | apply below_alloc | apply pw_below_drewN | apply below_drew1 | refine below_set ?_ GE102.out) | exact HB.out)⟩⟩
                    · rw [if_neg c14] at H
                      have c14b0 : decide (x11_1 < (l1.length : Int)) = false := decide_eq_false c14
                      clear c14
                      (first | rw [c14b0] | (simp only [i64_w, i32_w]; rw [c14b0]) | skip)
                      have H' := Aside0.mk H
                      clear H
                      go_wp2
                      go_meet
                      case rel => exact ⟨_, (false), (by first | rfl | (simp; done) | (simp [*]; done)), H', ⟨by have := HK1.out; first | omega | exact Nat.le_refl _⟩, ⟨by (with_reducible repeat (first | apply Kd.R_alloc | apply Kd.R_drewN | apply Kd.R_drew)); exact Kd.R_mono (Kd.R_far (p := ⟨gb102, 5, none⟩) (Kd.R_far (p := ⟨gb102, 4, none⟩) (Kd.R_far (p := ⟨gb102, 3, none⟩) (Kd.R_far (p := ⟨gb102, 2, none⟩) (Kd.R_far (p := ⟨gb102, 1, none⟩) (Kd.R_far (p := ⟨gb102, 0, none⟩) (Kd.R_mono HO_5.out (fun k_ hk => (⟨hk, hk.2⟩ : _ ∧ k_ ≠ gb102))) (fun _ hk => hk.2) (.bool false)) (fun _ hk => hk.2) (.int .i64 0)) (fun _ hk => hk.2) (.string (((⟨#[110]⟩ : ByteArray) ++ (Utf8.encode (wrap32 (wrap64 (97 + (Int.tmod (wrap64 (Int.tdiv x11_1 26)) 26)))))) ++ (Utf8.encode (wrap32 (wrap64 (97 + (Int.tmod x11_1 26)))))))) (fun _ hk => hk.2) (.int .i64 (wrap64 (rd l0 x11_1)))) (fun _ hk => hk.2) (.string (⟨#[]⟩ : ByteArray))) (fun _ hk => hk.2) (.int .i64 0)) (fun _ hk => hk.1.2)⟩, ⟨by (with_reducible repeat (first | refine blk_drewN ?_ _ | refine blk_drew ?_ | refine blk_alloc ?_ _)); refine blk_put (cs := #[.bool false, .int .i64 0, .string (((⟨#[110]⟩ : ByteArray) ++ (Utf8.encode (wrap32 (wrap64 (97 + (Int.tmod (wrap64 (Int.tdiv x11_1 26)) 26)))))) ++ (Utf8.encode (wrap32 (wrap64 (97 + (Int.tmod x11_1 26)))))), .int .i64 (wrap64 (rd l0 x11_1)), .string (⟨#[]⟩ : ByteArray), .int .i64 0]) ?_ 5 _ rfl; (with_reducible repeat (first | refine blk_drewN ?_ _ | refine blk_drew ?_ | refine blk_alloc ?_ _)); refine blk_put (cs := #[.bool false, .int .i64 0, .string (((⟨#[110]⟩ : ByteArray) ++ (Utf8.encode (wrap32 (wrap64 (97 + (Int.tmod (wrap64 (Int.tdiv x11_1 26)) 26)))))) ++ (Utf8.encode (wrap32 (wrap64 (97 + (Int.tmod x11_1 26)))))), .int .i64 (wrap64 (rd l0 x11_1)), .string (⟨#[]⟩ : ByteArray), .int .i64 0]) ?_ 4 _ rfl; (with_reducible repeat (first | refine blk_drewN ?_ _ | refine blk_drew ?_ | refine blk_alloc ?_ _)); refine blk_put (cs := #[.bool false, .int .i64 0, .string (((⟨#[110]⟩ : ByteArray) ++ (Utf8.encode (wrap32 (wrap64 (97 + (Int.tmod (wrap64 (Int.tdiv x11_1 26)) 26)))))) ++ (Utf8.encode (wrap32 (wrap64 (97 + (Int.tmod x11_1 26)))))), .int .i64 0, .string (⟨#[]⟩ : ByteArray), .int .i64 0]) ?_ 3 _ rfl; (with_reducible repeat (first | refine blk_drewN ?_ _ | refine blk_drew ?_ | refine blk_alloc ?_ _)); refine blk_put (cs := #[.bool false, .int .i64 0, .string (⟨#[]⟩ : ByteArray), .int .i64 0, .string (⟨#[]⟩ : ByteArray), .int .i64 0]) ?_ 2 _ rfl; (with_reducible repeat (first | refine blk_drewN ?_ _ | refine blk_drew ?_ | refine blk_alloc ?_ _)); refine blk_put (cs := #[.bool false, .int .i64 0, .string (⟨#[]⟩ : ByteArray), .int .i64 0, .string (⟨#[]⟩ : ByteArray), .int .i64 0]) ?_ 1 _ rfl; (with_reducible repeat (first | refine blk_drewN ?_ _ | refine blk_drew ?_ | refine blk_alloc ?_ _)); refine blk_put (cs := #[.bool false, .int .i64 0, .string (⟨#[]⟩ : ByteArray), .int .i64 0, .string (⟨#[]⟩ : ByteArray), .int .i64 0]) ?_ 0 _ rfl; (with_reducible repeat (first | refine blk_drewN ?_ _ | refine blk_drew ?_ | refine blk_alloc ?_ _)); exact BK102.out⟩, ⟨by repeat (first | (with_reducible first | exact HB.out | apply below_alloc | apply pw_below_drewN | apply below_drew1 | refine below_set ?_ GE102.out) | exact HB.out)⟩⟩
                  case rest =>
                    clear HC11
                    try clear c1
                    try clear p1
                    try clear q1
                    try clear hx1
                    try clear p2
                    try clear c3
                    try clear c3b0
                    try clear p3
                    try clear c4
                    try clear c4b0
                    try clear c5
                    try clear c5b0
                    try clear c6
                    try clear c6b0
                    try clear c6b1
                    try clear c6b2
                    try clear p6
                    try clear c7
                    try clear c7b0
                    try clear c7b1
                    try clear c7b2
                    try clear c8
                    try clear c8b0
                    try clear c8b1
                    try clear p10
                    try clear q10
                    try clear hx10
                    try clear c13
                    try clear c14
                    try clear c14b0
                    try clear hcz10_0
                    try clear hcz10_1
                    try clear hcz10_2
                    try clear hcz10_3
                    try clear hcz10_4
                    try clear hcz10_5
                    try clear hcz13_0
                    try clear hcz13_1
                    try clear hcz13_2
                    try clear hcz13_3
                    try clear hcz13_4
                    try clear hcz13_5
                    try clear hfz10_0
                    try clear hfz10_1
                    try clear hfz10_2
                    try clear hfz10_3
                    try clear hfz10_4
                    try clear hfz10_5
                    try clear hfz13_0
                    try clear hfz13_1
                    try clear hfz13_2
                    try clear hfz13_3
                    try clear hfz13_4
                    try clear hfz13_5
                    try clear hx101_0
                    try clear hx103_0
                    try clear p101
                    try clear p103
                    try clear p2
                    try clear q101
                    try clear q103
                    obtain ⟨kq, x43_10, rfl, HA, HJ10, HO_5, BK102, HB⟩ := hcut
                    cases kq with
                    | zero => exact absurd HA.out (by simp [tautochronelaw10_decls.j1])
                    | succ kj10 =>
                      have H := HA.out
                      clear HA
                      simp only [tautochronelaw10_decls.j1] at H
                      by_cases c15 : x43_10 = true
                      · subst c15
                        have H1 : (if (Int.tmod (rd l0 x11_1) 7) = 6 then (if x5_1.length < 2199023255552 then (tautochronelaw10_decls.l0 kj10 l1 (x5_1 ++ [(⟨true, 1, (((⟨#[110]⟩ : ByteArray) ++ (Utf8.encode (wrap32 (wrap64 (97 + (Int.tmod (wrap64 (Int.tdiv x11_1 26)) 26)))))) ++ (Utf8.encode (wrap32 (wrap64 (97 + (Int.tmod x11_1 26)))))), 0, (⟨#[]⟩ : ByteArray), 0⟩ : S28)]) l0 (l0.length : Int) (wrap64 (x11_1 + 1))) else (none)) else (if x5_1.length < 2199023255552 then (tautochronelaw10_decls.l0 kj10 l1 (x5_1 ++ [(⟨false, 1, (((⟨#[110]⟩ : ByteArray) ++ (Utf8.encode (wrap32 (wrap64 (97 + (Int.tmod (wrap64 (Int.tdiv x11_1 26)) 26)))))) ++ (Utf8.encode (wrap32 (wrap64 (97 + (Int.tmod x11_1 26)))))), (wrap64 (rd l0 x11_1)), (⟨#[]⟩ : ByteArray), 0⟩ : S28)]) l0 (l0.length : Int) (wrap64 (x11_1 + 1))) else (none))) = some r := by rw [if_pos rfl] at H; exact H
                        clear H
                        have H := H1
                        clear H1
                        by_cases c16 : (Int.tmod (rd l0 x11_1) 7) = 6
                        · rw [if_pos c16] at H
                          have c16b0 : ((Int.tmod (rd l0 x11_1) 7) == 6) = true := beq_iff_eq.mpr c16
                          have c16b1 : ((Int.tmod (rd l0 x11_1) 7) != 6) = false := bne_eq_false_iff_eq.mpr c16
                          clear c16
                          by_cases c17 : x5_1.length < 2199023255552
                          · rw [if_pos c17] at H
                            have LMc17 := Aside0.mk c17
                            clear c17
                            obtain ⟨y104, hy104⟩ : ∃ y_ : List (S28), y_ = (x5_1 ++ [(⟨true, 1, (((⟨#[110]⟩ : ByteArray) ++ (Utf8.encode (wrap32 (wrap64 (97 + (Int.tmod (wrap64 (Int.tdiv x11_1 26)) 26)))))) ++ (Utf8.encode (wrap32 (wrap64 (97 + (Int.tmod x11_1 26)))))), 0, (⟨#[]⟩ : ByteArray), 0⟩ : S28)]) := ⟨_, rfl⟩
                            replace H : (tautochronelaw10_decls.l0 kj10 l1 y104 l0 (l0.length : Int) (wrap64 (x11_1 + 1))) = some r := by first | (rw [hy104]; with_reducible exact H) | (have H2_ := (Option.bind_some _ _).symm.trans H; rw [hy104]; with_reducible exact H2_) | (have H2_ := (Option.bind_some _ _).symm.trans H; with_reducible exact H2_) | with_reducible exact H | (rw [hy104]; exact H) | exact H
                            have Ny104 := Aside0.mk hy104
                            clear hy104
                            have H' := Aside0.mk H
                            clear H
                            have hcz18_0 : wc.cell? ⟨gb102, 0, none⟩ = some (.bool false) := (blk_cell BK102.out 0).trans rfl
                            have hcz18_1 : wc.cell? ⟨gb102, 1, none⟩ = some (.int .i64 0) := (blk_cell BK102.out 1).trans rfl
                            have hcz18_2 : wc.cell? ⟨gb102, 2, none⟩ = some (.string (((⟨#[110]⟩ : ByteArray) ++ (Utf8.encode (wrap32 (wrap64 (97 + (Int.tmod (wrap64 (Int.tdiv x11_1 26)) 26)))))) ++ (Utf8.encode (wrap32 (wrap64 (97 + (Int.tmod x11_1 26))))))) := (blk_cell BK102.out 2).trans rfl
                            have hcz18_3 : wc.cell? ⟨gb102, 3, none⟩ = some (.int .i64 (wrap64 (rd l0 x11_1))) := (blk_cell BK102.out 3).trans rfl
                            have hcz18_4 : wc.cell? ⟨gb102, 4, none⟩ = some (.string (⟨#[]⟩ : ByteArray)) := (blk_cell BK102.out 4).trans rfl
                            have hcz18_5 : wc.cell? ⟨gb102, 5, none⟩ = some (.int .i64 0) := (blk_cell BK102.out 5).trans rfl
                            have hfz18_0 := blk_frozen BK102.out 0
                            have hfz18_1 := blk_frozen BK102.out 1
                            have hfz18_2 := blk_frozen BK102.out 2
                            have hfz18_3 := blk_frozen BK102.out 3
                            have hfz18_4 := blk_frozen BK102.out 4
                            have hfz18_5 := blk_frozen BK102.out 5
                            go_wp2_with (first | ((with_reducible refine gate_builtin (b := .append) (xs := #[.tmp 52, .tmp 54]) rfl ?_); at_builtin; refine Kd.R_append k28 (w0 := w) w.heap.size rfl (.tmp 52) (.tmp 54) 24 28 (.agg #[(.bool false), (.int .i64 0), (.string ⟨#[]⟩), (.int .i64 0), (.string ⟨#[]⟩), (.int .i64 0)]) 64 rfl Try.underlying24 info28 rfl (by decide) (by omega) u5 x5_1 (⟨true, 1, (((⟨#[110]⟩ : ByteArray) ++ (Utf8.encode (wrap32 (wrap64 (97 + (Int.tmod (wrap64 (Int.tdiv x11_1 26)) 26)))))) ++ (Utf8.encode (wrap32 (wrap64 (97 + (Int.tmod x11_1 26)))))), 0, (⟨#[]⟩ : ByteArray), 0⟩ : S28) [.bool true, .int .i64 1, .string (((⟨#[110]⟩ : ByteArray) ++ (Utf8.encode (wrap32 (wrap64 (97 + (Int.tmod (wrap64 (Int.tdiv x11_1 26)) 26)))))) ++ (Utf8.encode (wrap32 (wrap64 (97 + (Int.tmod x11_1 26)))))), .int .i64 0, .string (⟨#[]⟩ : ByteArray), .int .i64 0] (fun k_ => k_ ≠ gb102) (fun _ => False) rfl (by first | (go_simp; done) | (go_simp; rfl)) ?aP (fun _ hk => hk.elim) ?aF ?aO ?aB ?aS ?aL ?_; (case aP => exact k28_mkM _ _ _ (⟨true, 1, (((⟨#[110]⟩ : ByteArray) ++ (Utf8.encode (wrap32 (wrap64 (97 + (Int.tmod (wrap64 (Int.tdiv x11_1 26)) 26)))))) ++ (Utf8.encode (wrap32 (wrap64 (97 + (Int.tmod x11_1 26)))))), 0, (⟨#[]⟩ : ByteArray), 0⟩ : S28)); (case aB => exact (by repeat (first | (with_reducible first | exact HB.out | apply below_alloc | apply pw_below_drewN | apply below_drew1 | refine below_set ?_ GE102.out) | exact HB.out))); (case aF => exact (fun k_ hk => Kd.freshB (g := gb102) (o := .cells #[.bool true, .int .i64 1, .string (((⟨#[110]⟩ : ByteArray) ++ (Utf8.encode (wrap32 (wrap64 (97 + (Int.tmod (wrap64 (Int.tdiv x11_1 26)) 26)))))) ++ (Utf8.encode (wrap32 (wrap64 (97 + (Int.tmod x11_1 26)))))), .int .i64 0, .string (⟨#[]⟩ : ByteArray), .int .i64 0] 28 (0, 0)) (by (with_reducible repeat (first | refine blk_drewN ?_ _ | refine blk_drew ?_ | refine blk_alloc ?_ _)); refine blk_put (cs := #[.bool true, .int .i64 1, .string (((⟨#[110]⟩ : ByteArray) ++ (Utf8.encode (wrap32 (wrap64 (97 + (Int.tmod (wrap64 (Int.tdiv x11_1 26)) 26)))))) ++ (Utf8.encode (wrap32 (wrap64 (97 + (Int.tmod x11_1 26)))))), .int .i64 (wrap64 (rd l0 x11_1)), .string (⟨#[]⟩ : ByteArray), .int .i64 0]) ?_ 3 _ rfl; (with_reducible repeat (first | refine blk_drewN ?_ _ | refine blk_drew ?_ | refine blk_alloc ?_ _)); refine blk_put (cs := #[.bool false, .int .i64 1, .string (((⟨#[110]⟩ : ByteArray) ++ (Utf8.encode (wrap32 (wrap64 (97 + (Int.tmod (wrap64 (Int.tdiv x11_1 26)) 26)))))) ++ (Utf8.encode (wrap32 (wrap64 (97 + (Int.tmod x11_1 26)))))), .int .i64 (wrap64 (rd l0 x11_1)), .string (⟨#[]⟩ : ByteArray), .int .i64 0]) ?_ 0 _ rfl; (with_reducible repeat (first | refine blk_drewN ?_ _ | refine blk_drew ?_ | refine blk_alloc ?_ _)); refine blk_put (cs := #[.bool false, .int .i64 0, .string (((⟨#[110]⟩ : ByteArray) ++ (Utf8.encode (wrap32 (wrap64 (97 + (Int.tmod (wrap64 (Int.tdiv x11_1 26)) 26)))))) ++ (Utf8.encode (wrap32 (wrap64 (97 + (Int.tmod x11_1 26)))))), .int .i64 (wrap64 (rd l0 x11_1)), .string (⟨#[]⟩ : ByteArray), .int .i64 0]) ?_ 1 _ rfl; (with_reducible repeat (first | refine blk_drewN ?_ _ | refine blk_drew ?_ | refine blk_alloc ?_ _)); exact BK102.out) k_ hk)); (case aO => exact (by (with_reducible repeat (first | apply Kd.R_alloc | apply Kd.R_drewN | apply Kd.R_drew)); exact Kd.R_mono (Kd.R_far (p := ⟨gb102, 3, none⟩) (Kd.R_far (p := ⟨gb102, 0, none⟩) (Kd.R_far (p := ⟨gb102, 1, none⟩) (Kd.R_mono HO_5.out (fun k_ hk => (⟨hk, hk⟩ : _ ∧ k_ ≠ gb102))) (fun _ hk => hk.2) (.int .i64 1)) (fun _ hk => hk.2) (.bool true)) (fun _ hk => hk.2) (.int .i64 0)) (fun _ hk => hk.1))); (case aS => exact (below_size (by repeat (first | (with_reducible first | exact HB.out | apply below_alloc | apply pw_below_drewN | apply below_drew1 | refine below_set ?_ GE102.out) | exact HB.out)))); (case aL => have := LMc17.out; omega); intro v105 w19 ho hb hg hat; rw [← Ny104.out] at ho; have n0_ := Aside0.mk (blk_grown (g := gb102) (o := .cells #[.bool true, .int .i64 1, .string (((⟨#[110]⟩ : ByteArray) ++ (Utf8.encode (wrap32 (wrap64 (97 + (Int.tmod (wrap64 (Int.tdiv x11_1 26)) 26)))))) ++ (Utf8.encode (wrap32 (wrap64 (97 + (Int.tmod x11_1 26)))))), .int .i64 0, .string (⟨#[]⟩ : ByteArray), .int .i64 0] 28 (0, 0)) (by (with_reducible repeat (first | refine blk_drewN ?_ _ | refine blk_drew ?_ | refine blk_alloc ?_ _)); refine blk_put (cs := #[.bool true, .int .i64 1, .string (((⟨#[110]⟩ : ByteArray) ++ (Utf8.encode (wrap32 (wrap64 (97 + (Int.tmod (wrap64 (Int.tdiv x11_1 26)) 26)))))) ++ (Utf8.encode (wrap32 (wrap64 (97 + (Int.tmod x11_1 26)))))), .int .i64 (wrap64 (rd l0 x11_1)), .string (⟨#[]⟩ : ByteArray), .int .i64 0]) ?_ 3 _ rfl; (with_reducible repeat (first | refine blk_drewN ?_ _ | refine blk_drew ?_ | refine blk_alloc ?_ _)); refine blk_put (cs := #[.bool false, .int .i64 1, .string (((⟨#[110]⟩ : ByteArray) ++ (Utf8.encode (wrap32 (wrap64 (97 + (Int.tmod (wrap64 (Int.tdiv x11_1 26)) 26)))))) ++ (Utf8.encode (wrap32 (wrap64 (97 + (Int.tmod x11_1 26)))))), .int .i64 (wrap64 (rd l0 x11_1)), .string (⟨#[]⟩ : ByteArray), .int .i64 0]) ?_ 0 _ rfl; (with_reducible repeat (first | refine blk_drewN ?_ _ | refine blk_drew ?_ | refine blk_alloc ?_ _)); refine blk_put (cs := #[.bool false, .int .i64 0, .string (((⟨#[110]⟩ : ByteArray) ++ (Utf8.encode (wrap32 (wrap64 (97 + (Int.tmod (wrap64 (Int.tdiv x11_1 26)) 26)))))) ++ (Utf8.encode (wrap32 (wrap64 (97 + (Int.tmod x11_1 26)))))), .int .i64 (wrap64 (rd l0 x11_1)), .string (⟨#[]⟩ : ByteArray), .int .i64 0]) ?_ 1 _ rfl; (with_reducible repeat (first | refine blk_drewN ?_ _ | refine blk_drew ?_ | refine blk_alloc ?_ _)); exact BK102.out) hg (Kd.R_away HO_5.out (fun _ hk => hk))); have n1_ := Aside0.mk (hb); have n2_ := Aside0.mk (ho); clear BK102; clear HB; clear HO_5; have BK102 := n0_; have HB := n1_; have HO106 := n2_; clear n0_ n1_ n2_; clear ho hb hg hat))
                            go_roundg kj10
                            case measure => have := HK1.out; have := HJ10.out; omega
                            case rel => exact ⟨(y104), (wrap64 (x11_1 + 1)), (by first | rfl | (simp; done) | (simp [*]; done)), H', ⟨by have := HK1.out; have := HJ10.out; omega⟩, ⟨by (with_reducible repeat (first | apply Kd.R_alloc | apply Kd.R_drewN | apply Kd.R_drew)); exact Kd.R_mono HO106.out (fun _ hk => trivial)⟩, ⟨by repeat (first | (with_reducible first | exact HB.out | apply below_alloc | apply pw_below_drewN | apply below_drew1 | refine below_set ?_ GE102.out) | exact HB.out)⟩⟩
                          · rw [if_neg c17] at H
                            exact absurd H (by simp)
                        · rw [if_neg c16] at H
                          have c16b0 : ((Int.tmod (rd l0 x11_1) 7) == 6) = false := beq_eq_false_iff_ne.mpr c16
                          have c16b1 : ((Int.tmod (rd l0 x11_1) 7) != 6) = true := bne_iff_ne.mpr c16
                          by_cases c20 : x5_1.length < 2199023255552
                          · rw [if_pos c20] at H
                            have LMc20 := Aside0.mk c20
                            clear c20
                            obtain ⟨y107, hy107⟩ : ∃ y_ : List (S28), y_ = (x5_1 ++ [(⟨false, 1, (((⟨#[110]⟩ : ByteArray) ++ (Utf8.encode (wrap32 (wrap64 (97 + (Int.tmod (wrap64 (Int.tdiv x11_1 26)) 26)))))) ++ (Utf8.encode (wrap32 (wrap64 (97 + (Int.tmod x11_1 26)))))), (wrap64 (rd l0 x11_1)), (⟨#[]⟩ : ByteArray), 0⟩ : S28)]) := ⟨_, rfl⟩
                            replace H : (tautochronelaw10_decls.l0 kj10 l1 y107 l0 (l0.length : Int) (wrap64 (x11_1 + 1))) = some r := by first | (rw [hy107]; with_reducible exact H) | (have H2_ := (Option.bind_some _ _).symm.trans H; rw [hy107]; with_reducible exact H2_) | (have H2_ := (Option.bind_some _ _).symm.trans H; with_reducible exact H2_) | with_reducible exact H | (rw [hy107]; exact H) | exact H
                            have Ny107 := Aside0.mk hy107
                            clear hy107
                            have H' := Aside0.mk H
                            clear H
                            have hcz21_0 : wc.cell? ⟨gb102, 0, none⟩ = some (.bool false) := (blk_cell BK102.out 0).trans rfl
                            have hcz21_1 : wc.cell? ⟨gb102, 1, none⟩ = some (.int .i64 0) := (blk_cell BK102.out 1).trans rfl
                            have hcz21_2 : wc.cell? ⟨gb102, 2, none⟩ = some (.string (((⟨#[110]⟩ : ByteArray) ++ (Utf8.encode (wrap32 (wrap64 (97 + (Int.tmod (wrap64 (Int.tdiv x11_1 26)) 26)))))) ++ (Utf8.encode (wrap32 (wrap64 (97 + (Int.tmod x11_1 26))))))) := (blk_cell BK102.out 2).trans rfl
                            have hcz21_3 : wc.cell? ⟨gb102, 3, none⟩ = some (.int .i64 (wrap64 (rd l0 x11_1))) := (blk_cell BK102.out 3).trans rfl
                            have hcz21_4 : wc.cell? ⟨gb102, 4, none⟩ = some (.string (⟨#[]⟩ : ByteArray)) := (blk_cell BK102.out 4).trans rfl
                            have hcz21_5 : wc.cell? ⟨gb102, 5, none⟩ = some (.int .i64 0) := (blk_cell BK102.out 5).trans rfl
                            have hfz21_0 := blk_frozen BK102.out 0
                            have hfz21_1 := blk_frozen BK102.out 1
                            have hfz21_2 := blk_frozen BK102.out 2
                            have hfz21_3 := blk_frozen BK102.out 3
                            have hfz21_4 := blk_frozen BK102.out 4
                            have hfz21_5 := blk_frozen BK102.out 5
                            go_wp2_with (first | ((with_reducible refine gate_builtin (b := .append) (xs := #[.tmp 52, .tmp 54]) rfl ?_); at_builtin; refine Kd.R_append k28 (w0 := w) w.heap.size rfl (.tmp 52) (.tmp 54) 24 28 (.agg #[(.bool false), (.int .i64 0), (.string ⟨#[]⟩), (.int .i64 0), (.string ⟨#[]⟩), (.int .i64 0)]) 64 rfl Try.underlying24 info28 rfl (by decide) (by omega) u5 x5_1 (⟨false, 1, (((⟨#[110]⟩ : ByteArray) ++ (Utf8.encode (wrap32 (wrap64 (97 + (Int.tmod (wrap64 (Int.tdiv x11_1 26)) 26)))))) ++ (Utf8.encode (wrap32 (wrap64 (97 + (Int.tmod x11_1 26)))))), (wrap64 (rd l0 x11_1)), (⟨#[]⟩ : ByteArray), 0⟩ : S28) [.bool false, .int .i64 1, .string (((⟨#[110]⟩ : ByteArray) ++ (Utf8.encode (wrap32 (wrap64 (97 + (Int.tmod (wrap64 (Int.tdiv x11_1 26)) 26)))))) ++ (Utf8.encode (wrap32 (wrap64 (97 + (Int.tmod x11_1 26)))))), .int .i64 (wrap64 (rd l0 x11_1)), .string (⟨#[]⟩ : ByteArray), .int .i64 0] (fun k_ => k_ ≠ gb102) (fun _ => False) rfl (by first | (go_simp; done) | (go_simp; rfl)) ?aP (fun _ hk => hk.elim) ?aF ?aO ?aB ?aS ?aL ?_; (case aP => exact k28_mkM _ _ _ (⟨false, 1, (((⟨#[110]⟩ : ByteArray) ++ (Utf8.encode (wrap32 (wrap64 (97 + (Int.tmod (wrap64 (Int.tdiv x11_1 26)) 26)))))) ++ (Utf8.encode (wrap32 (wrap64 (97 + (Int.tmod x11_1 26)))))), (wrap64 (rd l0 x11_1)), (⟨#[]⟩ : ByteArray), 0⟩ : S28)); (case aB => exact (by repeat (first | (with_reducible first | exact HB.out | apply below_alloc | apply pw_below_drewN | apply below_drew1 | refine below_set ?_ GE102.out) | exact HB.out))); (case aF => exact (fun k_ hk => Kd.freshB (g := gb102) (o := .cells #[.bool false, .int .i64 1, .string (((⟨#[110]⟩ : ByteArray) ++ (Utf8.encode (wrap32 (wrap64 (97 + (Int.tmod (wrap64 (Int.tdiv x11_1 26)) 26)))))) ++ (Utf8.encode (wrap32 (wrap64 (97 + (Int.tmod x11_1 26)))))), .int .i64 (wrap64 (rd l0 x11_1)), .string (⟨#[]⟩ : ByteArray), .int .i64 0] 28 (0, 0)) (by (with_reducible repeat (first | refine blk_drewN ?_ _ | refine blk_drew ?_ | refine blk_alloc ?_ _)); refine blk_put (cs := #[.bool false, .int .i64 1, .string (((⟨#[110]⟩ : ByteArray) ++ (Utf8.encode (wrap32 (wrap64 (97 + (Int.tmod (wrap64 (Int.tdiv x11_1 26)) 26)))))) ++ (Utf8.encode (wrap32 (wrap64 (97 + (Int.tmod x11_1 26)))))), .int .i64 (wrap64 (rd l0 x11_1)), .string (⟨#[]⟩ : ByteArray), .int .i64 0]) ?_ 0 _ rfl; (with_reducible repeat (first | refine blk_drewN ?_ _ | refine blk_drew ?_ | refine blk_alloc ?_ _)); refine blk_put (cs := #[.bool false, .int .i64 0, .string (((⟨#[110]⟩ : ByteArray) ++ (Utf8.encode (wrap32 (wrap64 (97 + (Int.tmod (wrap64 (Int.tdiv x11_1 26)) 26)))))) ++ (Utf8.encode (wrap32 (wrap64 (97 + (Int.tmod x11_1 26)))))), .int .i64 (wrap64 (rd l0 x11_1)), .string (⟨#[]⟩ : ByteArray), .int .i64 0]) ?_ 1 _ rfl; (with_reducible repeat (first | refine blk_drewN ?_ _ | refine blk_drew ?_ | refine blk_alloc ?_ _)); exact BK102.out) k_ hk)); (case aO => exact (by (with_reducible repeat (first | apply Kd.R_alloc | apply Kd.R_drewN | apply Kd.R_drew)); exact Kd.R_mono (Kd.R_far (p := ⟨gb102, 0, none⟩) (Kd.R_far (p := ⟨gb102, 1, none⟩) (Kd.R_mono HO_5.out (fun k_ hk => (⟨hk, hk⟩ : _ ∧ k_ ≠ gb102))) (fun _ hk => hk.2) (.int .i64 1)) (fun _ hk => hk.2) (.bool false)) (fun _ hk => hk.1))); (case aS => exact (below_size (by repeat (first | (with_reducible first | exact HB.out | apply below_alloc | apply pw_below_drewN | apply below_drew1 | refine below_set ?_ GE102.out) | exact HB.out)))); (case aL => have := LMc20.out; omega); intro v108 w22 ho hb hg hat; rw [← Ny107.out] at ho; have n0_ := Aside0.mk (blk_grown (g := gb102) (o := .cells #[.bool false, .int .i64 1, .string (((⟨#[110]⟩ : ByteArray) ++ (Utf8.encode (wrap32 (wrap64 (97 + (Int.tmod (wrap64 (Int.tdiv x11_1 26)) 26)))))) ++ (Utf8.encode (wrap32 (wrap64 (97 + (Int.tmod x11_1 26)))))), .int .i64 (wrap64 (rd l0 x11_1)), .string (⟨#[]⟩ : ByteArray), .int .i64 0] 28 (0, 0)) (by (with_reducible repeat (first | refine blk_drewN ?_ _ | refine blk_drew ?_ | refine blk_alloc ?_ _)); refine blk_put (cs := #[.bool false, .int .i64 1, .string (((⟨#[110]⟩ : ByteArray) ++ (Utf8.encode (wrap32 (wrap64 (97 + (Int.tmod (wrap64 (Int.tdiv x11_1 26)) 26)))))) ++ (Utf8.encode (wrap32 (wrap64 (97 + (Int.tmod x11_1 26)))))), .int .i64 (wrap64 (rd l0 x11_1)), .string (⟨#[]⟩ : ByteArray), .int .i64 0]) ?_ 0 _ rfl; (with_reducible repeat (first | refine blk_drewN ?_ _ | refine blk_drew ?_ | refine blk_alloc ?_ _)); refine blk_put (cs := #[.bool false, .int .i64 0, .string (((⟨#[110]⟩ : ByteArray) ++ (Utf8.encode (wrap32 (wrap64 (97 + (Int.tmod (wrap64 (Int.tdiv x11_1 26)) 26)))))) ++ (Utf8.encode (wrap32 (wrap64 (97 + (Int.tmod x11_1 26)))))), .int .i64 (wrap64 (rd l0 x11_1)), .string (⟨#[]⟩ : ByteArray), .int .i64 0]) ?_ 1 _ rfl; (with_reducible repeat (first | refine blk_drewN ?_ _ | refine blk_drew ?_ | refine blk_alloc ?_ _)); exact BK102.out) hg (Kd.R_away HO_5.out (fun _ hk => hk))); have n1_ := Aside0.mk (hb); have n2_ := Aside0.mk (ho); clear BK102; clear HB; clear HO_5; have BK102 := n0_; have HB := n1_; have HO109 := n2_; clear n0_ n1_ n2_; clear ho hb hg hat))
                            go_roundg kj10
                            case measure => have := HK1.out; have := HJ10.out; omega
                            case rel => exact ⟨(y107), (wrap64 (x11_1 + 1)), (by first | rfl | (simp; done) | (simp [*]; done)), H', ⟨by have := HK1.out; have := HJ10.out; omega⟩, ⟨by (with_reducible repeat (first | apply Kd.R_alloc | apply Kd.R_drewN | apply Kd.R_drew)); exact Kd.R_mono HO109.out (fun _ hk => trivial)⟩, ⟨by repeat (first | (with_reducible first | exact HB.out | apply below_alloc | apply pw_below_drewN | apply below_drew1 | refine below_set ?_ GE102.out) | exact HB.out)⟩⟩
                          · rw [if_neg c20] at H
                            exact absurd H (by simp)
                      · replace c15 := Bool.eq_false_iff.mpr c15
                        subst c15
                        have H1 : (if (Int.tmod (rd l0 x11_1) 7) = 6 then (if x5_1.length < 2199023255552 then (tautochronelaw10_decls.l0 kj10 l1 (x5_1 ++ [(⟨true, 0, (((⟨#[110]⟩ : ByteArray) ++ (Utf8.encode (wrap32 (wrap64 (97 + (Int.tmod (wrap64 (Int.tdiv x11_1 26)) 26)))))) ++ (Utf8.encode (wrap32 (wrap64 (97 + (Int.tmod x11_1 26)))))), 0, (⟨#[]⟩ : ByteArray), 0⟩ : S28)]) l0 (l0.length : Int) (wrap64 (x11_1 + 1))) else (none)) else (if x5_1.length < 2199023255552 then (tautochronelaw10_decls.l0 kj10 l1 (x5_1 ++ [(⟨false, 0, (((⟨#[110]⟩ : ByteArray) ++ (Utf8.encode (wrap32 (wrap64 (97 + (Int.tmod (wrap64 (Int.tdiv x11_1 26)) 26)))))) ++ (Utf8.encode (wrap32 (wrap64 (97 + (Int.tmod x11_1 26)))))), (wrap64 (rd l0 x11_1)), (⟨#[]⟩ : ByteArray), 0⟩ : S28)]) l0 (l0.length : Int) (wrap64 (x11_1 + 1))) else (none))) = some r := by rw [if_neg (show ¬ (false = true) by decide)] at H; exact H
                        clear H
                        have H := H1
                        clear H1
                        by_cases c23 : (Int.tmod (rd l0 x11_1) 7) = 6
                        · rw [if_pos c23] at H
                          have c23b0 : ((Int.tmod (rd l0 x11_1) 7) == 6) = true := beq_iff_eq.mpr c23
                          have c23b1 : ((Int.tmod (rd l0 x11_1) 7) != 6) = false := bne_eq_false_iff_eq.mpr c23
                          clear c23
                          by_cases c24 : x5_1.length < 2199023255552
                          · rw [if_pos c24] at H
                            have LMc24 := Aside0.mk c24
                            clear c24
                            obtain ⟨y110, hy110⟩ : ∃ y_ : List (S28), y_ = (x5_1 ++ [(⟨true, 0, (((⟨#[110]⟩ : ByteArray) ++ (Utf8.encode (wrap32 (wrap64 (97 + (Int.tmod (wrap64 (Int.tdiv x11_1 26)) 26)))))) ++ (Utf8.encode (wrap32 (wrap64 (97 + (Int.tmod x11_1 26)))))), 0, (⟨#[]⟩ : ByteArray), 0⟩ : S28)]) := ⟨_, rfl⟩
                            replace H : (tautochronelaw10_decls.l0 kj10 l1 y110 l0 (l0.length : Int) (wrap64 (x11_1 + 1))) = some r := by first | (rw [hy110]; with_reducible exact H) | (have H2_ := (Option.bind_some _ _).symm.trans H; rw [hy110]; with_reducible exact H2_) | (have H2_ := (Option.bind_some _ _).symm.trans H; with_reducible exact H2_) | with_reducible exact H | (rw [hy110]; exact H) | exact H
                            have Ny110 := Aside0.mk hy110
                            clear hy110
                            have H' := Aside0.mk H
                            clear H
                            have hcz25_0 : wc.cell? ⟨gb102, 0, none⟩ = some (.bool false) := (blk_cell BK102.out 0).trans rfl
                            have hcz25_1 : wc.cell? ⟨gb102, 1, none⟩ = some (.int .i64 0) := (blk_cell BK102.out 1).trans rfl
                            have hcz25_2 : wc.cell? ⟨gb102, 2, none⟩ = some (.string (((⟨#[110]⟩ : ByteArray) ++ (Utf8.encode (wrap32 (wrap64 (97 + (Int.tmod (wrap64 (Int.tdiv x11_1 26)) 26)))))) ++ (Utf8.encode (wrap32 (wrap64 (97 + (Int.tmod x11_1 26))))))) := (blk_cell BK102.out 2).trans rfl
                            have hcz25_3 : wc.cell? ⟨gb102, 3, none⟩ = some (.int .i64 (wrap64 (rd l0 x11_1))) := (blk_cell BK102.out 3).trans rfl
                            have hcz25_4 : wc.cell? ⟨gb102, 4, none⟩ = some (.string (⟨#[]⟩ : ByteArray)) := (blk_cell BK102.out 4).trans rfl
                            have hcz25_5 : wc.cell? ⟨gb102, 5, none⟩ = some (.int .i64 0) := (blk_cell BK102.out 5).trans rfl
                            have hfz25_0 := blk_frozen BK102.out 0
                            have hfz25_1 := blk_frozen BK102.out 1
                            have hfz25_2 := blk_frozen BK102.out 2
                            have hfz25_3 := blk_frozen BK102.out 3
                            have hfz25_4 := blk_frozen BK102.out 4
                            have hfz25_5 := blk_frozen BK102.out 5
                            go_wp2_with (first | ((with_reducible refine gate_builtin (b := .append) (xs := #[.tmp 52, .tmp 54]) rfl ?_); at_builtin; refine Kd.R_append k28 (w0 := w) w.heap.size rfl (.tmp 52) (.tmp 54) 24 28 (.agg #[(.bool false), (.int .i64 0), (.string ⟨#[]⟩), (.int .i64 0), (.string ⟨#[]⟩), (.int .i64 0)]) 64 rfl Try.underlying24 info28 rfl (by decide) (by omega) u5 x5_1 (⟨true, 0, (((⟨#[110]⟩ : ByteArray) ++ (Utf8.encode (wrap32 (wrap64 (97 + (Int.tmod (wrap64 (Int.tdiv x11_1 26)) 26)))))) ++ (Utf8.encode (wrap32 (wrap64 (97 + (Int.tmod x11_1 26)))))), 0, (⟨#[]⟩ : ByteArray), 0⟩ : S28) [.bool true, .int .i64 0, .string (((⟨#[110]⟩ : ByteArray) ++ (Utf8.encode (wrap32 (wrap64 (97 + (Int.tmod (wrap64 (Int.tdiv x11_1 26)) 26)))))) ++ (Utf8.encode (wrap32 (wrap64 (97 + (Int.tmod x11_1 26)))))), .int .i64 0, .string (⟨#[]⟩ : ByteArray), .int .i64 0] (fun k_ => k_ ≠ gb102) (fun _ => False) rfl (by first | (go_simp; done) | (go_simp; rfl)) ?aP (fun _ hk => hk.elim) ?aF ?aO ?aB ?aS ?aL ?_; (case aP => exact k28_mkM _ _ _ (⟨true, 0, (((⟨#[110]⟩ : ByteArray) ++ (Utf8.encode (wrap32 (wrap64 (97 + (Int.tmod (wrap64 (Int.tdiv x11_1 26)) 26)))))) ++ (Utf8.encode (wrap32 (wrap64 (97 + (Int.tmod x11_1 26)))))), 0, (⟨#[]⟩ : ByteArray), 0⟩ : S28)); (case aB => exact (by repeat (first | (with_reducible first | exact HB.out | apply below_alloc | apply pw_below_drewN | apply below_drew1 | refine below_set ?_ GE102.out) | exact HB.out))); (case aF => exact (fun k_ hk => Kd.freshB (g := gb102) (o := .cells #[.bool true, .int .i64 0, .string (((⟨#[110]⟩ : ByteArray) ++ (Utf8.encode (wrap32 (wrap64 (97 + (Int.tmod (wrap64 (Int.tdiv x11_1 26)) 26)))))) ++ (Utf8.encode (wrap32 (wrap64 (97 + (Int.tmod x11_1 26)))))), .int .i64 0, .string (⟨#[]⟩ : ByteArray), .int .i64 0] 28 (0, 0)) (by (with_reducible repeat (first | refine blk_drewN ?_ _ | refine blk_drew ?_ | refine blk_alloc ?_ _)); refine blk_put (cs := #[.bool true, .int .i64 0, .string (((⟨#[110]⟩ : ByteArray) ++ (Utf8.encode (wrap32 (wrap64 (97 + (Int.tmod (wrap64 (Int.tdiv x11_1 26)) 26)))))) ++ (Utf8.encode (wrap32 (wrap64 (97 + (Int.tmod x11_1 26)))))), .int .i64 (wrap64 (rd l0 x11_1)), .string (⟨#[]⟩ : ByteArray), .int .i64 0]) ?_ 3 _ rfl; (with_reducible repeat (first | refine blk_drewN ?_ _ | refine blk_drew ?_ | refine blk_alloc ?_ _)); refine blk_put (cs := #[.bool false, .int .i64 0, .string (((⟨#[110]⟩ : ByteArray) ++ (Utf8.encode (wrap32 (wrap64 (97 + (Int.tmod (wrap64 (Int.tdiv x11_1 26)) 26)))))) ++ (Utf8.encode (wrap32 (wrap64 (97 + (Int.tmod x11_1 26)))))), .int .i64 (wrap64 (rd l0 x11_1)), .string (⟨#[]⟩ : ByteArray), .int .i64 0]) ?_ 0 _ rfl; (with_reducible repeat (first | refine blk_drewN ?_ _ | refine blk_drew ?_ | refine blk_alloc ?_ _)); exact BK102.out) k_ hk)); (case aO => exact (by (with_reducible repeat (first | apply Kd.R_alloc | apply Kd.R_drewN | apply Kd.R_drew)); exact Kd.R_mono (Kd.R_far (p := ⟨gb102, 3, none⟩) (Kd.R_far (p := ⟨gb102, 0, none⟩) (Kd.R_mono HO_5.out (fun k_ hk => (⟨hk, hk⟩ : _ ∧ k_ ≠ gb102))) (fun _ hk => hk.2) (.bool true)) (fun _ hk => hk.2) (.int .i64 0)) (fun _ hk => hk.1))); (case aS => exact (below_size (by repeat (first | (with_reducible first | exact HB.out | apply below_alloc | apply pw_below_drewN | apply below_drew1 | refine below_set ?_ GE102.out) | exact HB.out)))); (case aL => have := LMc24.out; omega); intro v111 w26 ho hb hg hat; rw [← Ny110.out] at ho; have n0_ := Aside0.mk (blk_grown (g := gb102) (o := .cells #[.bool true, .int .i64 0, .string (((⟨#[110]⟩ : ByteArray) ++ (Utf8.encode (wrap32 (wrap64 (97 + (Int.tmod (wrap64 (Int.tdiv x11_1 26)) 26)))))) ++ (Utf8.encode (wrap32 (wrap64 (97 + (Int.tmod x11_1 26)))))), .int .i64 0, .string (⟨#[]⟩ : ByteArray), .int .i64 0] 28 (0, 0)) (by (with_reducible repeat (first | refine blk_drewN ?_ _ | refine blk_drew ?_ | refine blk_alloc ?_ _)); refine blk_put (cs := #[.bool true, .int .i64 0, .string (((⟨#[110]⟩ : ByteArray) ++ (Utf8.encode (wrap32 (wrap64 (97 + (Int.tmod (wrap64 (Int.tdiv x11_1 26)) 26)))))) ++ (Utf8.encode (wrap32 (wrap64 (97 + (Int.tmod x11_1 26)))))), .int .i64 (wrap64 (rd l0 x11_1)), .string (⟨#[]⟩ : ByteArray), .int .i64 0]) ?_ 3 _ rfl; (with_reducible repeat (first | refine blk_drewN ?_ _ | refine blk_drew ?_ | refine blk_alloc ?_ _)); refine blk_put (cs := #[.bool false, .int .i64 0, .string (((⟨#[110]⟩ : ByteArray) ++ (Utf8.encode (wrap32 (wrap64 (97 + (Int.tmod (wrap64 (Int.tdiv x11_1 26)) 26)))))) ++ (Utf8.encode (wrap32 (wrap64 (97 + (Int.tmod x11_1 26)))))), .int .i64 (wrap64 (rd l0 x11_1)), .string (⟨#[]⟩ : ByteArray), .int .i64 0]) ?_ 0 _ rfl; (with_reducible repeat (first | refine blk_drewN ?_ _ | refine blk_drew ?_ | refine blk_alloc ?_ _)); exact BK102.out) hg (Kd.R_away HO_5.out (fun _ hk => hk))); have n1_ := Aside0.mk (hb); have n2_ := Aside0.mk (ho); clear BK102; clear HB; clear HO_5; have BK102 := n0_; have HB := n1_; have HO112 := n2_; clear n0_ n1_ n2_; clear ho hb hg hat))
                            go_roundg kj10
                            case measure => have := HK1.out; have := HJ10.out; omega
                            case rel => exact ⟨(y110), (wrap64 (x11_1 + 1)), (by first | rfl | (simp; done) | (simp [*]; done)), H', ⟨by have := HK1.out; have := HJ10.out; omega⟩, ⟨by (with_reducible repeat (first | apply Kd.R_alloc | apply Kd.R_drewN | apply Kd.R_drew)); exact Kd.R_mono HO112.out (fun _ hk => trivial)⟩, ⟨by repeat (first | (with_reducible first | exact HB.out | apply below_alloc | apply pw_below_drewN | apply below_drew1 | refine below_set ?_ GE102.out) | exact HB.out)⟩⟩
                          · rw [if_neg c24] at H
                            exact absurd H (by simp)
                        · rw [if_neg c23] at H
                          have c23b0 : ((Int.tmod (rd l0 x11_1) 7) == 6) = false := beq_eq_false_iff_ne.mpr c23
                          have c23b1 : ((Int.tmod (rd l0 x11_1) 7) != 6) = true := bne_iff_ne.mpr c23
                          by_cases c27 : x5_1.length < 2199023255552
                          · rw [if_pos c27] at H
                            have LMc27 := Aside0.mk c27
                            clear c27
                            obtain ⟨y113, hy113⟩ : ∃ y_ : List (S28), y_ = (x5_1 ++ [(⟨false, 0, (((⟨#[110]⟩ : ByteArray) ++ (Utf8.encode (wrap32 (wrap64 (97 + (Int.tmod (wrap64 (Int.tdiv x11_1 26)) 26)))))) ++ (Utf8.encode (wrap32 (wrap64 (97 + (Int.tmod x11_1 26)))))), (wrap64 (rd l0 x11_1)), (⟨#[]⟩ : ByteArray), 0⟩ : S28)]) := ⟨_, rfl⟩
                            replace H : (tautochronelaw10_decls.l0 kj10 l1 y113 l0 (l0.length : Int) (wrap64 (x11_1 + 1))) = some r := by first | (rw [hy113]; with_reducible exact H) | (have H2_ := (Option.bind_some _ _).symm.trans H; rw [hy113]; with_reducible exact H2_) | (have H2_ := (Option.bind_some _ _).symm.trans H; with_reducible exact H2_) | with_reducible exact H | (rw [hy113]; exact H) | exact H
                            have Ny113 := Aside0.mk hy113
                            clear hy113
                            have H' := Aside0.mk H
                            clear H
                            have hcz28_0 : wc.cell? ⟨gb102, 0, none⟩ = some (.bool false) := (blk_cell BK102.out 0).trans rfl
                            have hcz28_1 : wc.cell? ⟨gb102, 1, none⟩ = some (.int .i64 0) := (blk_cell BK102.out 1).trans rfl
                            have hcz28_2 : wc.cell? ⟨gb102, 2, none⟩ = some (.string (((⟨#[110]⟩ : ByteArray) ++ (Utf8.encode (wrap32 (wrap64 (97 + (Int.tmod (wrap64 (Int.tdiv x11_1 26)) 26)))))) ++ (Utf8.encode (wrap32 (wrap64 (97 + (Int.tmod x11_1 26))))))) := (blk_cell BK102.out 2).trans rfl
                            have hcz28_3 : wc.cell? ⟨gb102, 3, none⟩ = some (.int .i64 (wrap64 (rd l0 x11_1))) := (blk_cell BK102.out 3).trans rfl
                            have hcz28_4 : wc.cell? ⟨gb102, 4, none⟩ = some (.string (⟨#[]⟩ : ByteArray)) := (blk_cell BK102.out 4).trans rfl
                            have hcz28_5 : wc.cell? ⟨gb102, 5, none⟩ = some (.int .i64 0) := (blk_cell BK102.out 5).trans rfl
                            have hfz28_0 := blk_frozen BK102.out 0
                            have hfz28_1 := blk_frozen BK102.out 1
                            have hfz28_2 := blk_frozen BK102.out 2
                            have hfz28_3 := blk_frozen BK102.out 3
                            have hfz28_4 := blk_frozen BK102.out 4
                            have hfz28_5 := blk_frozen BK102.out 5
                            go_wp2_with (first | ((with_reducible refine gate_builtin (b := .append) (xs := #[.tmp 52, .tmp 54]) rfl ?_); at_builtin; refine Kd.R_append k28 (w0 := w) w.heap.size rfl (.tmp 52) (.tmp 54) 24 28 (.agg #[(.bool false), (.int .i64 0), (.string ⟨#[]⟩), (.int .i64 0), (.string ⟨#[]⟩), (.int .i64 0)]) 64 rfl Try.underlying24 info28 rfl (by decide) (by omega) u5 x5_1 (⟨false, 0, (((⟨#[110]⟩ : ByteArray) ++ (Utf8.encode (wrap32 (wrap64 (97 + (Int.tmod (wrap64 (Int.tdiv x11_1 26)) 26)))))) ++ (Utf8.encode (wrap32 (wrap64 (97 + (Int.tmod x11_1 26)))))), (wrap64 (rd l0 x11_1)), (⟨#[]⟩ : ByteArray), 0⟩ : S28) [.bool false, .int .i64 0, .string (((⟨#[110]⟩ : ByteArray) ++ (Utf8.encode (wrap32 (wrap64 (97 + (Int.tmod (wrap64 (Int.tdiv x11_1 26)) 26)))))) ++ (Utf8.encode (wrap32 (wrap64 (97 + (Int.tmod x11_1 26)))))), .int .i64 (wrap64 (rd l0 x11_1)), .string (⟨#[]⟩ : ByteArray), .int .i64 0] (fun k_ => k_ ≠ gb102) (fun _ => False) rfl (by first | (go_simp; done) | (go_simp; rfl)) ?aP (fun _ hk => hk.elim) ?aF ?aO ?aB ?aS ?aL ?_; (case aP => exact k28_mkM _ _ _ (⟨false, 0, (((⟨#[110]⟩ : ByteArray) ++ (Utf8.encode (wrap32 (wrap64 (97 + (Int.tmod (wrap64 (Int.tdiv x11_1 26)) 26)))))) ++ (Utf8.encode (wrap32 (wrap64 (97 + (Int.tmod x11_1 26)))))), (wrap64 (rd l0 x11_1)), (⟨#[]⟩ : ByteArray), 0⟩ : S28)); (case aB => exact (by repeat (first | (with_reducible first | exact HB.out | apply below_alloc | apply pw_below_drewN | apply below_drew1 | refine below_set ?_ GE102.out) | exact HB.out))); (case aF => exact (fun k_ hk => Kd.freshB (g := gb102) (o := .cells #[.bool false, .int .i64 0, .string (((⟨#[110]⟩ : ByteArray) ++ (Utf8.encode (wrap32 (wrap64 (97 + (Int.tmod (wrap64 (Int.tdiv x11_1 26)) 26)))))) ++ (Utf8.encode (wrap32 (wrap64 (97 + (Int.tmod x11_1 26)))))), .int .i64 (wrap64 (rd l0 x11_1)), .string (⟨#[]⟩ : ByteArray), .int .i64 0] 28 (0, 0)) (by (with_reducible repeat (first | refine blk_drewN ?_ _ | refine blk_drew ?_ | refine blk_alloc ?_ _)); refine blk_put (cs := #[.bool false, .int .i64 0, .string (((⟨#[110]⟩ : ByteArray) ++ (Utf8.encode (wrap32 (wrap64 (97 + (Int.tmod (wrap64 (Int.tdiv x11_1 26)) 26)))))) ++ (Utf8.encode (wrap32 (wrap64 (97 + (Int.tmod x11_1 26)))))), .int .i64 (wrap64 (rd l0 x11_1)), .string (⟨#[]⟩ : ByteArray), .int .i64 0]) ?_ 0 _ rfl; (with_reducible repeat (first | refine blk_drewN ?_ _ | refine blk_drew ?_ | refine blk_alloc ?_ _)); exact BK102.out) k_ hk)); (case aO => exact (by (with_reducible repeat (first | apply Kd.R_alloc | apply Kd.R_drewN | apply Kd.R_drew)); exact Kd.R_mono (Kd.R_far (p := ⟨gb102, 0, none⟩) (Kd.R_mono HO_5.out (fun k_ hk => (⟨hk, hk⟩ : _ ∧ k_ ≠ gb102))) (fun _ hk => hk.2) (.bool false)) (fun _ hk => hk.1))); (case aS => exact (below_size (by repeat (first | (with_reducible first | exact HB.out | apply below_alloc | apply pw_below_drewN | apply below_drew1 | refine below_set ?_ GE102.out) | exact HB.out)))); (case aL => have := LMc27.out; omega); intro v114 w29 ho hb hg hat; rw [← Ny113.out] at ho; have n0_ := Aside0.mk (blk_grown (g := gb102) (o := .cells #[.bool false, .int .i64 0, .string (((⟨#[110]⟩ : ByteArray) ++ (Utf8.encode (wrap32 (wrap64 (97 + (Int.tmod (wrap64 (Int.tdiv x11_1 26)) 26)))))) ++ (Utf8.encode (wrap32 (wrap64 (97 + (Int.tmod x11_1 26)))))), .int .i64 (wrap64 (rd l0 x11_1)), .string (⟨#[]⟩ : ByteArray), .int .i64 0] 28 (0, 0)) (by (with_reducible repeat (first | refine blk_drewN ?_ _ | refine blk_drew ?_ | refine blk_alloc ?_ _)); refine blk_put (cs := #[.bool false, .int .i64 0, .string (((⟨#[110]⟩ : ByteArray) ++ (Utf8.encode (wrap32 (wrap64 (97 + (Int.tmod (wrap64 (Int.tdiv x11_1 26)) 26)))))) ++ (Utf8.encode (wrap32 (wrap64 (97 + (Int.tmod x11_1 26)))))), .int .i64 (wrap64 (rd l0 x11_1)), .string (⟨#[]⟩ : ByteArray), .int .i64 0]) ?_ 0 _ rfl; (with_reducible repeat (first | refine blk_drewN ?_ _ | refine blk_drew ?_ | refine blk_alloc ?_ _)); exact BK102.out) hg (Kd.R_away HO_5.out (fun _ hk => hk))); have n1_ := Aside0.mk (hb); have n2_ := Aside0.mk (ho); clear BK102; clear HB; clear HO_5; have BK102 := n0_; have HB := n1_; have HO115 := n2_; clear n0_ n1_ n2_; clear ho hb hg hat))
                            go_roundg kj10
                            case measure => have := HK1.out; have := HJ10.out; omega
                            case rel => exact ⟨(y113), (wrap64 (x11_1 + 1)), (by first | rfl | (simp; done) | (simp [*]; done)), H', ⟨by have := HK1.out; have := HJ10.out; omega⟩, ⟨by (with_reducible repeat (first | apply Kd.R_alloc | apply Kd.R_drewN | apply Kd.R_drew)); exact Kd.R_mono HO115.out (fun _ hk => trivial)⟩, ⟨by repeat (first | (with_reducible first | exact HB.out | apply below_alloc | apply pw_below_drewN | apply below_drew1 | refine below_set ?_ GE102.out) | exact HB.out)⟩⟩
                          · rw [if_neg c27] at H
                            exact absurd H (by simp)
              · rw [if_neg c7] at H
                exact absurd H (by simp)
            · rw [if_neg c6] at H
              exact absurd H (by simp)
          · rw [if_neg c5] at H
            exact absurd H (by simp)
        · rw [if_neg c4] at H
          exact absurd H (by simp)
      · rw [if_neg c3] at H
        have c3b0 : decide (x11_1 < (l0.length : Int)) = false := decide_eq_false c3
        clear c3
        obtain rfl := Option.some.inj H
        go_wp2
        go_ret
        exact ⟨_, by first | rfl | (simp [errW_none, errW_some] <;> rfl) | (simp [*, errW_none, errW_some] <;> rfl), by (with_reducible repeat (first | apply Kd.R_alloc | apply Kd.R_drewN | apply Kd.R_drew)); exact HO_5.out, by repeat (first | (with_reducible first | exact HB.out | apply below_alloc | apply pw_below_drewN | apply below_drew1) | exact HB.out)⟩

end Go.Proofs.Ythboknkpgbfmoaa.PQ
