-- Written by a program of this session (wip/tools/extprint.py, pr.sh).
import Derived.Test.YtepgpapljoelhaaDoorPEx0
import Derived.Test.YtepgpapljoelhaaDoorPEx5
namespace Go.Proofs.YtepgpapljoelhaaDoor.PE
open Go.RowKit Go.Proofs.YtepgpapljoelhaaDoorW.PrintWords Go.Proofs.YtepgpapljoelhaaDoorW.PrintLast Go.Proofs.YtepgpapljoelhaaDoorW.PrintMore
theorem setCell_drewN_ (w : World) (n : Nat) (a : Addr) (v : Value) : (w.drewN n).setCell a v = (w.setCell a v).drewN n := rfl
attribute [local go_sem] setCell_drewN_
attribute [local go_sem] max2_int min2_int max_two min_two max_three min_three max_four min_four   -- for this text's walks alone
set_option linter.unusedVariables false
set_option linter.unusedSimpArgs false

/-! ### tautochronelaw13_Small: function 23 -/
def tautochronelaw13_Small.l0 : Nat → List (S37) → Int → List (S37) → Int → Int → Option ((List (S37)))
 | 0, _, _, _, _, _ => none
 | k + 1, x3, x4, x12, x13, x14 => if x14 < x13 then (if 0 ≤ x14 then (if x14 < (x12.length : Int) then ((tautochronelaw13_rest.f ((rd_T37 x12 x14).f0) 14).bind fun t155 => ((tautochronelaw13_rest.f ((rd_T37 x12 x14).f1) 10).bind fun t156 => ((tautochronelaw13_rest.f ((rd_T37 x12 x14).f2) 8).bind fun t157 => ((tautochronelaw13_rest.f ((rd_T37 x12 x14).f3) 8).bind fun t158 => ((tautochronelaw13_rest.f ((rd_T37 x12 x14).f4) 8).bind fun t159 => ((tautochronelaw13_rest.f ((rd_T37 x12 x14).f5) 8).bind fun t160 => (if (Int.tmod ((rd_T37 x12 x14).f6) 3) = 0 then (if t155 = 4 then ((tautochronelaw13_rest.f ((rd_T37 x12 x14).f7) (wrap64 (x4 + 1))).bind fun t161 => (if x3.length < 2199023255552 then (tautochronelaw13_Small.l0 k (x3 ++ [(⟨t155, t156, t157, (-1), t159, t160, Int.tmod ((rd_T37 x12 x14).f6) 8, t161⟩ : S37)]) x4 x12 x13 (wrap64 (x14 + 1))) else (none))) else (if t155 = 5 then ((tautochronelaw13_rest.f ((rd_T37 x12 x14).f7) (wrap64 (x4 + 1))).bind fun t165 => (if x3.length < 2199023255552 then (tautochronelaw13_Small.l0 k (x3 ++ [(⟨t155, t156, t157, (-1), t159, t160, Int.tmod ((rd_T37 x12 x14).f6) 8, t165⟩ : S37)]) x4 x12 x13 (wrap64 (x14 + 1))) else (none))) else ((tautochronelaw13_rest.f ((rd_T37 x12 x14).f7) (wrap64 (x4 + 1))).bind fun t169 => (if x3.length < 2199023255552 then (tautochronelaw13_Small.l0 k (x3 ++ [(⟨t155, t156, t157, t158, t159, t160, Int.tmod ((rd_T37 x12 x14).f6) 8, t169⟩ : S37)]) x4 x12 x13 (wrap64 (x14 + 1))) else (none))))) else ((tautochronelaw13_rest.f ((rd_T37 x12 x14).f7) (wrap64 (x4 + 1))).bind fun t173 => (if x3.length < 2199023255552 then (tautochronelaw13_Small.l0 k (x3 ++ [(⟨t155, t156, t157, t158, t159, t160, Int.tmod ((rd_T37 x12 x14).f6) 8, t173⟩ : S37)]) x4 x12 x13 (wrap64 (x14 + 1))) else (none)))))))))) else (none)) else (none)) else (if x3.length < 2199023255552 then (some (x3 ++ [(⟨13, 0, 0, 0, 0, 0, 0, 0⟩ : S37)])) else (none))
def tautochronelaw13_Small.f (k : Nat) (l0 : List (S37)) : Option ((List (S37))) := if 0 ≤ (mn (l0.length : Int) 30) then (if (mn (l0.length : Int) 30) ≤ (l0.length : Int) then ((some (l0.take ((mn (l0.length : Int) 30) : Int).toNat : List (S37))).bind fun y146 => (tautochronelaw13_Small.l0 k ([] : List (S37)) (mn (l0.length : Int) 30) y146 (y146.length : Int) 0)) else (none)) else (none)
theorem tautochronelaw13_Small.mono_l : ∀ k, (∀ y0 y1 y2 y3 y4, LeO (tautochronelaw13_Small.l0 k y0 y1 y2 y3 y4) (tautochronelaw13_Small.l0 (k + 1) y0 y1 y2 y3 y4))
 | 0 => fun _ _ _ _ _ r h => by simp [tautochronelaw13_Small.l0] at h
 | k + 1 => by
  have ih0 := tautochronelaw13_Small.mono_l k
  ·intro y0 y1 y2 y3 y4
   unfold tautochronelaw13_Small.l0
   repeat' first
   | (with_reducible exact ih0 _ _ _ _ _)
   | (with_reducible exact LeO.refl _)
   | (with_reducible exact LeO.none _)
   | (with_reducible refine LeO.ite ?_ ?_)
   | (with_reducible refine LeO.bind ?_ (fun _ => ?_))
   | exact ih0 _ _ _ _ _
   | exact LeO.none _
   | refine LeO.ite ?_ ?_
   | refine LeO.bind ?_ (fun _ => ?_)
theorem tautochronelaw13_Small.mono : ∀ a0 k, LeO (tautochronelaw13_Small.f k a0) (tautochronelaw13_Small.f (k + 1) a0) := by
 intro a0 k
 have ih0 := tautochronelaw13_Small.mono_l k
 unfold tautochronelaw13_Small.f
 repeat' first
   | (with_reducible exact ih0 _ _ _ _ _)
   | (with_reducible exact LeO.refl _)
   | (with_reducible exact LeO.none _)
   | (with_reducible refine LeO.ite ?_ ?_)
   | (with_reducible refine LeO.bind ?_ (fun _ => ?_))
   | exact ih0 _ _ _ _ _
   | exact LeO.none _
   | refine LeO.ite ?_ ?_
   | refine LeO.bind ?_ (fun _ => ?_)
def tautochronelaw13_Small.T8 : Bool × List (List Nat × List Nat) := (true, [([], []), ([0], [0]), ([1], [1]), ([], []), ([3], [3]), ([4, 2], [4]), ([], []), ([6], [6]), ([7, 5], [7]), ([], []), ([9], [9]), ([10, 8], [10]), ([0, 1, 2, 3, 4, 6, 7, 9, 10], []), ([12, 2, 11, 0, 1, 2, 3, 4, 6, 7, 9, 10], [2, 12]), ([0, 1, 2, 3, 4, 5, 6, 7, 9, 10, 12, 13], []), ([14, 5, 13, 0, 1, 2, 3, 4, 5, 6, 7, 9, 10, 12, 13], [5, 14]), ([0, 1, 2, 3, 4, 5, 6, 7, 8, 9, 10, 12, 13, 14, 15], []), ([16, 8, 15, 0, 1, 2, 3, 4, 5, 6, 7, 8, 9, 10, 12, 13, 14, 15], [8, 16]), ([0, 1, 2, 3, 4, 5, 6, 7, 8, 9, 10, 11, 12, 13, 14, 15, 16, 17], []), ([18, 11, 17, 0, 1, 2, 3, 4, 5, 6, 7, 8, 9, 10, 11, 12, 13, 14, 15, 16, 17], [11, 18])])
def tautochronelaw13_Small.B8 : List Nat := [0, 1, 3, 0, 8, 31, 0, 64, 255, 0, 512, 2047, 1759, 8191, 16383, 32767, 65535, 131071, 262143, 524287]
theorem tautochronelaw13_Small.tab8 : rtab .any (opsOf Tryd.f23 8) = tautochronelaw13_Small.T8 := by kernel_rfl
theorem tautochronelaw13_Small.bits8 : waitsOk tautochronelaw13_Small.T8.2 tautochronelaw13_Small.B8 = true := by kernel_rfl
def tautochronelaw13_Small.T11 : Bool × List (List Nat × List Nat) := (true, [([], []), ([0], [0]), ([1], [1]), ([], []), ([3], [3]), ([], []), ([5], [5]), ([4, 6], [4, 6]), ([0, 1, 2, 3, 4], []), ([8, 2, 7, 0, 1, 2, 3, 4], [2, 8]), ([0, 1, 2, 3, 4, 5, 6, 7, 8, 9], []), ([10, 7, 9, 0, 1, 2, 3, 4, 5, 6, 7, 8, 9], [7, 10])])
def tautochronelaw13_Small.B11 : List Nat := [0, 1, 3, 0, 8, 0, 32, 120, 31, 511, 1023, 2047]
theorem tautochronelaw13_Small.tab11 : rtab .any (opsOf Tryd.f23 11) = tautochronelaw13_Small.T11 := by kernel_rfl
theorem tautochronelaw13_Small.bits11 : waitsOk tautochronelaw13_Small.T11.2 tautochronelaw13_Small.B11 = true := by kernel_rfl
set_option maxHeartbeats 8000000 in
set_option maxRecDepth 100000 in
theorem tautochronelaw13_Small.calls (k : Nat) (A0 : Option Addr) (c0 : Nat) (l0 : List (S37)) (r : List (S37)) (w : World) (hr0 : Kd.C k37 w A0 l0.length l0) (hc0 : l0.length ≤ c0) (h : tautochronelaw13_Small.f k l0 = some r) :
  Calls Tryd.prog 23 #[.slice A0 l0.length c0] w fun e w' => ∃ v0_ : Value, e = .returned (v0_) ∧ Kd.R k37 37 w' w.heap.size (fun _ => True) v0_ r ∧ Below w.heap.size w w' := by
 have hu37 := Tryd.underlying37
 have HR0 := Aside0.mk hr0
 have HC0 := Aside0.mk hc0
 clear hr0 hc0
 have HB := Aside0.mk (Below.refl w.heap.size w)
 have H : (if 0 ≤ (mn (l0.length : Int) 30) then (if (mn (l0.length : Int) 30) ≤ (l0.length : Int) then ((some (l0.take ((mn (l0.length : Int) 30) : Int).toNat : List (S37))).bind fun y146 => (tautochronelaw13_Small.l0 k ([] : List (S37)) (mn (l0.length : Int) 30) y146 (y146.length : Int) 0)) else (none)) else (none)) = some r := h
 clear h
 obtain ⟨ji2, hji2⟩ : ∃ j_ : Int, (mn (l0.length : Int) 30) = j_ := ⟨_, rfl⟩
 replace H : (if 0 ≤ (ji2) then (if (ji2) ≤ (l0.length : Int) then ((some (l0.take ((ji2) : Int).toNat : List (S37))).bind fun y146 => (tautochronelaw13_Small.l0 k ([] : List (S37)) ji2 y146 (y146.length : Int) 0)) else (none)) else (none)) = some r := by first | (rw [hji2] at H; exact H) | (simp only [hji2] at H ⊢; exact H)
 (try (have hji2h : ji2 ≤ 30 := by (rw [← hji2]; unfold mn; (repeat' split) <;> omega)))
 (try (have hji2g : ji2 ≤ 64 := by omega))
 (try (have hji2l : 0 ≤ ji2 := by (rw [← hji2]; unfold mn; (repeat' split) <;> omega)))
 (try (have hji2m : 0 ≤ ji2 := by omega))
 have hji2_ : (if 30 < (l0.length : Int) then 30 else (l0.length : Int)) = ji2 := hji2
 by_cases c3 : 0 ≤ (ji2)
 ·rw [if_pos c3] at H
  have c3b0 := eq_true c3
  have c3b1 : decide (0 ≤ (ji2)) = true := decide_eq_true c3
  clear c3
  by_cases c4 : (ji2) ≤ (l0.length : Int)
  rotate_left
  ·rw [if_neg c4] at H; exact absurd H (by simp)
  rw [if_pos c4] at H
  have c4b0 := eq_true c4
  have c4b1 : decide ((ji2) ≤ (l0.length : Int)) = true := decide_eq_true c4
  clear c4
  obtain ⟨y146, hy146⟩ : ∃ y_ : List (S37), y_ = (l0.take ((ji2) : Int).toNat) := ⟨_, rfl⟩
  replace H : (tautochronelaw13_Small.l0 k ([] : List (S37)) ji2 y146 (y146.length : Int) 0) = some r := by first | (rw [hy146]; with_reducible exact H) | (have H2_ := (Option.bind_some _ _).symm.trans H; rw [hy146]; with_reducible exact H2_) | (have H2_ := (Option.bind_some _ _).symm.trans H; with_reducible exact H2_) | with_reducible exact H | (rw [hy146]; exact H) | exact H
  have Ny146 := Aside0.mk hy146
  clear hy146
  have H' := Aside0.mk H
  clear H
  have q5 : ((ji2) : Int) ≤ ((l0.length : Int) : Int) := of_decide_eq_true (by first | (with_reducible assumption) | assumption)
  obtain ⟨i05, hi05, _, hsz5, _⟩ := info_parts info37
  have hroom5 : l0.length ≤ c0 := HC0.out
  have hC5 : Kd.C k37 _ A0 l0.length l0 := HR0.out
  have hcut5 := cut_to (P := Tryd.prog) 22 37 .i64 Tryd.underlying22 hi05 A0 l0.length c0 (ji2) (of_decide_eq_true (by first | (with_reducible assumption) | assumption)) q5 hroom5
  have hr5 := Kd.C_take (m := ((ji2) : Int).toNat) hC5 (by omega)
  have hy5 : y146.length = ((ji2) : Int).toNat := (by rw [Ny146.out, List.length_take]; omega)
  rw [← Ny146.out] at hr5
  rw [← hy5] at hcut5
  have HR149 := Aside0.mk hr5
  have HC149 := Aside0.mk (show y146.length ≤ c0 from by omega)
  clear hr5 hC5 hroom5 hi05 hsz5
  have KY5 := Aside0.mk hy5
  clear hy5
  replace q5 := eq_true q5
  go_enter Tryd.func23, Tryd.ntmps23
  go_wp2
  go_loopg [3, 14] k (fun kq v3 v14 w' => ∃ (x3_1 : List (S37)) (x14_1 : Int), v14 = .int .i64 x14_1 ∧ Aside0 (tautochronelaw13_Small.l0 kq x3_1 ji2 y146 (y146.length : Int) x14_1 = some r) ∧ Aside0 (kq ≤ k) ∧ Aside0 (Kd.R k37 37 w' w.heap.size (fun _ => True) v3 x3_1) ∧ Aside0 (Below w.heap.size w w'))
  case atStart => exact ⟨(([] : List (S37))), (0), (by first | rfl | (simp; done) | (simp [*]; done)), H', ⟨Nat.le_refl _⟩, ⟨by first | exact Kd.R_nil _ _ _ _ _ | exact Kd.N_nil _ _ _ _ _ | exact Kd.V_nil _ _ _ _ _ | exact Kd.Q_nil _ _ _ _ _ | exact Kd.S_nil _ _ _ _ _⟩, ⟨by repeat (first | (with_reducible first | exact HB.out | apply below_alloc | apply pw_below_drewN | apply below_drew1) | exact HB.out)⟩⟩
  case round =>
   clear H'
   try clear c2
   try clear p2
   try clear c3
   try clear c3b0
   try clear c3b1
   try clear c4
   try clear c4b0
   try clear c4b1
   try clear q5
   try clear q5
   obtain ⟨x3_1, x14_1, rfl, HA, HK1, HO_3, HB⟩ := hrel
   cases gk with
   | zero => exact absurd HA.out (by simp [tautochronelaw13_Small.l0])
   | succ k1 =>
    have H := HA.out
    clear HA
    simp only [tautochronelaw13_Small.l0] at H
    by_cases c6 : x14_1 < (y146.length : Int)
    ·rw [if_pos c6] at H
     have c6b0 : decide (x14_1 < (y146.length : Int)) = true := decide_eq_true c6
     clear c6
     by_cases c7 : 0 ≤ x14_1
     rotate_left
     ·rw [if_neg c7] at H; exact absurd H (by simp)
     rw [if_pos c7] at H
     have c7b0 : decide (0 ≤ x14_1) = true := decide_eq_true c7
     clear c7
     by_cases c8 : x14_1 < (y146.length : Int)
     rotate_left
     ·rw [if_neg c8] at H; exact absurd H (by simp)
     rw [if_pos c8] at H
     have c8b0 : decide (x14_1 < (y146.length : Int)) = true := decide_eq_true c8
     clear c8
     replace H := Option.bind_eq_some_iff.mp H
     obtain ⟨t155, A90, H⟩ := H
     replace H : ((tautochronelaw13_rest.f ((rd_T37 y146 x14_1).f1) 10).bind fun t156 => ((tautochronelaw13_rest.f ((rd_T37 y146 x14_1).f2) 8).bind fun t157 => ((tautochronelaw13_rest.f ((rd_T37 y146 x14_1).f3) 8).bind fun t158 => ((tautochronelaw13_rest.f ((rd_T37 y146 x14_1).f4) 8).bind fun t159 => ((tautochronelaw13_rest.f ((rd_T37 y146 x14_1).f5) 8).bind fun t160 => (if (Int.tmod ((rd_T37 y146 x14_1).f6) 3) = 0 then (if t155 = 4 then ((tautochronelaw13_rest.f ((rd_T37 y146 x14_1).f7) (wrap64 (ji2 + 1))).bind fun t161 => (if x3_1.length < 2199023255552 then (tautochronelaw13_Small.l0 k1 (x3_1 ++ [(⟨t155, t156, t157, (-1), t159, t160, Int.tmod ((rd_T37 y146 x14_1).f6) 8, t161⟩ : S37)]) ji2 y146 (y146.length : Int) (wrap64 (x14_1 + 1))) else (none))) else (if t155 = 5 then ((tautochronelaw13_rest.f ((rd_T37 y146 x14_1).f7) (wrap64 (ji2 + 1))).bind fun t165 => (if x3_1.length < 2199023255552 then (tautochronelaw13_Small.l0 k1 (x3_1 ++ [(⟨t155, t156, t157, (-1), t159, t160, Int.tmod ((rd_T37 y146 x14_1).f6) 8, t165⟩ : S37)]) ji2 y146 (y146.length : Int) (wrap64 (x14_1 + 1))) else (none))) else ((tautochronelaw13_rest.f ((rd_T37 y146 x14_1).f7) (wrap64 (ji2 + 1))).bind fun t169 => (if x3_1.length < 2199023255552 then (tautochronelaw13_Small.l0 k1 (x3_1 ++ [(⟨t155, t156, t157, t158, t159, t160, Int.tmod ((rd_T37 y146 x14_1).f6) 8, t169⟩ : S37)]) ji2 y146 (y146.length : Int) (wrap64 (x14_1 + 1))) else (none))))) else ((tautochronelaw13_rest.f ((rd_T37 y146 x14_1).f7) (wrap64 (ji2 + 1))).bind fun t173 => (if x3_1.length < 2199023255552 then (tautochronelaw13_Small.l0 k1 (x3_1 ++ [(⟨t155, t156, t157, t158, t159, t160, Int.tmod ((rd_T37 y146 x14_1).f6) 8, t173⟩ : S37)]) ji2 y146 (y146.length : Int) (wrap64 (x14_1 + 1))) else (none))))))))) = some r := H
     have A9 := Aside0.mk A90
     clear A90
     replace H := Option.bind_eq_some_iff.mp H
     obtain ⟨t156, A100, H⟩ := H
     replace H : ((tautochronelaw13_rest.f ((rd_T37 y146 x14_1).f2) 8).bind fun t157 => ((tautochronelaw13_rest.f ((rd_T37 y146 x14_1).f3) 8).bind fun t158 => ((tautochronelaw13_rest.f ((rd_T37 y146 x14_1).f4) 8).bind fun t159 => ((tautochronelaw13_rest.f ((rd_T37 y146 x14_1).f5) 8).bind fun t160 => (if (Int.tmod ((rd_T37 y146 x14_1).f6) 3) = 0 then (if t155 = 4 then ((tautochronelaw13_rest.f ((rd_T37 y146 x14_1).f7) (wrap64 (ji2 + 1))).bind fun t161 => (if x3_1.length < 2199023255552 then (tautochronelaw13_Small.l0 k1 (x3_1 ++ [(⟨t155, t156, t157, (-1), t159, t160, Int.tmod ((rd_T37 y146 x14_1).f6) 8, t161⟩ : S37)]) ji2 y146 (y146.length : Int) (wrap64 (x14_1 + 1))) else (none))) else (if t155 = 5 then ((tautochronelaw13_rest.f ((rd_T37 y146 x14_1).f7) (wrap64 (ji2 + 1))).bind fun t165 => (if x3_1.length < 2199023255552 then (tautochronelaw13_Small.l0 k1 (x3_1 ++ [(⟨t155, t156, t157, (-1), t159, t160, Int.tmod ((rd_T37 y146 x14_1).f6) 8, t165⟩ : S37)]) ji2 y146 (y146.length : Int) (wrap64 (x14_1 + 1))) else (none))) else ((tautochronelaw13_rest.f ((rd_T37 y146 x14_1).f7) (wrap64 (ji2 + 1))).bind fun t169 => (if x3_1.length < 2199023255552 then (tautochronelaw13_Small.l0 k1 (x3_1 ++ [(⟨t155, t156, t157, t158, t159, t160, Int.tmod ((rd_T37 y146 x14_1).f6) 8, t169⟩ : S37)]) ji2 y146 (y146.length : Int) (wrap64 (x14_1 + 1))) else (none))))) else ((tautochronelaw13_rest.f ((rd_T37 y146 x14_1).f7) (wrap64 (ji2 + 1))).bind fun t173 => (if x3_1.length < 2199023255552 then (tautochronelaw13_Small.l0 k1 (x3_1 ++ [(⟨t155, t156, t157, t158, t159, t160, Int.tmod ((rd_T37 y146 x14_1).f6) 8, t173⟩ : S37)]) ji2 y146 (y146.length : Int) (wrap64 (x14_1 + 1))) else (none)))))))) = some r := H
     have A10 := Aside0.mk A100
     clear A100
     replace H := Option.bind_eq_some_iff.mp H
     obtain ⟨t157, A110, H⟩ := H
     replace H : ((tautochronelaw13_rest.f ((rd_T37 y146 x14_1).f3) 8).bind fun t158 => ((tautochronelaw13_rest.f ((rd_T37 y146 x14_1).f4) 8).bind fun t159 => ((tautochronelaw13_rest.f ((rd_T37 y146 x14_1).f5) 8).bind fun t160 => (if (Int.tmod ((rd_T37 y146 x14_1).f6) 3) = 0 then (if t155 = 4 then ((tautochronelaw13_rest.f ((rd_T37 y146 x14_1).f7) (wrap64 (ji2 + 1))).bind fun t161 => (if x3_1.length < 2199023255552 then (tautochronelaw13_Small.l0 k1 (x3_1 ++ [(⟨t155, t156, t157, (-1), t159, t160, Int.tmod ((rd_T37 y146 x14_1).f6) 8, t161⟩ : S37)]) ji2 y146 (y146.length : Int) (wrap64 (x14_1 + 1))) else (none))) else (if t155 = 5 then ((tautochronelaw13_rest.f ((rd_T37 y146 x14_1).f7) (wrap64 (ji2 + 1))).bind fun t165 => (if x3_1.length < 2199023255552 then (tautochronelaw13_Small.l0 k1 (x3_1 ++ [(⟨t155, t156, t157, (-1), t159, t160, Int.tmod ((rd_T37 y146 x14_1).f6) 8, t165⟩ : S37)]) ji2 y146 (y146.length : Int) (wrap64 (x14_1 + 1))) else (none))) else ((tautochronelaw13_rest.f ((rd_T37 y146 x14_1).f7) (wrap64 (ji2 + 1))).bind fun t169 => (if x3_1.length < 2199023255552 then (tautochronelaw13_Small.l0 k1 (x3_1 ++ [(⟨t155, t156, t157, t158, t159, t160, Int.tmod ((rd_T37 y146 x14_1).f6) 8, t169⟩ : S37)]) ji2 y146 (y146.length : Int) (wrap64 (x14_1 + 1))) else (none))))) else ((tautochronelaw13_rest.f ((rd_T37 y146 x14_1).f7) (wrap64 (ji2 + 1))).bind fun t173 => (if x3_1.length < 2199023255552 then (tautochronelaw13_Small.l0 k1 (x3_1 ++ [(⟨t155, t156, t157, t158, t159, t160, Int.tmod ((rd_T37 y146 x14_1).f6) 8, t173⟩ : S37)]) ji2 y146 (y146.length : Int) (wrap64 (x14_1 + 1))) else (none))))))) = some r := H
     have A11 := Aside0.mk A110
     clear A110
     replace H := Option.bind_eq_some_iff.mp H
     obtain ⟨t158, A120, H⟩ := H
     replace H : ((tautochronelaw13_rest.f ((rd_T37 y146 x14_1).f4) 8).bind fun t159 => ((tautochronelaw13_rest.f ((rd_T37 y146 x14_1).f5) 8).bind fun t160 => (if (Int.tmod ((rd_T37 y146 x14_1).f6) 3) = 0 then (if t155 = 4 then ((tautochronelaw13_rest.f ((rd_T37 y146 x14_1).f7) (wrap64 (ji2 + 1))).bind fun t161 => (if x3_1.length < 2199023255552 then (tautochronelaw13_Small.l0 k1 (x3_1 ++ [(⟨t155, t156, t157, (-1), t159, t160, Int.tmod ((rd_T37 y146 x14_1).f6) 8, t161⟩ : S37)]) ji2 y146 (y146.length : Int) (wrap64 (x14_1 + 1))) else (none))) else (if t155 = 5 then ((tautochronelaw13_rest.f ((rd_T37 y146 x14_1).f7) (wrap64 (ji2 + 1))).bind fun t165 => (if x3_1.length < 2199023255552 then (tautochronelaw13_Small.l0 k1 (x3_1 ++ [(⟨t155, t156, t157, (-1), t159, t160, Int.tmod ((rd_T37 y146 x14_1).f6) 8, t165⟩ : S37)]) ji2 y146 (y146.length : Int) (wrap64 (x14_1 + 1))) else (none))) else ((tautochronelaw13_rest.f ((rd_T37 y146 x14_1).f7) (wrap64 (ji2 + 1))).bind fun t169 => (if x3_1.length < 2199023255552 then (tautochronelaw13_Small.l0 k1 (x3_1 ++ [(⟨t155, t156, t157, t158, t159, t160, Int.tmod ((rd_T37 y146 x14_1).f6) 8, t169⟩ : S37)]) ji2 y146 (y146.length : Int) (wrap64 (x14_1 + 1))) else (none))))) else ((tautochronelaw13_rest.f ((rd_T37 y146 x14_1).f7) (wrap64 (ji2 + 1))).bind fun t173 => (if x3_1.length < 2199023255552 then (tautochronelaw13_Small.l0 k1 (x3_1 ++ [(⟨t155, t156, t157, t158, t159, t160, Int.tmod ((rd_T37 y146 x14_1).f6) 8, t173⟩ : S37)]) ji2 y146 (y146.length : Int) (wrap64 (x14_1 + 1))) else (none)))))) = some r := H
     have A12 := Aside0.mk A120
     clear A120
     replace H := Option.bind_eq_some_iff.mp H
     obtain ⟨t159, A130, H⟩ := H
     replace H : ((tautochronelaw13_rest.f ((rd_T37 y146 x14_1).f5) 8).bind fun t160 => (if (Int.tmod ((rd_T37 y146 x14_1).f6) 3) = 0 then (if t155 = 4 then ((tautochronelaw13_rest.f ((rd_T37 y146 x14_1).f7) (wrap64 (ji2 + 1))).bind fun t161 => (if x3_1.length < 2199023255552 then (tautochronelaw13_Small.l0 k1 (x3_1 ++ [(⟨t155, t156, t157, (-1), t159, t160, Int.tmod ((rd_T37 y146 x14_1).f6) 8, t161⟩ : S37)]) ji2 y146 (y146.length : Int) (wrap64 (x14_1 + 1))) else (none))) else (if t155 = 5 then ((tautochronelaw13_rest.f ((rd_T37 y146 x14_1).f7) (wrap64 (ji2 + 1))).bind fun t165 => (if x3_1.length < 2199023255552 then (tautochronelaw13_Small.l0 k1 (x3_1 ++ [(⟨t155, t156, t157, (-1), t159, t160, Int.tmod ((rd_T37 y146 x14_1).f6) 8, t165⟩ : S37)]) ji2 y146 (y146.length : Int) (wrap64 (x14_1 + 1))) else (none))) else ((tautochronelaw13_rest.f ((rd_T37 y146 x14_1).f7) (wrap64 (ji2 + 1))).bind fun t169 => (if x3_1.length < 2199023255552 then (tautochronelaw13_Small.l0 k1 (x3_1 ++ [(⟨t155, t156, t157, t158, t159, t160, Int.tmod ((rd_T37 y146 x14_1).f6) 8, t169⟩ : S37)]) ji2 y146 (y146.length : Int) (wrap64 (x14_1 + 1))) else (none))))) else ((tautochronelaw13_rest.f ((rd_T37 y146 x14_1).f7) (wrap64 (ji2 + 1))).bind fun t173 => (if x3_1.length < 2199023255552 then (tautochronelaw13_Small.l0 k1 (x3_1 ++ [(⟨t155, t156, t157, t158, t159, t160, Int.tmod ((rd_T37 y146 x14_1).f6) 8, t173⟩ : S37)]) ji2 y146 (y146.length : Int) (wrap64 (x14_1 + 1))) else (none))))) = some r := H
     have A13 := Aside0.mk A130
     clear A130
     replace H := Option.bind_eq_some_iff.mp H
     obtain ⟨t160, A140, H⟩ := H
     replace H : (if (Int.tmod ((rd_T37 y146 x14_1).f6) 3) = 0 then (if t155 = 4 then ((tautochronelaw13_rest.f ((rd_T37 y146 x14_1).f7) (wrap64 (ji2 + 1))).bind fun t161 => (if x3_1.length < 2199023255552 then (tautochronelaw13_Small.l0 k1 (x3_1 ++ [(⟨t155, t156, t157, (-1), t159, t160, Int.tmod ((rd_T37 y146 x14_1).f6) 8, t161⟩ : S37)]) ji2 y146 (y146.length : Int) (wrap64 (x14_1 + 1))) else (none))) else (if t155 = 5 then ((tautochronelaw13_rest.f ((rd_T37 y146 x14_1).f7) (wrap64 (ji2 + 1))).bind fun t165 => (if x3_1.length < 2199023255552 then (tautochronelaw13_Small.l0 k1 (x3_1 ++ [(⟨t155, t156, t157, (-1), t159, t160, Int.tmod ((rd_T37 y146 x14_1).f6) 8, t165⟩ : S37)]) ji2 y146 (y146.length : Int) (wrap64 (x14_1 + 1))) else (none))) else ((tautochronelaw13_rest.f ((rd_T37 y146 x14_1).f7) (wrap64 (ji2 + 1))).bind fun t169 => (if x3_1.length < 2199023255552 then (tautochronelaw13_Small.l0 k1 (x3_1 ++ [(⟨t155, t156, t157, t158, t159, t160, Int.tmod ((rd_T37 y146 x14_1).f6) 8, t169⟩ : S37)]) ji2 y146 (y146.length : Int) (wrap64 (x14_1 + 1))) else (none))))) else ((tautochronelaw13_rest.f ((rd_T37 y146 x14_1).f7) (wrap64 (ji2 + 1))).bind fun t173 => (if x3_1.length < 2199023255552 then (tautochronelaw13_Small.l0 k1 (x3_1 ++ [(⟨t155, t156, t157, t158, t159, t160, Int.tmod ((rd_T37 y146 x14_1).f6) 8, t173⟩ : S37)]) ji2 y146 (y146.length : Int) (wrap64 (x14_1 + 1))) else (none)))) = some r := H
     have A14 := Aside0.mk A140
     clear A140
     by_cases c15 : (Int.tmod ((rd_T37 y146 x14_1).f6) 3) = 0
     ·rw [if_pos c15] at H
      have c15b0 : ((Int.tmod ((rd_T37 y146 x14_1).f6) 3) == 0) = true := beq_iff_eq.mpr c15
      have c15b1 : ((Int.tmod ((rd_T37 y146 x14_1).f6) 3) != 0) = false := bne_eq_false_iff_eq.mpr c15
      clear c15
      by_cases c16 : t155 = 4
      ·rw [if_pos c16] at H
       have c16b0 : (t155 == 4) = true := beq_iff_eq.mpr c16
       have c16b1 : (t155 != 4) = false := bne_eq_false_iff_eq.mpr c16
       clear c16
       replace H := Option.bind_eq_some_iff.mp H
       obtain ⟨t161, A170, H⟩ := H
       replace H : (if x3_1.length < 2199023255552 then (tautochronelaw13_Small.l0 k1 (x3_1 ++ [(⟨t155, t156, t157, (-1), t159, t160, Int.tmod ((rd_T37 y146 x14_1).f6) 8, t161⟩ : S37)]) ji2 y146 (y146.length : Int) (wrap64 (x14_1 + 1))) else (none)) = some r := H
       have A17 := Aside0.mk A170
       clear A170
       by_cases c18 : x3_1.length < 2199023255552
       rotate_left
       ·rw [if_neg c18] at H; exact absurd H (by simp)
       rw [if_pos c18] at H
       have LMc18 := Aside0.mk c18
       clear c18
       obtain ⟨y162, hy162⟩ : ∃ y_ : List (S37), y_ = (x3_1 ++ [(⟨t155, t156, t157, (-1), t159, t160, Int.tmod ((rd_T37 y146 x14_1).f6) 8, t161⟩ : S37)]) := ⟨_, rfl⟩
       replace H : (tautochronelaw13_Small.l0 k1 y162 ji2 y146 (y146.length : Int) (wrap64 (x14_1 + 1))) = some r := by first | (rw [hy162]; with_reducible exact H) | (have H2_ := (Option.bind_some _ _).symm.trans H; rw [hy162]; with_reducible exact H2_) | (have H2_ := (Option.bind_some _ _).symm.trans H; with_reducible exact H2_) | with_reducible exact H | (rw [hy162]; exact H) | exact H
       have Ny162 := Aside0.mk hy162
       clear hy162
       have H' := Aside0.mk H
       clear H
       have p153 : 0 ≤ (x14_1 : Int) := of_decide_eq_true (by first | (with_reducible assumption) | assumption)
       have q153 : x14_1 < (y146.length : Int) := of_decide_eq_true (by first | (with_reducible assumption) | assumption)
       obtain ⟨ad153, e153, hx153_0, hx153_1, hx153_2, hx153_3, hx153_4, hx153_5, hx153_6, hx153_7⟩ := at_T37 HR149.out x14_1 p153 q153
       cases e153
       replace hx153_0 := (HB.out.cell (World.block_lt_of_cell? w _ hx153_0)).trans hx153_0
       replace hx153_1 := (HB.out.cell (World.block_lt_of_cell? w _ hx153_1)).trans hx153_1
       replace hx153_2 := (HB.out.cell (World.block_lt_of_cell? w _ hx153_2)).trans hx153_2
       replace hx153_3 := (HB.out.cell (World.block_lt_of_cell? w _ hx153_3)).trans hx153_3
       replace hx153_4 := (HB.out.cell (World.block_lt_of_cell? w _ hx153_4)).trans hx153_4
       replace hx153_5 := (HB.out.cell (World.block_lt_of_cell? w _ hx153_5)).trans hx153_5
       replace hx153_6 := (HB.out.cell (World.block_lt_of_cell? w _ hx153_6)).trans hx153_6
       replace hx153_7 := (HB.out.cell (World.block_lt_of_cell? w _ hx153_7)).trans hx153_7
       replace p153 := eq_true p153
       replace q153 := eq_true q153
       try go_wp2_with (first | ((with_reducible refine gate_dst (N := 6) rfl ?_); refine box_event ?hg (N := 6) ?hd (cs := #[.int .i64 0, .int .i64 0, .int .i64 0, .int .i64 0, .int .i64 0, .int .i64 0, .int .u64 0, .int .i64 0]) (t := 37) ?hr ?_; (case hd => rfl); (case hg => rfl); (case hr => first | (go_simp; done) | (go_simp; rfl)); intro gb154 hg w19 hbox hb; have n0_ := Aside0.mk (Kd.R_below (Kd.R_elderB (by (with_reducible repeat (first | apply Kd.R_alloc | apply Kd.R_drewN | apply Kd.R_drew)); exact HO_3.out) gb154 (Nat.le_of_eq hg.symm)) hb); have n1_ := Aside0.mk (below_step (by repeat (first | (with_reducible first | exact HB.out | apply below_alloc | apply pw_below_drewN | apply below_drew1) | exact HB.out)) hb); have n2_ := Aside0.mk (hbox); have n3_ := Aside0.mk ((by rw [hg]; exact (below_size (by repeat (first | (with_reducible first | exact HB.out | apply below_alloc | apply pw_below_drewN | apply below_drew1) | exact HB.out))) : w.heap.size ≤ gb154)); have n4_ := Aside0.mk ((by rw [hg]; exact (below_size (by repeat (first | (with_reducible first | exact HB.out | apply below_alloc | apply pw_below_drewN | apply below_drew1) | exact HB.out))) : w.heap.size ≤ gb154)); clear HO_3; clear HB; have HO_3 := n0_; have HB := n1_; have BK154 := n2_; have GW154 := n3_; have GE154 := n4_; clear n0_ n1_ n2_ n3_ n4_; clear hb hbox hg; have hcz20_0 : w19.cell? ⟨gb154, 0, none⟩ = some (.int .i64 0) := (blk_cell BK154.out 0).trans rfl; have hcz20_1 : w19.cell? ⟨gb154, 1, none⟩ = some (.int .i64 0) := (blk_cell BK154.out 1).trans rfl; have hcz20_2 : w19.cell? ⟨gb154, 2, none⟩ = some (.int .i64 0) := (blk_cell BK154.out 2).trans rfl; have hcz20_3 : w19.cell? ⟨gb154, 3, none⟩ = some (.int .i64 0) := (blk_cell BK154.out 3).trans rfl; have hcz20_4 : w19.cell? ⟨gb154, 4, none⟩ = some (.int .i64 0) := (blk_cell BK154.out 4).trans rfl; have hcz20_5 : w19.cell? ⟨gb154, 5, none⟩ = some (.int .i64 0) := (blk_cell BK154.out 5).trans rfl; have hcz20_6 : w19.cell? ⟨gb154, 6, none⟩ = some (.int .u64 0) := (blk_cell BK154.out 6).trans rfl; have hcz20_7 : w19.cell? ⟨gb154, 7, none⟩ = some (.int .i64 0) := (blk_cell BK154.out 7).trans rfl; have hfz20_0 := blk_frozen BK154.out 0; have hfz20_1 := blk_frozen BK154.out 1; have hfz20_2 := blk_frozen BK154.out 2; have hfz20_3 := blk_frozen BK154.out 3; have hfz20_4 := blk_frozen BK154.out 4; have hfz20_5 := blk_frozen BK154.out 5; have hfz20_6 := blk_frozen BK154.out 6; have hfz20_7 := blk_frozen BK154.out 7) | ((with_reducible refine gate_callee (f := 50) rfl ?_); refine goesL_ (some 20) rfl rfl Tryd.func50 (by kernel_rfl) rfl #[.int .i64 ((rd_T37 y146 x14_1).f0), .int .i64 14] rfl (by (try simp only [List.map_toArray, List.map_cons, List.map_nil]); first | done | rfl | (simp only [List.length_drop, List.length_take]; rfl)) ?_; (with_reducible refine (tautochronelaw13_rest.calls ((rd_T37 y146 x14_1).f0) 14 t155 _ A9.out).mono ?_); rintro e w' ⟨rfl, ⟨nd, rfl⟩⟩; refine ⟨_, rfl, ?_⟩) | ((with_reducible refine gate_callee (f := 50) rfl ?_); refine goesL_ (some 24) rfl rfl Tryd.func50 (by kernel_rfl) rfl #[.int .i64 ((rd_T37 y146 x14_1).f1), .int .i64 10] rfl (by (try simp only [List.map_toArray, List.map_cons, List.map_nil]); first | done | rfl | (simp only [List.length_drop, List.length_take]; rfl)) ?_; (with_reducible refine (tautochronelaw13_rest.calls ((rd_T37 y146 x14_1).f1) 10 t156 _ A10.out).mono ?_); rintro e w' ⟨rfl, ⟨nd, rfl⟩⟩; refine ⟨_, rfl, ?_⟩))
       have n0_ : Aside0 (Kd.R k37 37 ((((((((((w19.setCell ⟨gb154, 0, none⟩ (.int .i64 ((rd_T37 y146 x14_1).f0))).setCell ⟨gb154, 1, none⟩ (.int .i64 ((rd_T37 y146 x14_1).f1))).setCell ⟨gb154, 2, none⟩ (.int .i64 ((rd_T37 y146 x14_1).f2))).setCell ⟨gb154, 3, none⟩ (.int .i64 ((rd_T37 y146 x14_1).f3))).setCell ⟨gb154, 4, none⟩ (.int .i64 ((rd_T37 y146 x14_1).f4))).setCell ⟨gb154, 5, none⟩ (.int .i64 ((rd_T37 y146 x14_1).f5))).setCell ⟨gb154, 6, none⟩ (.int .u64 ((rd_T37 y146 x14_1).f6))).setCell ⟨gb154, 7, none⟩ (.int .i64 ((rd_T37 y146 x14_1).f7))).setCell ⟨gb154, 0, none⟩ (.int .i64 t155)).setCell ⟨gb154, 1, none⟩ (.int .i64 t156)) w.heap.size (fun k_ => k_ ≠ gb154) u3 x3_1) := ⟨by (with_reducible repeat (first | apply Kd.R_alloc | apply Kd.R_drewN | apply Kd.R_drew)); exact Kd.R_mono (Kd.R_far (p := ⟨gb154, 1, none⟩) (Kd.R_far (p := ⟨gb154, 0, none⟩) (Kd.R_far (p := ⟨gb154, 7, none⟩) (Kd.R_far (p := ⟨gb154, 6, none⟩) (Kd.R_far (p := ⟨gb154, 5, none⟩) (Kd.R_far (p := ⟨gb154, 4, none⟩) (Kd.R_far (p := ⟨gb154, 3, none⟩) (Kd.R_far (p := ⟨gb154, 2, none⟩) (Kd.R_far (p := ⟨gb154, 1, none⟩) (Kd.R_far (p := ⟨gb154, 0, none⟩) (Kd.R_mono HO_3.out (fun k_ hk => (⟨hk, hk.2⟩ : _ ∧ k_ ≠ gb154))) (fun _ hk => hk.2) (.int .i64 ((rd_T37 y146 x14_1).f0))) (fun _ hk => hk.2) (.int .i64 ((rd_T37 y146 x14_1).f1))) (fun _ hk => hk.2) (.int .i64 ((rd_T37 y146 x14_1).f2))) (fun _ hk => hk.2) (.int .i64 ((rd_T37 y146 x14_1).f3))) (fun _ hk => hk.2) (.int .i64 ((rd_T37 y146 x14_1).f4))) (fun _ hk => hk.2) (.int .i64 ((rd_T37 y146 x14_1).f5))) (fun _ hk => hk.2) (.int .u64 ((rd_T37 y146 x14_1).f6))) (fun _ hk => hk.2) (.int .i64 ((rd_T37 y146 x14_1).f7))) (fun _ hk => hk.2) (.int .i64 t155)) (fun _ hk => hk.2) (.int .i64 t156)) (fun _ hk => hk.1.2)⟩
       have n1_ : Aside0 (((((((((((w19.setCell ⟨gb154, 0, none⟩ (.int .i64 ((rd_T37 y146 x14_1).f0))).setCell ⟨gb154, 1, none⟩ (.int .i64 ((rd_T37 y146 x14_1).f1))).setCell ⟨gb154, 2, none⟩ (.int .i64 ((rd_T37 y146 x14_1).f2))).setCell ⟨gb154, 3, none⟩ (.int .i64 ((rd_T37 y146 x14_1).f3))).setCell ⟨gb154, 4, none⟩ (.int .i64 ((rd_T37 y146 x14_1).f4))).setCell ⟨gb154, 5, none⟩ (.int .i64 ((rd_T37 y146 x14_1).f5))).setCell ⟨gb154, 6, none⟩ (.int .u64 ((rd_T37 y146 x14_1).f6))).setCell ⟨gb154, 7, none⟩ (.int .i64 ((rd_T37 y146 x14_1).f7))).setCell ⟨gb154, 0, none⟩ (.int .i64 t155)).setCell ⟨gb154, 1, none⟩ (.int .i64 t156)).heap[gb154]? = some (.cells #[.int .i64 t155, .int .i64 t156, .int .i64 ((rd_T37 y146 x14_1).f2), .int .i64 ((rd_T37 y146 x14_1).f3), .int .i64 ((rd_T37 y146 x14_1).f4), .int .i64 ((rd_T37 y146 x14_1).f5), .int .u64 ((rd_T37 y146 x14_1).f6), .int .i64 ((rd_T37 y146 x14_1).f7)] 37 (0, 0))) := ⟨by (with_reducible repeat (first | refine blk_drewN ?_ _ | refine blk_drew ?_ | refine blk_alloc ?_ _)); refine blk_put (cs := #[.int .i64 t155, .int .i64 ((rd_T37 y146 x14_1).f1), .int .i64 ((rd_T37 y146 x14_1).f2), .int .i64 ((rd_T37 y146 x14_1).f3), .int .i64 ((rd_T37 y146 x14_1).f4), .int .i64 ((rd_T37 y146 x14_1).f5), .int .u64 ((rd_T37 y146 x14_1).f6), .int .i64 ((rd_T37 y146 x14_1).f7)]) ?_ 1 _ rfl; refine blk_put (cs := #[.int .i64 ((rd_T37 y146 x14_1).f0), .int .i64 ((rd_T37 y146 x14_1).f1), .int .i64 ((rd_T37 y146 x14_1).f2), .int .i64 ((rd_T37 y146 x14_1).f3), .int .i64 ((rd_T37 y146 x14_1).f4), .int .i64 ((rd_T37 y146 x14_1).f5), .int .u64 ((rd_T37 y146 x14_1).f6), .int .i64 ((rd_T37 y146 x14_1).f7)]) ?_ 0 _ rfl; refine blk_put (cs := #[.int .i64 ((rd_T37 y146 x14_1).f0), .int .i64 ((rd_T37 y146 x14_1).f1), .int .i64 ((rd_T37 y146 x14_1).f2), .int .i64 ((rd_T37 y146 x14_1).f3), .int .i64 ((rd_T37 y146 x14_1).f4), .int .i64 ((rd_T37 y146 x14_1).f5), .int .u64 ((rd_T37 y146 x14_1).f6), .int .i64 0]) ?_ 7 _ rfl; refine blk_put (cs := #[.int .i64 ((rd_T37 y146 x14_1).f0), .int .i64 ((rd_T37 y146 x14_1).f1), .int .i64 ((rd_T37 y146 x14_1).f2), .int .i64 ((rd_T37 y146 x14_1).f3), .int .i64 ((rd_T37 y146 x14_1).f4), .int .i64 ((rd_T37 y146 x14_1).f5), .int .u64 0, .int .i64 0]) ?_ 6 _ rfl; refine blk_put (cs := #[.int .i64 ((rd_T37 y146 x14_1).f0), .int .i64 ((rd_T37 y146 x14_1).f1), .int .i64 ((rd_T37 y146 x14_1).f2), .int .i64 ((rd_T37 y146 x14_1).f3), .int .i64 ((rd_T37 y146 x14_1).f4), .int .i64 0, .int .u64 0, .int .i64 0]) ?_ 5 _ rfl; refine blk_put (cs := #[.int .i64 ((rd_T37 y146 x14_1).f0), .int .i64 ((rd_T37 y146 x14_1).f1), .int .i64 ((rd_T37 y146 x14_1).f2), .int .i64 ((rd_T37 y146 x14_1).f3), .int .i64 0, .int .i64 0, .int .u64 0, .int .i64 0]) ?_ 4 _ rfl; refine blk_put (cs := #[.int .i64 ((rd_T37 y146 x14_1).f0), .int .i64 ((rd_T37 y146 x14_1).f1), .int .i64 ((rd_T37 y146 x14_1).f2), .int .i64 0, .int .i64 0, .int .i64 0, .int .u64 0, .int .i64 0]) ?_ 3 _ rfl; refine blk_put (cs := #[.int .i64 ((rd_T37 y146 x14_1).f0), .int .i64 ((rd_T37 y146 x14_1).f1), .int .i64 0, .int .i64 0, .int .i64 0, .int .i64 0, .int .u64 0, .int .i64 0]) ?_ 2 _ rfl; refine blk_put (cs := #[.int .i64 ((rd_T37 y146 x14_1).f0), .int .i64 0, .int .i64 0, .int .i64 0, .int .i64 0, .int .i64 0, .int .u64 0, .int .i64 0]) ?_ 1 _ rfl; refine blk_put (cs := #[.int .i64 0, .int .i64 0, .int .i64 0, .int .i64 0, .int .i64 0, .int .i64 0, .int .u64 0, .int .i64 0]) ?_ 0 _ rfl; (with_reducible repeat (first | refine blk_drewN ?_ _ | refine blk_drew ?_ | refine blk_alloc ?_ _)); exact BK154.out⟩
       have n2_ : Aside0 (Below w.heap.size w ((((((((((w19.setCell ⟨gb154, 0, none⟩ (.int .i64 ((rd_T37 y146 x14_1).f0))).setCell ⟨gb154, 1, none⟩ (.int .i64 ((rd_T37 y146 x14_1).f1))).setCell ⟨gb154, 2, none⟩ (.int .i64 ((rd_T37 y146 x14_1).f2))).setCell ⟨gb154, 3, none⟩ (.int .i64 ((rd_T37 y146 x14_1).f3))).setCell ⟨gb154, 4, none⟩ (.int .i64 ((rd_T37 y146 x14_1).f4))).setCell ⟨gb154, 5, none⟩ (.int .i64 ((rd_T37 y146 x14_1).f5))).setCell ⟨gb154, 6, none⟩ (.int .u64 ((rd_T37 y146 x14_1).f6))).setCell ⟨gb154, 7, none⟩ (.int .i64 ((rd_T37 y146 x14_1).f7))).setCell ⟨gb154, 0, none⟩ (.int .i64 t155)).setCell ⟨gb154, 1, none⟩ (.int .i64 t156))) := ⟨by repeat (first | (with_reducible first | exact HB.out | apply below_alloc | apply pw_below_drewN | apply below_drew1 | refine below_set ?_ GE154.out) | exact HB.out)⟩
       (try clear HO_3)
       (try clear BK154)
       (try clear HB)
       generalize ((((((((((w19.setCell ⟨gb154, 0, none⟩ (.int .i64 ((rd_T37 y146 x14_1).f0))).setCell ⟨gb154, 1, none⟩ (.int .i64 ((rd_T37 y146 x14_1).f1))).setCell ⟨gb154, 2, none⟩ (.int .i64 ((rd_T37 y146 x14_1).f2))).setCell ⟨gb154, 3, none⟩ (.int .i64 ((rd_T37 y146 x14_1).f3))).setCell ⟨gb154, 4, none⟩ (.int .i64 ((rd_T37 y146 x14_1).f4))).setCell ⟨gb154, 5, none⟩ (.int .i64 ((rd_T37 y146 x14_1).f5))).setCell ⟨gb154, 6, none⟩ (.int .u64 ((rd_T37 y146 x14_1).f6))).setCell ⟨gb154, 7, none⟩ (.int .i64 ((rd_T37 y146 x14_1).f7))).setCell ⟨gb154, 0, none⟩ (.int .i64 t155)).setCell ⟨gb154, 1, none⟩ (.int .i64 t156)) = w21 at n0_ n1_ n2_ ⊢
       have HO_3 := n0_
       have BK154 := n1_
       have HB := n2_
       clear n0_ n1_ n2_
       (try (rw [drewN_self w21]; generalize hq_ : World.drewN w21 _ = w21; have n0_ : Aside0 (Kd.R k37 37 w21 w.heap.size (fun k_ => k_ ≠ gb154) u3 x3_1) := ⟨by rw [← hq_]; exact (by (with_reducible repeat (first | apply Kd.R_alloc | apply Kd.R_drewN | apply Kd.R_drew)); exact HO_3.out)⟩; have n1_ : Aside0 (w21.heap[gb154]? = some (.cells #[.int .i64 t155, .int .i64 t156, .int .i64 ((rd_T37 y146 x14_1).f2), .int .i64 ((rd_T37 y146 x14_1).f3), .int .i64 ((rd_T37 y146 x14_1).f4), .int .i64 ((rd_T37 y146 x14_1).f5), .int .u64 ((rd_T37 y146 x14_1).f6), .int .i64 ((rd_T37 y146 x14_1).f7)] 37 (0, 0))) := ⟨by rw [← hq_]; exact (by (with_reducible repeat (first | refine blk_drewN ?_ _ | refine blk_drew ?_ | refine blk_alloc ?_ _)); exact BK154.out)⟩; have n2_ : Aside0 (Below w.heap.size w w21) := ⟨by rw [← hq_]; exact (by repeat (first | (with_reducible first | exact HB.out | apply below_alloc | apply pw_below_drewN | apply below_drew1 | refine below_set ?_ GE154.out) | exact HB.out))⟩; clear HO_3 BK154 HB hq_; have HO_3 := n0_; have BK154 := n1_; have HB := n2_; clear n0_ n1_ n2_))
       have n0_ := Aside0.mk (Kd.R_drew HO_3.out)
       have n1_ := Aside0.mk (blk_drew BK154.out)
       have n2_ := Aside0.mk (below_drew1 HB.out)
       clear HO_3
       clear BK154
       clear HB
       have HO_3 := n0_
       have BK154 := n1_
       have HB := n2_
       clear n0_ n1_ n2_
       refine start_ (n := 20) (S := fun w' => w'.cell? ⟨gb154, 0, none⟩ = some (.int .i64 t155) ∧ w'.cell? ⟨gb154, 1, none⟩ = some (.int .i64 t156) ∧ w'.cell? ⟨gb154, 2, none⟩ = some (.int .i64 ((rd_T37 y146 x14_1).f2)) ∧ w'.cell? ⟨gb154, 3, none⟩ = some (.int .i64 ((rd_T37 y146 x14_1).f3)) ∧ w'.cell? ⟨gb154, 4, none⟩ = some (.int .i64 ((rd_T37 y146 x14_1).f4)) ∧ w'.cell? ⟨gb154, 5, none⟩ = some (.int .i64 ((rd_T37 y146 x14_1).f5)) ∧ w'.cell? ⟨gb154, 6, none⟩ = some (.int .u64 ((rd_T37 y146 x14_1).f6)) ∧ w'.cell? ⟨gb154, 7, none⟩ = some (.int .i64 ((rd_T37 y146 x14_1).f7))) (ds := [13, 15, 17, 19]) #[false, false, false, false, false, false, false, false, false, false, false, false, false, false, false, false, false, false, false, false] (by kernel_rfl) rfl rfl ⟨(blk_cell BK154.out 0).trans rfl, (blk_cell BK154.out 1).trans rfl, (blk_cell BK154.out 2).trans rfl, (blk_cell BK154.out 3).trans rfl, (blk_cell BK154.out 4).trans rfl, (blk_cell BK154.out 5).trans rfl, (blk_cell BK154.out 6).trans rfl, (blk_cell BK154.out 7).trans rfl⟩ (fun hHeld => ?_); refine with_tabW tautochronelaw13_Small.tab8 tautochronelaw13_Small.bits8 (fun HT_ HW_ => ?_)
       generalize w21.drew = w22 at HO_3 BK154 HB hHeld ⊢
       refine pure_ (i := 0) (N := some 26) (v := ?_) (a' := ?_) #[true, false, false, false, false, false, false, false, false, false, false, false, false, false, false, false, false, false, false, false] rfl rfl (any_of HT_.out (by kernel_rfl)) (fun _ _ _ h => h) (Or.inl ⟨by rfl, ?_⟩) ?_ ?_
       rotate_left
       ·intro w'
        go_simp
        with_reducible rfl
       rotate_left
       ·simp only [Act.put, List.setIfInBounds_toArray, List.set_cons_zero, List.set_cons_succ, i64_w, i32_w]
        rfl
       refine pure_ (i := 3) (N := some 29) (v := ?_) (a' := ?_) #[true, false, false, true, false, false, false, false, false, false, false, false, false, false, false, false, false, false, false, false] rfl rfl (any_of HT_.out (by kernel_rfl)) (fun _ _ _ h => h) (Or.inl ⟨by rfl, ?_⟩) ?_ ?_
       rotate_left
       ·intro w'
        go_simp
        with_reducible rfl
       rotate_left
       ·simp only [Act.put, List.setIfInBounds_toArray, List.set_cons_zero, List.set_cons_succ, i64_w, i32_w]
        rfl
       refine pure_ (i := 6) (N := some 32) (v := ?_) (a' := ?_) #[true, false, false, true, false, false, true, false, false, false, false, false, false, false, false, false, false, false, false, false] rfl rfl (any_of HT_.out (by kernel_rfl)) (fun _ _ _ h => h) (Or.inl ⟨by rfl, ?_⟩) ?_ ?_
       rotate_left
       ·intro w'
        go_simp
        with_reducible rfl
       rotate_left
       ·simp only [Act.put, List.setIfInBounds_toArray, List.set_cons_zero, List.set_cons_succ, i64_w, i32_w]
        rfl
       refine pure_ (i := 9) (N := some 35) (v := ?_) (a' := ?_) #[true, false, false, true, false, false, true, false, false, true, false, false, false, false, false, false, false, false, false, false] rfl rfl (any_of HT_.out (by kernel_rfl)) (fun _ _ _ h => h) (Or.inl ⟨by rfl, ?_⟩) ?_ ?_
       rotate_left
       ·intro w'
        go_simp
        with_reducible rfl
       rotate_left
       ·simp only [Act.put, List.setIfInBounds_toArray, List.set_cons_zero, List.set_cons_succ, i64_w, i32_w]
        rfl
       refine take_ (i := 1) (N := some 27) (v := ?_) (a' := ?_) #[true, true, false, true, false, false, true, false, false, true, false, false, false, false, false, false, false, false, false, false] rfl rfl (take_ofW HT_.out HW_.out (by kernel_rfl)) (fun _ _ _ h => h) (Or.inl ⟨by rfl, ?_⟩) hHeld ?_ ?_
       rotate_left
       ·rintro w' ⟨s0, s1, s2, s3, s4, s5, s6, s7⟩
        go_simp
        with_reducible rfl
       rotate_left
       ·simp only [Act.put, List.setIfInBounds_toArray, List.set_cons_zero, List.set_cons_succ, i64_w, i32_w]
        rfl
       refine take_ (i := 4) (N := some 30) (v := ?_) (a' := ?_) #[true, true, false, true, true, false, true, false, false, true, false, false, false, false, false, false, false, false, false, false] rfl rfl (take_ofW HT_.out HW_.out (by kernel_rfl)) (fun _ _ _ h => h) (Or.inl ⟨by rfl, ?_⟩) hHeld ?_ ?_
       rotate_left
       ·rintro w' ⟨s0, s1, s2, s3, s4, s5, s6, s7⟩
        go_simp
        with_reducible rfl
       rotate_left
       ·simp only [Act.put, List.setIfInBounds_toArray, List.set_cons_zero, List.set_cons_succ, i64_w, i32_w]
        rfl
       refine take_ (i := 7) (N := some 33) (v := ?_) (a' := ?_) #[true, true, false, true, true, false, true, true, false, true, false, false, false, false, false, false, false, false, false, false] rfl rfl (take_ofW HT_.out HW_.out (by kernel_rfl)) (fun _ _ _ h => h) (Or.inl ⟨by rfl, ?_⟩) hHeld ?_ ?_
       rotate_left
       ·rintro w' ⟨s0, s1, s2, s3, s4, s5, s6, s7⟩
        go_simp
        with_reducible rfl
       rotate_left
       ·simp only [Act.put, List.setIfInBounds_toArray, List.set_cons_zero, List.set_cons_succ, i64_w, i32_w]
        rfl
       refine take_ (i := 10) (N := some 36) (v := ?_) (a' := ?_) #[true, true, false, true, true, false, true, true, false, true, true, false, false, false, false, false, false, false, false, false] rfl rfl (take_ofW HT_.out HW_.out (by kernel_rfl)) (fun _ _ _ h => h) (Or.inl ⟨by rfl, ?_⟩) hHeld ?_ ?_
       rotate_left
       ·rintro w' ⟨s0, s1, s2, s3, s4, s5, s6, s7⟩
        go_simp
        with_reducible rfl
       rotate_left
       ·simp only [Act.put, List.setIfInBounds_toArray, List.set_cons_zero, List.set_cons_succ, i64_w, i32_w]
        rfl
       refine one_ (i := 2) (N := some 28) #[true, true, true, true, true, false, true, true, false, true, true, false, false, false, false, false, false, false, false, false] rfl rfl (one_of HT_.out (by kernel_rfl)) (by decide) (fun K hK => ?_)
       refine goes_ Tryd.func50 (by kernel_rfl) rfl #[.int .i64 ((rd_T37 y146 x14_1).f2), .int .i64 8] (by rfl) rfl rfl (by (try simp only [List.map_toArray, List.map_cons, List.map_nil]); first | done | rfl | (simp only [List.length_drop, List.length_take]; rfl)) ?_
       with_reducible refine (tautochronelaw13_rest.calls ((rd_T37 y146 x14_1).f2) 8 t157 _ A11.out).mono ?_
       rintro e w' ⟨rfl, ⟨nd, rfl⟩⟩
       refine ⟨_, rfl, ?_⟩
       refine hK.out _ _ ⟨(blk_cell BK154.out 0).trans rfl, (blk_cell BK154.out 1).trans rfl, (blk_cell BK154.out 2).trans rfl, (blk_cell BK154.out 3).trans rfl, (blk_cell BK154.out 4).trans rfl, (blk_cell BK154.out 5).trans rfl, (blk_cell BK154.out 6).trans rfl, (blk_cell BK154.out 7).trans rfl⟩ (fun hHeld => ?_)
       clear hK K
       refine norm_ (a' := ?_) ?_ ?_
       rotate_left
       ·show Act.put _ (some 28) _ = _
        simp only [Act.put, List.setIfInBounds_toArray, List.set_cons_zero, List.set_cons_succ, i64_w, i32_w]
        rfl
       refine pure_ (i := 12) (N := some 38) (v := ?_) (a' := ?_) #[true, true, true, true, true, false, true, true, false, true, true, false, true, false, false, false, false, false, false, false] rfl rfl (any_of HT_.out (by kernel_rfl)) (fun _ _ _ h => h) (Or.inl ⟨by rfl, ?_⟩) ?_ ?_
       rotate_left
       ·intro w'
        go_simp
        with_reducible rfl
       rotate_left
       ·simp only [Act.put, List.setIfInBounds_toArray, List.set_cons_zero, List.set_cons_succ, i64_w, i32_w]
        rfl
       refine one_ (i := 5) (N := some 31) #[true, true, true, true, true, true, true, true, false, true, true, false, true, false, false, false, false, false, false, false] rfl rfl (one_of HT_.out (by kernel_rfl)) (by decide) (fun K hK => ?_)
       refine goes_ Tryd.func50 (by kernel_rfl) rfl #[.int .i64 ((rd_T37 y146 x14_1).f3), .int .i64 8] (by rfl) rfl rfl (by (try simp only [List.map_toArray, List.map_cons, List.map_nil]); first | done | rfl | (simp only [List.length_drop, List.length_take]; rfl)) ?_
       with_reducible refine (tautochronelaw13_rest.calls ((rd_T37 y146 x14_1).f3) 8 t158 _ A12.out).mono ?_
       rintro e w' ⟨rfl, ⟨nd, rfl⟩⟩
       refine ⟨_, rfl, ?_⟩
       refine hK.out _ _ ⟨(blk_cell BK154.out 0).trans rfl, (blk_cell BK154.out 1).trans rfl, (blk_cell BK154.out 2).trans rfl, (blk_cell BK154.out 3).trans rfl, (blk_cell BK154.out 4).trans rfl, (blk_cell BK154.out 5).trans rfl, (blk_cell BK154.out 6).trans rfl, (blk_cell BK154.out 7).trans rfl⟩ (fun hHeld => ?_)
       clear hK K
       refine norm_ (a' := ?_) ?_ ?_
       rotate_left
       ·show Act.put _ (some 31) _ = _
        simp only [Act.put, List.setIfInBounds_toArray, List.set_cons_zero, List.set_cons_succ, i64_w, i32_w]
        rfl
       refine one_ (i := 8) (N := some 34) #[true, true, true, true, true, true, true, true, true, true, true, false, true, false, false, false, false, false, false, false] rfl rfl (one_of HT_.out (by kernel_rfl)) (by decide) (fun K hK => ?_)
       refine goes_ Tryd.func50 (by kernel_rfl) rfl #[.int .i64 ((rd_T37 y146 x14_1).f4), .int .i64 8] (by rfl) rfl rfl (by (try simp only [List.map_toArray, List.map_cons, List.map_nil]); first | done | rfl | (simp only [List.length_drop, List.length_take]; rfl)) ?_
       with_reducible refine (tautochronelaw13_rest.calls ((rd_T37 y146 x14_1).f4) 8 t159 _ A13.out).mono ?_
       rintro e w' ⟨rfl, ⟨nd, rfl⟩⟩
       refine ⟨_, rfl, ?_⟩
       refine hK.out _ _ ⟨(blk_cell BK154.out 0).trans rfl, (blk_cell BK154.out 1).trans rfl, (blk_cell BK154.out 2).trans rfl, (blk_cell BK154.out 3).trans rfl, (blk_cell BK154.out 4).trans rfl, (blk_cell BK154.out 5).trans rfl, (blk_cell BK154.out 6).trans rfl, (blk_cell BK154.out 7).trans rfl⟩ (fun hHeld => ?_)
       clear hK K
       refine norm_ (a' := ?_) ?_ ?_
       rotate_left
       ·show Act.put _ (some 34) _ = _
        simp only [Act.put, List.setIfInBounds_toArray, List.set_cons_zero, List.set_cons_succ, i64_w, i32_w]
        rfl
       refine one_ (i := 11) (N := some 37) #[true, true, true, true, true, true, true, true, true, true, true, true, true, false, false, false, false, false, false, false] rfl rfl (one_of HT_.out (by kernel_rfl)) (by decide) (fun K hK => ?_)
       refine goes_ Tryd.func50 (by kernel_rfl) rfl #[.int .i64 ((rd_T37 y146 x14_1).f5), .int .i64 8] (by rfl) rfl rfl (by (try simp only [List.map_toArray, List.map_cons, List.map_nil]); first | done | rfl | (simp only [List.length_drop, List.length_take]; rfl)) ?_
       with_reducible refine (tautochronelaw13_rest.calls ((rd_T37 y146 x14_1).f5) 8 t160 _ A14.out).mono ?_
       rintro e w' ⟨rfl, ⟨nd, rfl⟩⟩
       refine ⟨_, rfl, ?_⟩
       refine hK.out _ _ ⟨(blk_cell BK154.out 0).trans rfl, (blk_cell BK154.out 1).trans rfl, (blk_cell BK154.out 2).trans rfl, (blk_cell BK154.out 3).trans rfl, (blk_cell BK154.out 4).trans rfl, (blk_cell BK154.out 5).trans rfl, (blk_cell BK154.out 6).trans rfl, (blk_cell BK154.out 7).trans rfl⟩ (fun hHeld => ?_)
       clear hK K
       refine norm_ (a' := ?_) ?_ ?_
       rotate_left
       ·show Act.put _ (some 37) _ = _
        simp only [Act.put, List.setIfInBounds_toArray, List.set_cons_zero, List.set_cons_succ, i64_w, i32_w]
        rfl
       refine last_ (i := 13) (N := none) #[true, true, true, true, true, true, true, true, true, true, true, true, true, true, false, false, false, false, false, false] rfl rfl (one_of HT_.out (by kernel_rfl)) (by decide) (fun K hK => ?_)
       have hs23 : w22.cell? ⟨gb154, 2, none⟩ = some (.int .i64 ((rd_T37 y146 x14_1).f2)) := (blk_cell BK154.out 2).trans rfl
       have hfs23 := blk_frozen BK154.out 2
       refine skip_ (w1 := ?_) (by rfl) rfl ?_ ?_
       rotate_left
       ·go_simp
        rfl
       refine hK.out _ _ ?_
       clear hK K
       refine pure_ (i := 14) (N := some 39) (v := ?_) (a' := ?_) #[true, true, true, true, true, true, true, true, true, true, true, true, true, true, true, false, false, false, false, false] rfl rfl (any_of HT_.out (by kernel_rfl)) (fun _ _ _ h => h) (Or.inl ⟨by rfl, ?_⟩) ?_ ?_
       rotate_left
       ·intro w'
        go_simp
        with_reducible rfl
       rotate_left
       ·simp only [Act.put, List.setIfInBounds_toArray, List.set_cons_zero, List.set_cons_succ, i64_w, i32_w]
        rfl
       refine last_ (i := 15) (N := none) #[true, true, true, true, true, true, true, true, true, true, true, true, true, true, true, true, false, false, false, false] rfl rfl (one_of HT_.out (by kernel_rfl)) (by decide) (fun K hK => ?_)
       have hs24 : w22.cell? ⟨gb154, 3, none⟩ = some (.int .i64 ((rd_T37 y146 x14_1).f3)) := (blk_cell BK154.out 3).trans rfl
       have hfs24 := blk_frozen BK154.out 3
       refine skip_ (w1 := ?_) (by rfl) rfl ?_ ?_
       rotate_left
       ·go_simp
        rfl
       refine hK.out _ _ ?_
       clear hK K
       refine pure_ (i := 16) (N := some 40) (v := ?_) (a' := ?_) #[true, true, true, true, true, true, true, true, true, true, true, true, true, true, true, true, true, false, false, false] rfl rfl (any_of HT_.out (by kernel_rfl)) (fun _ _ _ h => h) (Or.inl ⟨by rfl, ?_⟩) ?_ ?_
       rotate_left
       ·intro w'
        go_simp
        with_reducible rfl
       rotate_left
       ·simp only [Act.put, List.setIfInBounds_toArray, List.set_cons_zero, List.set_cons_succ, i64_w, i32_w]
        rfl
       refine last_ (i := 17) (N := none) #[true, true, true, true, true, true, true, true, true, true, true, true, true, true, true, true, true, true, false, false] rfl rfl (one_of HT_.out (by kernel_rfl)) (by decide) (fun K hK => ?_)
       have hs25 : w22.cell? ⟨gb154, 4, none⟩ = some (.int .i64 ((rd_T37 y146 x14_1).f4)) := (blk_cell BK154.out 4).trans rfl
       have hfs25 := blk_frozen BK154.out 4
       refine skip_ (w1 := ?_) (by rfl) rfl ?_ ?_
       rotate_left
       ·go_simp
        rfl
       refine hK.out _ _ ?_
       clear hK K
       refine pure_ (i := 18) (N := some 41) (v := ?_) (a' := ?_) #[true, true, true, true, true, true, true, true, true, true, true, true, true, true, true, true, true, true, true, false] rfl rfl (any_of HT_.out (by kernel_rfl)) (fun _ _ _ h => h) (Or.inl ⟨by rfl, ?_⟩) ?_ ?_
       rotate_left
       ·intro w'
        go_simp
        with_reducible rfl
       rotate_left
       ·simp only [Act.put, List.setIfInBounds_toArray, List.set_cons_zero, List.set_cons_succ, i64_w, i32_w]
        rfl
       refine last_ (i := 19) (N := none) #[true, true, true, true, true, true, true, true, true, true, true, true, true, true, true, true, true, true, true, true] rfl rfl (one_of HT_.out (by kernel_rfl)) (by decide) (fun K hK => ?_)
       have hs26 : w22.cell? ⟨gb154, 5, none⟩ = some (.int .i64 ((rd_T37 y146 x14_1).f5)) := (blk_cell BK154.out 5).trans rfl
       have hfs26 := blk_frozen BK154.out 5
       refine skip_ (w1 := ?_) (by rfl) rfl ?_ ?_
       rotate_left
       ·go_simp
        rfl
       refine hK.out _ _ ?_
       clear hK K
       refine done_ (done_of HT_.out (by kernel_rfl)) ?_
       have hcz27_0 : w22.cell? ⟨gb154, 0, none⟩ = some (.int .i64 t155) := (blk_cell BK154.out 0).trans rfl
       have hcz27_1 : w22.cell? ⟨gb154, 1, none⟩ = some (.int .i64 t156) := (blk_cell BK154.out 1).trans rfl
       have hcz27_2 : w22.cell? ⟨gb154, 2, none⟩ = some (.int .i64 ((rd_T37 y146 x14_1).f2)) := (blk_cell BK154.out 2).trans rfl
       have hcz27_3 : w22.cell? ⟨gb154, 3, none⟩ = some (.int .i64 ((rd_T37 y146 x14_1).f3)) := (blk_cell BK154.out 3).trans rfl
       have hcz27_4 : w22.cell? ⟨gb154, 4, none⟩ = some (.int .i64 ((rd_T37 y146 x14_1).f4)) := (blk_cell BK154.out 4).trans rfl
       have hcz27_5 : w22.cell? ⟨gb154, 5, none⟩ = some (.int .i64 ((rd_T37 y146 x14_1).f5)) := (blk_cell BK154.out 5).trans rfl
       have hcz27_6 : w22.cell? ⟨gb154, 6, none⟩ = some (.int .u64 ((rd_T37 y146 x14_1).f6)) := (blk_cell BK154.out 6).trans rfl
       have hcz27_7 : w22.cell? ⟨gb154, 7, none⟩ = some (.int .i64 ((rd_T37 y146 x14_1).f7)) := (blk_cell BK154.out 7).trans rfl
       have hfz27_0 := blk_frozen BK154.out 0
       have hfz27_1 := blk_frozen BK154.out 1
       have hfz27_2 := blk_frozen BK154.out 2
       have hfz27_3 := blk_frozen BK154.out 3
       have hfz27_4 := blk_frozen BK154.out 4
       have hfz27_5 := blk_frozen BK154.out 5
       have hfz27_6 := blk_frozen BK154.out 6
       have hfz27_7 := blk_frozen BK154.out 7
       try go_wp2
       have n0_ : Aside0 (Kd.R k37 37 (((((w22.setCell ⟨gb154, 2, none⟩ (.int .i64 t157)).setCell ⟨gb154, 3, none⟩ (.int .i64 t158)).setCell ⟨gb154, 4, none⟩ (.int .i64 t159)).setCell ⟨gb154, 5, none⟩ (.int .i64 t160)).setCell ⟨gb154, 3, none⟩ (.int .i64 (-1))) w.heap.size (fun k_ => k_ ≠ gb154) u3 x3_1) := ⟨by (with_reducible repeat (first | apply Kd.R_alloc | apply Kd.R_drewN | apply Kd.R_drew)); exact Kd.R_mono (Kd.R_far (p := ⟨gb154, 3, none⟩) (Kd.R_far (p := ⟨gb154, 5, none⟩) (Kd.R_far (p := ⟨gb154, 4, none⟩) (Kd.R_far (p := ⟨gb154, 3, none⟩) (Kd.R_far (p := ⟨gb154, 2, none⟩) (Kd.R_mono HO_3.out (fun k_ hk => (⟨hk, hk⟩ : _ ∧ k_ ≠ gb154))) (fun _ hk => hk.2) (.int .i64 t157)) (fun _ hk => hk.2) (.int .i64 t158)) (fun _ hk => hk.2) (.int .i64 t159)) (fun _ hk => hk.2) (.int .i64 t160)) (fun _ hk => hk.2) (.int .i64 (-1))) (fun _ hk => hk.1)⟩
       have n1_ : Aside0 ((((((w22.setCell ⟨gb154, 2, none⟩ (.int .i64 t157)).setCell ⟨gb154, 3, none⟩ (.int .i64 t158)).setCell ⟨gb154, 4, none⟩ (.int .i64 t159)).setCell ⟨gb154, 5, none⟩ (.int .i64 t160)).setCell ⟨gb154, 3, none⟩ (.int .i64 (-1))).heap[gb154]? = some (.cells #[.int .i64 t155, .int .i64 t156, .int .i64 t157, .int .i64 (-1), .int .i64 t159, .int .i64 t160, .int .u64 ((rd_T37 y146 x14_1).f6), .int .i64 ((rd_T37 y146 x14_1).f7)] 37 (0, 0))) := ⟨by (with_reducible repeat (first | refine blk_drewN ?_ _ | refine blk_drew ?_ | refine blk_alloc ?_ _)); refine blk_put (cs := #[.int .i64 t155, .int .i64 t156, .int .i64 t157, .int .i64 t158, .int .i64 t159, .int .i64 t160, .int .u64 ((rd_T37 y146 x14_1).f6), .int .i64 ((rd_T37 y146 x14_1).f7)]) ?_ 3 _ rfl; refine blk_put (cs := #[.int .i64 t155, .int .i64 t156, .int .i64 t157, .int .i64 t158, .int .i64 t159, .int .i64 ((rd_T37 y146 x14_1).f5), .int .u64 ((rd_T37 y146 x14_1).f6), .int .i64 ((rd_T37 y146 x14_1).f7)]) ?_ 5 _ rfl; refine blk_put (cs := #[.int .i64 t155, .int .i64 t156, .int .i64 t157, .int .i64 t158, .int .i64 ((rd_T37 y146 x14_1).f4), .int .i64 ((rd_T37 y146 x14_1).f5), .int .u64 ((rd_T37 y146 x14_1).f6), .int .i64 ((rd_T37 y146 x14_1).f7)]) ?_ 4 _ rfl; refine blk_put (cs := #[.int .i64 t155, .int .i64 t156, .int .i64 t157, .int .i64 ((rd_T37 y146 x14_1).f3), .int .i64 ((rd_T37 y146 x14_1).f4), .int .i64 ((rd_T37 y146 x14_1).f5), .int .u64 ((rd_T37 y146 x14_1).f6), .int .i64 ((rd_T37 y146 x14_1).f7)]) ?_ 3 _ rfl; refine blk_put (cs := #[.int .i64 t155, .int .i64 t156, .int .i64 ((rd_T37 y146 x14_1).f2), .int .i64 ((rd_T37 y146 x14_1).f3), .int .i64 ((rd_T37 y146 x14_1).f4), .int .i64 ((rd_T37 y146 x14_1).f5), .int .u64 ((rd_T37 y146 x14_1).f6), .int .i64 ((rd_T37 y146 x14_1).f7)]) ?_ 2 _ rfl; (with_reducible repeat (first | refine blk_drewN ?_ _ | refine blk_drew ?_ | refine blk_alloc ?_ _)); exact BK154.out⟩
       have n2_ : Aside0 (Below w.heap.size w (((((w22.setCell ⟨gb154, 2, none⟩ (.int .i64 t157)).setCell ⟨gb154, 3, none⟩ (.int .i64 t158)).setCell ⟨gb154, 4, none⟩ (.int .i64 t159)).setCell ⟨gb154, 5, none⟩ (.int .i64 t160)).setCell ⟨gb154, 3, none⟩ (.int .i64 (-1)))) := ⟨by repeat (first | (with_reducible first | exact HB.out | apply below_alloc | apply pw_below_drewN | apply below_drew1 | refine below_set ?_ GE154.out) | exact HB.out)⟩
       (try clear HO_3)
       (try clear BK154)
       (try clear HB)
       generalize (((((w22.setCell ⟨gb154, 2, none⟩ (.int .i64 t157)).setCell ⟨gb154, 3, none⟩ (.int .i64 t158)).setCell ⟨gb154, 4, none⟩ (.int .i64 t159)).setCell ⟨gb154, 5, none⟩ (.int .i64 t160)).setCell ⟨gb154, 3, none⟩ (.int .i64 (-1))) = w28 at n0_ n1_ n2_ ⊢
       have HO_3 := n0_
       have BK154 := n1_
       have HB := n2_
       clear n0_ n1_ n2_
       (try (rw [drewN_self w28]; generalize hq_ : World.drewN w28 _ = w28; have n0_ : Aside0 (Kd.R k37 37 w28 w.heap.size (fun k_ => k_ ≠ gb154) u3 x3_1) := ⟨by rw [← hq_]; exact (by (with_reducible repeat (first | apply Kd.R_alloc | apply Kd.R_drewN | apply Kd.R_drew)); exact HO_3.out)⟩; have n1_ : Aside0 (w28.heap[gb154]? = some (.cells #[.int .i64 t155, .int .i64 t156, .int .i64 t157, .int .i64 (-1), .int .i64 t159, .int .i64 t160, .int .u64 ((rd_T37 y146 x14_1).f6), .int .i64 ((rd_T37 y146 x14_1).f7)] 37 (0, 0))) := ⟨by rw [← hq_]; exact (by (with_reducible repeat (first | refine blk_drewN ?_ _ | refine blk_drew ?_ | refine blk_alloc ?_ _)); exact BK154.out)⟩; have n2_ : Aside0 (Below w.heap.size w w28) := ⟨by rw [← hq_]; exact (by repeat (first | (with_reducible first | exact HB.out | apply below_alloc | apply pw_below_drewN | apply below_drew1 | refine below_set ?_ GE154.out) | exact HB.out))⟩; clear HO_3 BK154 HB hq_; have HO_3 := n0_; have BK154 := n1_; have HB := n2_; clear n0_ n1_ n2_))
       have n0_ := Aside0.mk (Kd.R_drew HO_3.out)
       have n1_ := Aside0.mk (blk_drew BK154.out)
       have n2_ := Aside0.mk (below_drew1 HB.out)
       clear HO_3
       clear BK154
       clear HB
       have HO_3 := n0_
       have BK154 := n1_
       have HB := n2_
       clear n0_ n1_ n2_
       refine start_ (n := 12) (S := fun w' => w'.cell? ⟨gb154, 0, none⟩ = some (.int .i64 t155) ∧ w'.cell? ⟨gb154, 1, none⟩ = some (.int .i64 t156) ∧ w'.cell? ⟨gb154, 2, none⟩ = some (.int .i64 t157) ∧ w'.cell? ⟨gb154, 3, none⟩ = some (.int .i64 (-1)) ∧ w'.cell? ⟨gb154, 4, none⟩ = some (.int .i64 t159) ∧ w'.cell? ⟨gb154, 5, none⟩ = some (.int .i64 t160) ∧ w'.cell? ⟨gb154, 6, none⟩ = some (.int .u64 ((rd_T37 y146 x14_1).f6)) ∧ w'.cell? ⟨gb154, 7, none⟩ = some (.int .i64 ((rd_T37 y146 x14_1).f7))) (ds := [9, 11]) #[false, false, false, false, false, false, false, false, false, false, false, false] (by kernel_rfl) rfl rfl ⟨(blk_cell BK154.out 0).trans rfl, (blk_cell BK154.out 1).trans rfl, (blk_cell BK154.out 2).trans rfl, (blk_cell BK154.out 3).trans rfl, (blk_cell BK154.out 4).trans rfl, (blk_cell BK154.out 5).trans rfl, (blk_cell BK154.out 6).trans rfl, (blk_cell BK154.out 7).trans rfl⟩ (fun hHeld => ?_); refine with_tabW tautochronelaw13_Small.tab11 tautochronelaw13_Small.bits11 (fun HT_ HW_ => ?_)
       generalize w28.drew = w29 at HO_3 BK154 HB hHeld ⊢
       refine pure_ (i := 0) (N := some 57) (v := ?_) (a' := ?_) #[true, false, false, false, false, false, false, false, false, false, false, false] rfl rfl (any_of HT_.out (by kernel_rfl)) (fun _ _ _ h => h) (Or.inl ⟨by rfl, ?_⟩) ?_ ?_
       rotate_left
       ·intro w'
        go_simp
        with_reducible rfl
       rotate_left
       ·simp only [Act.put, List.setIfInBounds_toArray, List.set_cons_zero, List.set_cons_succ, i64_w, i32_w]
        rfl
       refine pure_ (i := 3) (N := some 60) (v := ?_) (a' := ?_) #[true, false, false, true, false, false, false, false, false, false, false, false] rfl rfl (any_of HT_.out (by kernel_rfl)) (fun _ _ _ h => h) (Or.inl ⟨by rfl, ?_⟩) ?_ ?_
       rotate_left
       ·intro w'
        go_simp
        with_reducible rfl
       rotate_left
       ·simp only [Act.put, List.setIfInBounds_toArray, List.set_cons_zero, List.set_cons_succ, i64_w, i32_w]
        rfl
       refine pure_ (i := 5) (N := some 62) (v := ?_) (a' := ?_) #[true, false, false, true, false, true, false, false, false, false, false, false] rfl rfl (any_of HT_.out (by kernel_rfl)) (fun _ _ _ h => h) (Or.inl ⟨by rfl, ?_⟩) ?_ ?_
       rotate_left
       ·intro w'
        go_simp
        with_reducible rfl
       rotate_left
       ·simp only [Act.put, List.setIfInBounds_toArray, List.set_cons_zero, List.set_cons_succ, i64_w, i32_w]
        rfl
       refine pure_ (i := 6) (N := some 63) (v := ?_) (a' := ?_) #[true, false, false, true, false, true, true, false, false, false, false, false] rfl rfl (any_of HT_.out (by kernel_rfl)) (fun _ _ _ h => h) (Or.inl ⟨by rfl, ?_⟩) ?_ ?_
       rotate_left
       ·intro w'
        go_simp
        with_reducible rfl
       rotate_left
       ·simp only [Act.put, List.setIfInBounds_toArray, List.set_cons_zero, List.set_cons_succ, i64_w, i32_w]
        rfl
       refine take_ (i := 1) (N := some 58) (v := ?_) (a' := ?_) #[true, true, false, true, false, true, true, false, false, false, false, false] rfl rfl (take_ofW HT_.out HW_.out (by kernel_rfl)) (fun _ _ _ h => h) (Or.inl ⟨by rfl, ?_⟩) hHeld ?_ ?_
       rotate_left
       ·rintro w' ⟨s0, s1, s2, s3, s4, s5, s6, s7⟩
        go_simp
        with_reducible rfl
       rotate_left
       ·simp only [Act.put, List.setIfInBounds_toArray, List.set_cons_zero, List.set_cons_succ, i64_w, i32_w]
        rfl
       refine pure_ (i := 2) (N := some 59) (v := ?_) (a' := ?_) #[true, true, true, true, false, true, true, false, false, false, false, false] rfl rfl (any_of HT_.out (by kernel_rfl)) (fun _ _ _ h => h) (Or.inl ⟨by rfl, ?_⟩) ?_ ?_
       rotate_left
       ·intro w'
        go_simp
        with_reducible rfl
       rotate_left
       ·simp only [Act.put, List.setIfInBounds_toArray, List.set_cons_zero, List.set_cons_succ, i64_w, i32_w]
        rfl
       refine take_ (i := 4) (N := some 61) (v := ?_) (a' := ?_) #[true, true, true, true, true, true, true, false, false, false, false, false] rfl rfl (take_ofW HT_.out HW_.out (by kernel_rfl)) (fun _ _ _ h => h) (Or.inl ⟨by rfl, ?_⟩) hHeld ?_ ?_
       rotate_left
       ·rintro w' ⟨s0, s1, s2, s3, s4, s5, s6, s7⟩
        go_simp
        with_reducible rfl
       rotate_left
       ·simp only [Act.put, List.setIfInBounds_toArray, List.set_cons_zero, List.set_cons_succ, i64_w, i32_w]
        rfl
       refine pure_ (i := 8) (N := some 65) (v := ?_) (a' := ?_) #[true, true, true, true, true, true, true, false, true, false, false, false] rfl rfl (any_of HT_.out (by kernel_rfl)) (fun _ _ _ h => h) (Or.inl ⟨by rfl, ?_⟩) ?_ ?_
       rotate_left
       ·intro w'
        go_simp
        with_reducible rfl
       rotate_left
       ·simp only [Act.put, List.setIfInBounds_toArray, List.set_cons_zero, List.set_cons_succ, i64_w, i32_w]
        rfl
       refine one_ (i := 7) (N := some 64) #[true, true, true, true, true, true, true, true, true, false, false, false] rfl rfl (one_of HT_.out (by kernel_rfl)) (by decide) (fun K hK => ?_)
       refine goes_ Tryd.func50 (by kernel_rfl) rfl #[.int .i64 ((rd_T37 y146 x14_1).f7), .int .i64 (wrap64 (ji2 + 1))] (by rfl) rfl rfl (by (try simp only [List.map_toArray, List.map_cons, List.map_nil]); first | done | (simp only [hji2]; rfl) | rfl | (simp only [List.length_drop, List.length_take]; rfl)) ?_
       with_reducible refine (tautochronelaw13_rest.calls ((rd_T37 y146 x14_1).f7) (wrap64 (ji2 + 1)) t161 _ A17.out).mono ?_
       rintro e w' ⟨rfl, ⟨nd, rfl⟩⟩
       refine ⟨_, rfl, ?_⟩
       refine hK.out _ _ ⟨(blk_cell BK154.out 0).trans rfl, (blk_cell BK154.out 1).trans rfl, (blk_cell BK154.out 2).trans rfl, (blk_cell BK154.out 3).trans rfl, (blk_cell BK154.out 4).trans rfl, (blk_cell BK154.out 5).trans rfl, (blk_cell BK154.out 6).trans rfl, (blk_cell BK154.out 7).trans rfl⟩ (fun hHeld => ?_)
       clear hK K
       refine norm_ (a' := ?_) ?_ ?_
       rotate_left
       ·show Act.put _ (some 64) _ = _
        simp only [Act.put, List.setIfInBounds_toArray, List.set_cons_zero, List.set_cons_succ, i64_w, i32_w]
        rfl
       refine last_ (i := 9) (N := none) #[true, true, true, true, true, true, true, true, true, true, false, false] rfl rfl (one_of HT_.out (by kernel_rfl)) (by decide) (fun K hK => ?_)
       have hs30 : w29.cell? ⟨gb154, 6, none⟩ = some (.int .u64 ((rd_T37 y146 x14_1).f6)) := (blk_cell BK154.out 6).trans rfl
       have hfs30 := blk_frozen BK154.out 6
       refine skip_ (w1 := ?_) (by rfl) rfl ?_ ?_
       rotate_left
       ·go_simp
        rfl
       refine hK.out _ _ ?_
       clear hK K
       refine pure_ (i := 10) (N := some 66) (v := ?_) (a' := ?_) #[true, true, true, true, true, true, true, true, true, true, true, false] rfl rfl (any_of HT_.out (by kernel_rfl)) (fun _ _ _ h => h) (Or.inl ⟨by rfl, ?_⟩) ?_ ?_
       rotate_left
       ·intro w'
        go_simp
        with_reducible rfl
       rotate_left
       ·simp only [Act.put, List.setIfInBounds_toArray, List.set_cons_zero, List.set_cons_succ, i64_w, i32_w]
        rfl
       refine last_ (i := 11) (N := none) #[true, true, true, true, true, true, true, true, true, true, true, true] rfl rfl (one_of HT_.out (by kernel_rfl)) (by decide) (fun K hK => ?_)
       have hs31 : w29.cell? ⟨gb154, 7, none⟩ = some (.int .i64 ((rd_T37 y146 x14_1).f7)) := (blk_cell BK154.out 7).trans rfl
       have hfs31 := blk_frozen BK154.out 7
       refine skip_ (w1 := ?_) (by rfl) rfl ?_ ?_
       rotate_left
       ·go_simp
        rfl
       refine hK.out _ _ ?_
       clear hK K
       refine done_ (done_of HT_.out (by kernel_rfl)) ?_
       have hcz32_0 : w29.cell? ⟨gb154, 0, none⟩ = some (.int .i64 t155) := (blk_cell BK154.out 0).trans rfl
       have hcz32_1 : w29.cell? ⟨gb154, 1, none⟩ = some (.int .i64 t156) := (blk_cell BK154.out 1).trans rfl
       have hcz32_2 : w29.cell? ⟨gb154, 2, none⟩ = some (.int .i64 t157) := (blk_cell BK154.out 2).trans rfl
       have hcz32_3 : w29.cell? ⟨gb154, 3, none⟩ = some (.int .i64 (-1)) := (blk_cell BK154.out 3).trans rfl
       have hcz32_4 : w29.cell? ⟨gb154, 4, none⟩ = some (.int .i64 t159) := (blk_cell BK154.out 4).trans rfl
       have hcz32_5 : w29.cell? ⟨gb154, 5, none⟩ = some (.int .i64 t160) := (blk_cell BK154.out 5).trans rfl
       have hcz32_6 : w29.cell? ⟨gb154, 6, none⟩ = some (.int .u64 ((rd_T37 y146 x14_1).f6)) := (blk_cell BK154.out 6).trans rfl
       have hcz32_7 : w29.cell? ⟨gb154, 7, none⟩ = some (.int .i64 ((rd_T37 y146 x14_1).f7)) := (blk_cell BK154.out 7).trans rfl
       have hfz32_0 := blk_frozen BK154.out 0
       have hfz32_1 := blk_frozen BK154.out 1
       have hfz32_2 := blk_frozen BK154.out 2
       have hfz32_3 := blk_frozen BK154.out 3
       have hfz32_4 := blk_frozen BK154.out 4
       have hfz32_5 := blk_frozen BK154.out 5
       have hfz32_6 := blk_frozen BK154.out 6
       have hfz32_7 := blk_frozen BK154.out 7
       try go_wp2_with (first | ((with_reducible refine gate_builtin (b := .append) (xs := #[.tmp 67, .tmp 69]) rfl ?_); at_builtin; refine Kd.R_append k37 (w0 := w) w.heap.size rfl (.tmp 67) (.tmp 69) 22 37 (.agg #[(.int .i64 0), (.int .i64 0), (.int .i64 0), (.int .i64 0), (.int .i64 0), (.int .i64 0), (.int .u64 0), (.int .i64 0)]) 64 rfl Tryd.underlying22 info37 rfl (by decide) (by omega) u3 x3_1 (⟨t155, t156, t157, (-1), t159, t160, Int.tmod ((rd_T37 y146 x14_1).f6) 8, t161⟩ : S37) [.int .i64 t155, .int .i64 t156, .int .i64 t157, .int .i64 (-1), .int .i64 t159, .int .i64 t160, .int .u64 (Int.tmod ((rd_T37 y146 x14_1).f6) 8), .int .i64 t161] (fun k_ => k_ ≠ gb154) (fun _ => False) rfl (by first | (go_simp; done) | (go_simp; rfl)) ?aP (fun _ hk => hk.elim) ?aF ?aO ?aB ?aS ?aL ?_; (case aP => exact k37_mkM _ _ _ (⟨t155, t156, t157, (-1), t159, t160, Int.tmod ((rd_T37 y146 x14_1).f6) 8, t161⟩ : S37)); (case aB => exact (by repeat (first | (with_reducible first | exact HB.out | apply below_alloc | apply pw_below_drewN | apply below_drew1 | refine below_set ?_ GE154.out) | exact HB.out))); (case aF => exact (fun k_ hk => Kd.freshB (g := gb154) (o := .cells #[.int .i64 t155, .int .i64 t156, .int .i64 t157, .int .i64 (-1), .int .i64 t159, .int .i64 t160, .int .u64 (Int.tmod ((rd_T37 y146 x14_1).f6) 8), .int .i64 t161] 37 (0, 0)) (by (with_reducible repeat (first | refine blk_drewN ?_ _ | refine blk_drew ?_ | refine blk_alloc ?_ _)); refine blk_put (cs := #[.int .i64 t155, .int .i64 t156, .int .i64 t157, .int .i64 (-1), .int .i64 t159, .int .i64 t160, .int .u64 (Int.tmod ((rd_T37 y146 x14_1).f6) 8), .int .i64 ((rd_T37 y146 x14_1).f7)]) ?_ 7 _ rfl; refine blk_put (cs := #[.int .i64 t155, .int .i64 t156, .int .i64 t157, .int .i64 (-1), .int .i64 t159, .int .i64 t160, .int .u64 ((rd_T37 y146 x14_1).f6), .int .i64 ((rd_T37 y146 x14_1).f7)]) ?_ 6 _ rfl; (with_reducible repeat (first | refine blk_drewN ?_ _ | refine blk_drew ?_ | refine blk_alloc ?_ _)); exact BK154.out) k_ hk)); (case aO => exact (by (with_reducible repeat (first | apply Kd.R_alloc | apply Kd.R_drewN | apply Kd.R_drew)); exact Kd.R_mono (Kd.R_far (p := ⟨gb154, 7, none⟩) (Kd.R_far (p := ⟨gb154, 6, none⟩) (Kd.R_mono HO_3.out (fun k_ hk => (⟨hk, hk⟩ : _ ∧ k_ ≠ gb154))) (fun _ hk => hk.2) (.int .u64 (Int.tmod ((rd_T37 y146 x14_1).f6) 8))) (fun _ hk => hk.2) (.int .i64 t161)) (fun _ hk => hk.1))); (case aS => exact (below_size (by repeat (first | (with_reducible first | exact HB.out | apply below_alloc | apply pw_below_drewN | apply below_drew1 | refine below_set ?_ GE154.out) | exact HB.out)))); (case aL => have := LMc18.out; omega); intro v163 w33 ho hb hg hat; rw [← Ny162.out] at ho; have n0_ := Aside0.mk (blk_grown (g := gb154) (o := .cells #[.int .i64 t155, .int .i64 t156, .int .i64 t157, .int .i64 (-1), .int .i64 t159, .int .i64 t160, .int .u64 (Int.tmod ((rd_T37 y146 x14_1).f6) 8), .int .i64 t161] 37 (0, 0)) (by (with_reducible repeat (first | refine blk_drewN ?_ _ | refine blk_drew ?_ | refine blk_alloc ?_ _)); refine blk_put (cs := #[.int .i64 t155, .int .i64 t156, .int .i64 t157, .int .i64 (-1), .int .i64 t159, .int .i64 t160, .int .u64 (Int.tmod ((rd_T37 y146 x14_1).f6) 8), .int .i64 ((rd_T37 y146 x14_1).f7)]) ?_ 7 _ rfl; refine blk_put (cs := #[.int .i64 t155, .int .i64 t156, .int .i64 t157, .int .i64 (-1), .int .i64 t159, .int .i64 t160, .int .u64 ((rd_T37 y146 x14_1).f6), .int .i64 ((rd_T37 y146 x14_1).f7)]) ?_ 6 _ rfl; (with_reducible repeat (first | refine blk_drewN ?_ _ | refine blk_drew ?_ | refine blk_alloc ?_ _)); exact BK154.out) hg (Kd.R_away HO_3.out (fun _ hk => hk))); have n1_ := Aside0.mk (hb); have n2_ := Aside0.mk (ho); clear BK154; clear HB; clear HO_3; have BK154 := n0_; have HB := n1_; have HO164 := n2_; clear n0_ n1_ n2_; clear ho hb hg hat))
       go_roundg k1
       case measure => have := HK1.out; omega
       case rel => exact ⟨(y162), (wrap64 (x14_1 + 1)), (by first | rfl | (simp; done) | (simp [*]; done)), H', ⟨by have := HK1.out; omega⟩, ⟨by (with_reducible repeat (first | apply Kd.R_alloc | apply Kd.R_drewN | apply Kd.R_drew)); exact Kd.R_mono HO164.out (fun _ hk => trivial)⟩, ⟨by repeat (first | (with_reducible first | exact HB.out | apply below_alloc | apply pw_below_drewN | apply below_drew1 | refine below_set ?_ GE154.out) | exact HB.out)⟩⟩
      ·rw [if_neg c16] at H
       have c16b0 : (t155 == 4) = false := beq_eq_false_iff_ne.mpr c16
       have c16b1 : (t155 != 4) = true := bne_iff_ne.mpr c16
       by_cases c34 : t155 = 5
       ·rw [if_pos c34] at H
        have c34b0 : (t155 == 5) = true := beq_iff_eq.mpr c34
        have c34b1 : (t155 != 5) = false := bne_eq_false_iff_eq.mpr c34
        clear c34
        replace H := Option.bind_eq_some_iff.mp H
        obtain ⟨t165, A350, H⟩ := H
        replace H : (if x3_1.length < 2199023255552 then (tautochronelaw13_Small.l0 k1 (x3_1 ++ [(⟨t155, t156, t157, (-1), t159, t160, Int.tmod ((rd_T37 y146 x14_1).f6) 8, t165⟩ : S37)]) ji2 y146 (y146.length : Int) (wrap64 (x14_1 + 1))) else (none)) = some r := H
        have A35 := Aside0.mk A350
        clear A350
        by_cases c36 : x3_1.length < 2199023255552
        rotate_left
        ·rw [if_neg c36] at H; exact absurd H (by simp)
        rw [if_pos c36] at H
        have LMc36 := Aside0.mk c36
        clear c36
        obtain ⟨y166, hy166⟩ : ∃ y_ : List (S37), y_ = (x3_1 ++ [(⟨t155, t156, t157, (-1), t159, t160, Int.tmod ((rd_T37 y146 x14_1).f6) 8, t165⟩ : S37)]) := ⟨_, rfl⟩
        replace H : (tautochronelaw13_Small.l0 k1 y166 ji2 y146 (y146.length : Int) (wrap64 (x14_1 + 1))) = some r := by first | (rw [hy166]; with_reducible exact H) | (have H2_ := (Option.bind_some _ _).symm.trans H; rw [hy166]; with_reducible exact H2_) | (have H2_ := (Option.bind_some _ _).symm.trans H; with_reducible exact H2_) | with_reducible exact H | (rw [hy166]; exact H) | exact H
        have Ny166 := Aside0.mk hy166
        clear hy166
        have H' := Aside0.mk H
        clear H
        have p153 : 0 ≤ (x14_1 : Int) := of_decide_eq_true (by first | (with_reducible assumption) | assumption)
        have q153 : x14_1 < (y146.length : Int) := of_decide_eq_true (by first | (with_reducible assumption) | assumption)
        obtain ⟨ad153, e153, hx153_0, hx153_1, hx153_2, hx153_3, hx153_4, hx153_5, hx153_6, hx153_7⟩ := at_T37 HR149.out x14_1 p153 q153
        cases e153
        replace hx153_0 := (HB.out.cell (World.block_lt_of_cell? w _ hx153_0)).trans hx153_0
        replace hx153_1 := (HB.out.cell (World.block_lt_of_cell? w _ hx153_1)).trans hx153_1
        replace hx153_2 := (HB.out.cell (World.block_lt_of_cell? w _ hx153_2)).trans hx153_2
        replace hx153_3 := (HB.out.cell (World.block_lt_of_cell? w _ hx153_3)).trans hx153_3
        replace hx153_4 := (HB.out.cell (World.block_lt_of_cell? w _ hx153_4)).trans hx153_4
        replace hx153_5 := (HB.out.cell (World.block_lt_of_cell? w _ hx153_5)).trans hx153_5
        replace hx153_6 := (HB.out.cell (World.block_lt_of_cell? w _ hx153_6)).trans hx153_6
        replace hx153_7 := (HB.out.cell (World.block_lt_of_cell? w _ hx153_7)).trans hx153_7
        replace p153 := eq_true p153
        replace q153 := eq_true q153
        try go_wp2_with (first | ((with_reducible refine gate_dst (N := 6) rfl ?_); refine box_event ?hg (N := 6) ?hd (cs := #[.int .i64 0, .int .i64 0, .int .i64 0, .int .i64 0, .int .i64 0, .int .i64 0, .int .u64 0, .int .i64 0]) (t := 37) ?hr ?_; (case hd => rfl); (case hg => rfl); (case hr => first | (go_simp; done) | (go_simp; rfl)); intro gb154 hg w37 hbox hb; have n0_ := Aside0.mk (Kd.R_below (Kd.R_elderB (by (with_reducible repeat (first | apply Kd.R_alloc | apply Kd.R_drewN | apply Kd.R_drew)); exact HO_3.out) gb154 (Nat.le_of_eq hg.symm)) hb); have n1_ := Aside0.mk (below_step (by repeat (first | (with_reducible first | exact HB.out | apply below_alloc | apply pw_below_drewN | apply below_drew1) | exact HB.out)) hb); have n2_ := Aside0.mk (hbox); have n3_ := Aside0.mk ((by rw [hg]; exact (below_size (by repeat (first | (with_reducible first | exact HB.out | apply below_alloc | apply pw_below_drewN | apply below_drew1) | exact HB.out))) : w.heap.size ≤ gb154)); have n4_ := Aside0.mk ((by rw [hg]; exact (below_size (by repeat (first | (with_reducible first | exact HB.out | apply below_alloc | apply pw_below_drewN | apply below_drew1) | exact HB.out))) : w.heap.size ≤ gb154)); clear HO_3; clear HB; have HO_3 := n0_; have HB := n1_; have BK154 := n2_; have GW154 := n3_; have GE154 := n4_; clear n0_ n1_ n2_ n3_ n4_; clear hb hbox hg; have hcz38_0 : w37.cell? ⟨gb154, 0, none⟩ = some (.int .i64 0) := (blk_cell BK154.out 0).trans rfl; have hcz38_1 : w37.cell? ⟨gb154, 1, none⟩ = some (.int .i64 0) := (blk_cell BK154.out 1).trans rfl; have hcz38_2 : w37.cell? ⟨gb154, 2, none⟩ = some (.int .i64 0) := (blk_cell BK154.out 2).trans rfl; have hcz38_3 : w37.cell? ⟨gb154, 3, none⟩ = some (.int .i64 0) := (blk_cell BK154.out 3).trans rfl; have hcz38_4 : w37.cell? ⟨gb154, 4, none⟩ = some (.int .i64 0) := (blk_cell BK154.out 4).trans rfl; have hcz38_5 : w37.cell? ⟨gb154, 5, none⟩ = some (.int .i64 0) := (blk_cell BK154.out 5).trans rfl; have hcz38_6 : w37.cell? ⟨gb154, 6, none⟩ = some (.int .u64 0) := (blk_cell BK154.out 6).trans rfl; have hcz38_7 : w37.cell? ⟨gb154, 7, none⟩ = some (.int .i64 0) := (blk_cell BK154.out 7).trans rfl; have hfz38_0 := blk_frozen BK154.out 0; have hfz38_1 := blk_frozen BK154.out 1; have hfz38_2 := blk_frozen BK154.out 2; have hfz38_3 := blk_frozen BK154.out 3; have hfz38_4 := blk_frozen BK154.out 4; have hfz38_5 := blk_frozen BK154.out 5; have hfz38_6 := blk_frozen BK154.out 6; have hfz38_7 := blk_frozen BK154.out 7) | ((with_reducible refine gate_callee (f := 50) rfl ?_); refine goesL_ (some 20) rfl rfl Tryd.func50 (by kernel_rfl) rfl #[.int .i64 ((rd_T37 y146 x14_1).f0), .int .i64 14] rfl (by (try simp only [List.map_toArray, List.map_cons, List.map_nil]); first | done | rfl | (simp only [List.length_drop, List.length_take]; rfl)) ?_; (with_reducible refine (tautochronelaw13_rest.calls ((rd_T37 y146 x14_1).f0) 14 t155 _ A9.out).mono ?_); rintro e w' ⟨rfl, ⟨nd, rfl⟩⟩; refine ⟨_, rfl, ?_⟩) | ((with_reducible refine gate_callee (f := 50) rfl ?_); refine goesL_ (some 24) rfl rfl Tryd.func50 (by kernel_rfl) rfl #[.int .i64 ((rd_T37 y146 x14_1).f1), .int .i64 10] rfl (by (try simp only [List.map_toArray, List.map_cons, List.map_nil]); first | done | rfl | (simp only [List.length_drop, List.length_take]; rfl)) ?_; (with_reducible refine (tautochronelaw13_rest.calls ((rd_T37 y146 x14_1).f1) 10 t156 _ A10.out).mono ?_); rintro e w' ⟨rfl, ⟨nd, rfl⟩⟩; refine ⟨_, rfl, ?_⟩))
        have n0_ : Aside0 (Kd.R k37 37 ((((((((((w37.setCell ⟨gb154, 0, none⟩ (.int .i64 ((rd_T37 y146 x14_1).f0))).setCell ⟨gb154, 1, none⟩ (.int .i64 ((rd_T37 y146 x14_1).f1))).setCell ⟨gb154, 2, none⟩ (.int .i64 ((rd_T37 y146 x14_1).f2))).setCell ⟨gb154, 3, none⟩ (.int .i64 ((rd_T37 y146 x14_1).f3))).setCell ⟨gb154, 4, none⟩ (.int .i64 ((rd_T37 y146 x14_1).f4))).setCell ⟨gb154, 5, none⟩ (.int .i64 ((rd_T37 y146 x14_1).f5))).setCell ⟨gb154, 6, none⟩ (.int .u64 ((rd_T37 y146 x14_1).f6))).setCell ⟨gb154, 7, none⟩ (.int .i64 ((rd_T37 y146 x14_1).f7))).setCell ⟨gb154, 0, none⟩ (.int .i64 t155)).setCell ⟨gb154, 1, none⟩ (.int .i64 t156)) w.heap.size (fun k_ => k_ ≠ gb154) u3 x3_1) := ⟨by (with_reducible repeat (first | apply Kd.R_alloc | apply Kd.R_drewN | apply Kd.R_drew)); exact Kd.R_mono (Kd.R_far (p := ⟨gb154, 1, none⟩) (Kd.R_far (p := ⟨gb154, 0, none⟩) (Kd.R_far (p := ⟨gb154, 7, none⟩) (Kd.R_far (p := ⟨gb154, 6, none⟩) (Kd.R_far (p := ⟨gb154, 5, none⟩) (Kd.R_far (p := ⟨gb154, 4, none⟩) (Kd.R_far (p := ⟨gb154, 3, none⟩) (Kd.R_far (p := ⟨gb154, 2, none⟩) (Kd.R_far (p := ⟨gb154, 1, none⟩) (Kd.R_far (p := ⟨gb154, 0, none⟩) (Kd.R_mono HO_3.out (fun k_ hk => (⟨hk, hk.2⟩ : _ ∧ k_ ≠ gb154))) (fun _ hk => hk.2) (.int .i64 ((rd_T37 y146 x14_1).f0))) (fun _ hk => hk.2) (.int .i64 ((rd_T37 y146 x14_1).f1))) (fun _ hk => hk.2) (.int .i64 ((rd_T37 y146 x14_1).f2))) (fun _ hk => hk.2) (.int .i64 ((rd_T37 y146 x14_1).f3))) (fun _ hk => hk.2) (.int .i64 ((rd_T37 y146 x14_1).f4))) (fun _ hk => hk.2) (.int .i64 ((rd_T37 y146 x14_1).f5))) (fun _ hk => hk.2) (.int .u64 ((rd_T37 y146 x14_1).f6))) (fun _ hk => hk.2) (.int .i64 ((rd_T37 y146 x14_1).f7))) (fun _ hk => hk.2) (.int .i64 t155)) (fun _ hk => hk.2) (.int .i64 t156)) (fun _ hk => hk.1.2)⟩
        have n1_ : Aside0 (((((((((((w37.setCell ⟨gb154, 0, none⟩ (.int .i64 ((rd_T37 y146 x14_1).f0))).setCell ⟨gb154, 1, none⟩ (.int .i64 ((rd_T37 y146 x14_1).f1))).setCell ⟨gb154, 2, none⟩ (.int .i64 ((rd_T37 y146 x14_1).f2))).setCell ⟨gb154, 3, none⟩ (.int .i64 ((rd_T37 y146 x14_1).f3))).setCell ⟨gb154, 4, none⟩ (.int .i64 ((rd_T37 y146 x14_1).f4))).setCell ⟨gb154, 5, none⟩ (.int .i64 ((rd_T37 y146 x14_1).f5))).setCell ⟨gb154, 6, none⟩ (.int .u64 ((rd_T37 y146 x14_1).f6))).setCell ⟨gb154, 7, none⟩ (.int .i64 ((rd_T37 y146 x14_1).f7))).setCell ⟨gb154, 0, none⟩ (.int .i64 t155)).setCell ⟨gb154, 1, none⟩ (.int .i64 t156)).heap[gb154]? = some (.cells #[.int .i64 t155, .int .i64 t156, .int .i64 ((rd_T37 y146 x14_1).f2), .int .i64 ((rd_T37 y146 x14_1).f3), .int .i64 ((rd_T37 y146 x14_1).f4), .int .i64 ((rd_T37 y146 x14_1).f5), .int .u64 ((rd_T37 y146 x14_1).f6), .int .i64 ((rd_T37 y146 x14_1).f7)] 37 (0, 0))) := ⟨by (with_reducible repeat (first | refine blk_drewN ?_ _ | refine blk_drew ?_ | refine blk_alloc ?_ _)); refine blk_put (cs := #[.int .i64 t155, .int .i64 ((rd_T37 y146 x14_1).f1), .int .i64 ((rd_T37 y146 x14_1).f2), .int .i64 ((rd_T37 y146 x14_1).f3), .int .i64 ((rd_T37 y146 x14_1).f4), .int .i64 ((rd_T37 y146 x14_1).f5), .int .u64 ((rd_T37 y146 x14_1).f6), .int .i64 ((rd_T37 y146 x14_1).f7)]) ?_ 1 _ rfl; refine blk_put (cs := #[.int .i64 ((rd_T37 y146 x14_1).f0), .int .i64 ((rd_T37 y146 x14_1).f1), .int .i64 ((rd_T37 y146 x14_1).f2), .int .i64 ((rd_T37 y146 x14_1).f3), .int .i64 ((rd_T37 y146 x14_1).f4), .int .i64 ((rd_T37 y146 x14_1).f5), .int .u64 ((rd_T37 y146 x14_1).f6), .int .i64 ((rd_T37 y146 x14_1).f7)]) ?_ 0 _ rfl; refine blk_put (cs := #[.int .i64 ((rd_T37 y146 x14_1).f0), .int .i64 ((rd_T37 y146 x14_1).f1), .int .i64 ((rd_T37 y146 x14_1).f2), .int .i64 ((rd_T37 y146 x14_1).f3), .int .i64 ((rd_T37 y146 x14_1).f4), .int .i64 ((rd_T37 y146 x14_1).f5), .int .u64 ((rd_T37 y146 x14_1).f6), .int .i64 0]) ?_ 7 _ rfl; refine blk_put (cs := #[.int .i64 ((rd_T37 y146 x14_1).f0), .int .i64 ((rd_T37 y146 x14_1).f1), .int .i64 ((rd_T37 y146 x14_1).f2), .int .i64 ((rd_T37 y146 x14_1).f3), .int .i64 ((rd_T37 y146 x14_1).f4), .int .i64 ((rd_T37 y146 x14_1).f5), .int .u64 0, .int .i64 0]) ?_ 6 _ rfl; refine blk_put (cs := #[.int .i64 ((rd_T37 y146 x14_1).f0), .int .i64 ((rd_T37 y146 x14_1).f1), .int .i64 ((rd_T37 y146 x14_1).f2), .int .i64 ((rd_T37 y146 x14_1).f3), .int .i64 ((rd_T37 y146 x14_1).f4), .int .i64 0, .int .u64 0, .int .i64 0]) ?_ 5 _ rfl; refine blk_put (cs := #[.int .i64 ((rd_T37 y146 x14_1).f0), .int .i64 ((rd_T37 y146 x14_1).f1), .int .i64 ((rd_T37 y146 x14_1).f2), .int .i64 ((rd_T37 y146 x14_1).f3), .int .i64 0, .int .i64 0, .int .u64 0, .int .i64 0]) ?_ 4 _ rfl; refine blk_put (cs := #[.int .i64 ((rd_T37 y146 x14_1).f0), .int .i64 ((rd_T37 y146 x14_1).f1), .int .i64 ((rd_T37 y146 x14_1).f2), .int .i64 0, .int .i64 0, .int .i64 0, .int .u64 0, .int .i64 0]) ?_ 3 _ rfl; refine blk_put (cs := #[.int .i64 ((rd_T37 y146 x14_1).f0), .int .i64 ((rd_T37 y146 x14_1).f1), .int .i64 0, .int .i64 0, .int .i64 0, .int .i64 0, .int .u64 0, .int .i64 0]) ?_ 2 _ rfl; refine blk_put (cs := #[.int .i64 ((rd_T37 y146 x14_1).f0), .int .i64 0, .int .i64 0, .int .i64 0, .int .i64 0, .int .i64 0, .int .u64 0, .int .i64 0]) ?_ 1 _ rfl; refine blk_put (cs := #[.int .i64 0, .int .i64 0, .int .i64 0, .int .i64 0, .int .i64 0, .int .i64 0, .int .u64 0, .int .i64 0]) ?_ 0 _ rfl; (with_reducible repeat (first | refine blk_drewN ?_ _ | refine blk_drew ?_ | refine blk_alloc ?_ _)); exact BK154.out⟩
        have n2_ : Aside0 (Below w.heap.size w ((((((((((w37.setCell ⟨gb154, 0, none⟩ (.int .i64 ((rd_T37 y146 x14_1).f0))).setCell ⟨gb154, 1, none⟩ (.int .i64 ((rd_T37 y146 x14_1).f1))).setCell ⟨gb154, 2, none⟩ (.int .i64 ((rd_T37 y146 x14_1).f2))).setCell ⟨gb154, 3, none⟩ (.int .i64 ((rd_T37 y146 x14_1).f3))).setCell ⟨gb154, 4, none⟩ (.int .i64 ((rd_T37 y146 x14_1).f4))).setCell ⟨gb154, 5, none⟩ (.int .i64 ((rd_T37 y146 x14_1).f5))).setCell ⟨gb154, 6, none⟩ (.int .u64 ((rd_T37 y146 x14_1).f6))).setCell ⟨gb154, 7, none⟩ (.int .i64 ((rd_T37 y146 x14_1).f7))).setCell ⟨gb154, 0, none⟩ (.int .i64 t155)).setCell ⟨gb154, 1, none⟩ (.int .i64 t156))) := ⟨by repeat (first | (with_reducible first | exact HB.out | apply below_alloc | apply pw_below_drewN | apply below_drew1 | refine below_set ?_ GE154.out) | exact HB.out)⟩
        (try clear HO_3)
        (try clear BK154)
        (try clear HB)
        generalize ((((((((((w37.setCell ⟨gb154, 0, none⟩ (.int .i64 ((rd_T37 y146 x14_1).f0))).setCell ⟨gb154, 1, none⟩ (.int .i64 ((rd_T37 y146 x14_1).f1))).setCell ⟨gb154, 2, none⟩ (.int .i64 ((rd_T37 y146 x14_1).f2))).setCell ⟨gb154, 3, none⟩ (.int .i64 ((rd_T37 y146 x14_1).f3))).setCell ⟨gb154, 4, none⟩ (.int .i64 ((rd_T37 y146 x14_1).f4))).setCell ⟨gb154, 5, none⟩ (.int .i64 ((rd_T37 y146 x14_1).f5))).setCell ⟨gb154, 6, none⟩ (.int .u64 ((rd_T37 y146 x14_1).f6))).setCell ⟨gb154, 7, none⟩ (.int .i64 ((rd_T37 y146 x14_1).f7))).setCell ⟨gb154, 0, none⟩ (.int .i64 t155)).setCell ⟨gb154, 1, none⟩ (.int .i64 t156)) = w39 at n0_ n1_ n2_ ⊢
        have HO_3 := n0_
        have BK154 := n1_
        have HB := n2_
        clear n0_ n1_ n2_
        (try (rw [drewN_self w39]; generalize hq_ : World.drewN w39 _ = w39; have n0_ : Aside0 (Kd.R k37 37 w39 w.heap.size (fun k_ => k_ ≠ gb154) u3 x3_1) := ⟨by rw [← hq_]; exact (by (with_reducible repeat (first | apply Kd.R_alloc | apply Kd.R_drewN | apply Kd.R_drew)); exact HO_3.out)⟩; have n1_ : Aside0 (w39.heap[gb154]? = some (.cells #[.int .i64 t155, .int .i64 t156, .int .i64 ((rd_T37 y146 x14_1).f2), .int .i64 ((rd_T37 y146 x14_1).f3), .int .i64 ((rd_T37 y146 x14_1).f4), .int .i64 ((rd_T37 y146 x14_1).f5), .int .u64 ((rd_T37 y146 x14_1).f6), .int .i64 ((rd_T37 y146 x14_1).f7)] 37 (0, 0))) := ⟨by rw [← hq_]; exact (by (with_reducible repeat (first | refine blk_drewN ?_ _ | refine blk_drew ?_ | refine blk_alloc ?_ _)); exact BK154.out)⟩; have n2_ : Aside0 (Below w.heap.size w w39) := ⟨by rw [← hq_]; exact (by repeat (first | (with_reducible first | exact HB.out | apply below_alloc | apply pw_below_drewN | apply below_drew1 | refine below_set ?_ GE154.out) | exact HB.out))⟩; clear HO_3 BK154 HB hq_; have HO_3 := n0_; have BK154 := n1_; have HB := n2_; clear n0_ n1_ n2_))
        have n0_ := Aside0.mk (Kd.R_drew HO_3.out)
        have n1_ := Aside0.mk (blk_drew BK154.out)
        have n2_ := Aside0.mk (below_drew1 HB.out)
        clear HO_3
        clear BK154
        clear HB
        have HO_3 := n0_
        have BK154 := n1_
        have HB := n2_
        clear n0_ n1_ n2_
        refine start_ (n := 20) (S := fun w' => w'.cell? ⟨gb154, 0, none⟩ = some (.int .i64 t155) ∧ w'.cell? ⟨gb154, 1, none⟩ = some (.int .i64 t156) ∧ w'.cell? ⟨gb154, 2, none⟩ = some (.int .i64 ((rd_T37 y146 x14_1).f2)) ∧ w'.cell? ⟨gb154, 3, none⟩ = some (.int .i64 ((rd_T37 y146 x14_1).f3)) ∧ w'.cell? ⟨gb154, 4, none⟩ = some (.int .i64 ((rd_T37 y146 x14_1).f4)) ∧ w'.cell? ⟨gb154, 5, none⟩ = some (.int .i64 ((rd_T37 y146 x14_1).f5)) ∧ w'.cell? ⟨gb154, 6, none⟩ = some (.int .u64 ((rd_T37 y146 x14_1).f6)) ∧ w'.cell? ⟨gb154, 7, none⟩ = some (.int .i64 ((rd_T37 y146 x14_1).f7))) (ds := [13, 15, 17, 19]) #[false, false, false, false, false, false, false, false, false, false, false, false, false, false, false, false, false, false, false, false] (by kernel_rfl) rfl rfl ⟨(blk_cell BK154.out 0).trans rfl, (blk_cell BK154.out 1).trans rfl, (blk_cell BK154.out 2).trans rfl, (blk_cell BK154.out 3).trans rfl, (blk_cell BK154.out 4).trans rfl, (blk_cell BK154.out 5).trans rfl, (blk_cell BK154.out 6).trans rfl, (blk_cell BK154.out 7).trans rfl⟩ (fun hHeld => ?_); refine with_tabW tautochronelaw13_Small.tab8 tautochronelaw13_Small.bits8 (fun HT_ HW_ => ?_)
        generalize w39.drew = w40 at HO_3 BK154 HB hHeld ⊢
        refine pure_ (i := 0) (N := some 26) (v := ?_) (a' := ?_) #[true, false, false, false, false, false, false, false, false, false, false, false, false, false, false, false, false, false, false, false] rfl rfl (any_of HT_.out (by kernel_rfl)) (fun _ _ _ h => h) (Or.inl ⟨by rfl, ?_⟩) ?_ ?_
        rotate_left
        ·intro w'
         go_simp
         with_reducible rfl
        rotate_left
        ·simp only [Act.put, List.setIfInBounds_toArray, List.set_cons_zero, List.set_cons_succ, i64_w, i32_w]
         rfl
        refine pure_ (i := 3) (N := some 29) (v := ?_) (a' := ?_) #[true, false, false, true, false, false, false, false, false, false, false, false, false, false, false, false, false, false, false, false] rfl rfl (any_of HT_.out (by kernel_rfl)) (fun _ _ _ h => h) (Or.inl ⟨by rfl, ?_⟩) ?_ ?_
        rotate_left
        ·intro w'
         go_simp
         with_reducible rfl
        rotate_left
        ·simp only [Act.put, List.setIfInBounds_toArray, List.set_cons_zero, List.set_cons_succ, i64_w, i32_w]
         rfl
        refine pure_ (i := 6) (N := some 32) (v := ?_) (a' := ?_) #[true, false, false, true, false, false, true, false, false, false, false, false, false, false, false, false, false, false, false, false] rfl rfl (any_of HT_.out (by kernel_rfl)) (fun _ _ _ h => h) (Or.inl ⟨by rfl, ?_⟩) ?_ ?_
        rotate_left
        ·intro w'
         go_simp
         with_reducible rfl
        rotate_left
        ·simp only [Act.put, List.setIfInBounds_toArray, List.set_cons_zero, List.set_cons_succ, i64_w, i32_w]
         rfl
        refine pure_ (i := 9) (N := some 35) (v := ?_) (a' := ?_) #[true, false, false, true, false, false, true, false, false, true, false, false, false, false, false, false, false, false, false, false] rfl rfl (any_of HT_.out (by kernel_rfl)) (fun _ _ _ h => h) (Or.inl ⟨by rfl, ?_⟩) ?_ ?_
        rotate_left
        ·intro w'
         go_simp
         with_reducible rfl
        rotate_left
        ·simp only [Act.put, List.setIfInBounds_toArray, List.set_cons_zero, List.set_cons_succ, i64_w, i32_w]
         rfl
        refine take_ (i := 1) (N := some 27) (v := ?_) (a' := ?_) #[true, true, false, true, false, false, true, false, false, true, false, false, false, false, false, false, false, false, false, false] rfl rfl (take_ofW HT_.out HW_.out (by kernel_rfl)) (fun _ _ _ h => h) (Or.inl ⟨by rfl, ?_⟩) hHeld ?_ ?_
        rotate_left
        ·rintro w' ⟨s0, s1, s2, s3, s4, s5, s6, s7⟩
         go_simp
         with_reducible rfl
        rotate_left
        ·simp only [Act.put, List.setIfInBounds_toArray, List.set_cons_zero, List.set_cons_succ, i64_w, i32_w]
         rfl
        refine take_ (i := 4) (N := some 30) (v := ?_) (a' := ?_) #[true, true, false, true, true, false, true, false, false, true, false, false, false, false, false, false, false, false, false, false] rfl rfl (take_ofW HT_.out HW_.out (by kernel_rfl)) (fun _ _ _ h => h) (Or.inl ⟨by rfl, ?_⟩) hHeld ?_ ?_
        rotate_left
        ·rintro w' ⟨s0, s1, s2, s3, s4, s5, s6, s7⟩
         go_simp
         with_reducible rfl
        rotate_left
        ·simp only [Act.put, List.setIfInBounds_toArray, List.set_cons_zero, List.set_cons_succ, i64_w, i32_w]
         rfl
        refine take_ (i := 7) (N := some 33) (v := ?_) (a' := ?_) #[true, true, false, true, true, false, true, true, false, true, false, false, false, false, false, false, false, false, false, false] rfl rfl (take_ofW HT_.out HW_.out (by kernel_rfl)) (fun _ _ _ h => h) (Or.inl ⟨by rfl, ?_⟩) hHeld ?_ ?_
        rotate_left
        ·rintro w' ⟨s0, s1, s2, s3, s4, s5, s6, s7⟩
         go_simp
         with_reducible rfl
        rotate_left
        ·simp only [Act.put, List.setIfInBounds_toArray, List.set_cons_zero, List.set_cons_succ, i64_w, i32_w]
         rfl
        refine take_ (i := 10) (N := some 36) (v := ?_) (a' := ?_) #[true, true, false, true, true, false, true, true, false, true, true, false, false, false, false, false, false, false, false, false] rfl rfl (take_ofW HT_.out HW_.out (by kernel_rfl)) (fun _ _ _ h => h) (Or.inl ⟨by rfl, ?_⟩) hHeld ?_ ?_
        rotate_left
        ·rintro w' ⟨s0, s1, s2, s3, s4, s5, s6, s7⟩
         go_simp
         with_reducible rfl
        rotate_left
        ·simp only [Act.put, List.setIfInBounds_toArray, List.set_cons_zero, List.set_cons_succ, i64_w, i32_w]
         rfl
        refine one_ (i := 2) (N := some 28) #[true, true, true, true, true, false, true, true, false, true, true, false, false, false, false, false, false, false, false, false] rfl rfl (one_of HT_.out (by kernel_rfl)) (by decide) (fun K hK => ?_)
        refine goes_ Tryd.func50 (by kernel_rfl) rfl #[.int .i64 ((rd_T37 y146 x14_1).f2), .int .i64 8] (by rfl) rfl rfl (by (try simp only [List.map_toArray, List.map_cons, List.map_nil]); first | done | rfl | (simp only [List.length_drop, List.length_take]; rfl)) ?_
        with_reducible refine (tautochronelaw13_rest.calls ((rd_T37 y146 x14_1).f2) 8 t157 _ A11.out).mono ?_
        rintro e w' ⟨rfl, ⟨nd, rfl⟩⟩
        refine ⟨_, rfl, ?_⟩
        refine hK.out _ _ ⟨(blk_cell BK154.out 0).trans rfl, (blk_cell BK154.out 1).trans rfl, (blk_cell BK154.out 2).trans rfl, (blk_cell BK154.out 3).trans rfl, (blk_cell BK154.out 4).trans rfl, (blk_cell BK154.out 5).trans rfl, (blk_cell BK154.out 6).trans rfl, (blk_cell BK154.out 7).trans rfl⟩ (fun hHeld => ?_)
        clear hK K
        refine norm_ (a' := ?_) ?_ ?_
        rotate_left
        ·show Act.put _ (some 28) _ = _
         simp only [Act.put, List.setIfInBounds_toArray, List.set_cons_zero, List.set_cons_succ, i64_w, i32_w]
         rfl
        refine pure_ (i := 12) (N := some 38) (v := ?_) (a' := ?_) #[true, true, true, true, true, false, true, true, false, true, true, false, true, false, false, false, false, false, false, false] rfl rfl (any_of HT_.out (by kernel_rfl)) (fun _ _ _ h => h) (Or.inl ⟨by rfl, ?_⟩) ?_ ?_
        rotate_left
        ·intro w'
         go_simp
         with_reducible rfl
        rotate_left
        ·simp only [Act.put, List.setIfInBounds_toArray, List.set_cons_zero, List.set_cons_succ, i64_w, i32_w]
         rfl
        refine one_ (i := 5) (N := some 31) #[true, true, true, true, true, true, true, true, false, true, true, false, true, false, false, false, false, false, false, false] rfl rfl (one_of HT_.out (by kernel_rfl)) (by decide) (fun K hK => ?_)
        refine goes_ Tryd.func50 (by kernel_rfl) rfl #[.int .i64 ((rd_T37 y146 x14_1).f3), .int .i64 8] (by rfl) rfl rfl (by (try simp only [List.map_toArray, List.map_cons, List.map_nil]); first | done | rfl | (simp only [List.length_drop, List.length_take]; rfl)) ?_
        with_reducible refine (tautochronelaw13_rest.calls ((rd_T37 y146 x14_1).f3) 8 t158 _ A12.out).mono ?_
        rintro e w' ⟨rfl, ⟨nd, rfl⟩⟩
        refine ⟨_, rfl, ?_⟩
        refine hK.out _ _ ⟨(blk_cell BK154.out 0).trans rfl, (blk_cell BK154.out 1).trans rfl, (blk_cell BK154.out 2).trans rfl, (blk_cell BK154.out 3).trans rfl, (blk_cell BK154.out 4).trans rfl, (blk_cell BK154.out 5).trans rfl, (blk_cell BK154.out 6).trans rfl, (blk_cell BK154.out 7).trans rfl⟩ (fun hHeld => ?_)
        clear hK K
        refine norm_ (a' := ?_) ?_ ?_
        rotate_left
        ·show Act.put _ (some 31) _ = _
         simp only [Act.put, List.setIfInBounds_toArray, List.set_cons_zero, List.set_cons_succ, i64_w, i32_w]
         rfl
        refine one_ (i := 8) (N := some 34) #[true, true, true, true, true, true, true, true, true, true, true, false, true, false, false, false, false, false, false, false] rfl rfl (one_of HT_.out (by kernel_rfl)) (by decide) (fun K hK => ?_)
        refine goes_ Tryd.func50 (by kernel_rfl) rfl #[.int .i64 ((rd_T37 y146 x14_1).f4), .int .i64 8] (by rfl) rfl rfl (by (try simp only [List.map_toArray, List.map_cons, List.map_nil]); first | done | rfl | (simp only [List.length_drop, List.length_take]; rfl)) ?_
        with_reducible refine (tautochronelaw13_rest.calls ((rd_T37 y146 x14_1).f4) 8 t159 _ A13.out).mono ?_
        rintro e w' ⟨rfl, ⟨nd, rfl⟩⟩
        refine ⟨_, rfl, ?_⟩
        refine hK.out _ _ ⟨(blk_cell BK154.out 0).trans rfl, (blk_cell BK154.out 1).trans rfl, (blk_cell BK154.out 2).trans rfl, (blk_cell BK154.out 3).trans rfl, (blk_cell BK154.out 4).trans rfl, (blk_cell BK154.out 5).trans rfl, (blk_cell BK154.out 6).trans rfl, (blk_cell BK154.out 7).trans rfl⟩ (fun hHeld => ?_)
        clear hK K
        refine norm_ (a' := ?_) ?_ ?_
        rotate_left
        ·show Act.put _ (some 34) _ = _
         simp only [Act.put, List.setIfInBounds_toArray, List.set_cons_zero, List.set_cons_succ, i64_w, i32_w]
         rfl
        refine one_ (i := 11) (N := some 37) #[true, true, true, true, true, true, true, true, true, true, true, true, true, false, false, false, false, false, false, false] rfl rfl (one_of HT_.out (by kernel_rfl)) (by decide) (fun K hK => ?_)
        refine goes_ Tryd.func50 (by kernel_rfl) rfl #[.int .i64 ((rd_T37 y146 x14_1).f5), .int .i64 8] (by rfl) rfl rfl (by (try simp only [List.map_toArray, List.map_cons, List.map_nil]); first | done | rfl | (simp only [List.length_drop, List.length_take]; rfl)) ?_
        with_reducible refine (tautochronelaw13_rest.calls ((rd_T37 y146 x14_1).f5) 8 t160 _ A14.out).mono ?_
        rintro e w' ⟨rfl, ⟨nd, rfl⟩⟩
        refine ⟨_, rfl, ?_⟩
        refine hK.out _ _ ⟨(blk_cell BK154.out 0).trans rfl, (blk_cell BK154.out 1).trans rfl, (blk_cell BK154.out 2).trans rfl, (blk_cell BK154.out 3).trans rfl, (blk_cell BK154.out 4).trans rfl, (blk_cell BK154.out 5).trans rfl, (blk_cell BK154.out 6).trans rfl, (blk_cell BK154.out 7).trans rfl⟩ (fun hHeld => ?_)
        clear hK K
        refine norm_ (a' := ?_) ?_ ?_
        rotate_left
        ·show Act.put _ (some 37) _ = _
         simp only [Act.put, List.setIfInBounds_toArray, List.set_cons_zero, List.set_cons_succ, i64_w, i32_w]
         rfl
        refine last_ (i := 13) (N := none) #[true, true, true, true, true, true, true, true, true, true, true, true, true, true, false, false, false, false, false, false] rfl rfl (one_of HT_.out (by kernel_rfl)) (by decide) (fun K hK => ?_)
        have hs41 : w40.cell? ⟨gb154, 2, none⟩ = some (.int .i64 ((rd_T37 y146 x14_1).f2)) := (blk_cell BK154.out 2).trans rfl
        have hfs41 := blk_frozen BK154.out 2
        refine skip_ (w1 := ?_) (by rfl) rfl ?_ ?_
        rotate_left
        ·go_simp
         rfl
        refine hK.out _ _ ?_
        clear hK K
        refine pure_ (i := 14) (N := some 39) (v := ?_) (a' := ?_) #[true, true, true, true, true, true, true, true, true, true, true, true, true, true, true, false, false, false, false, false] rfl rfl (any_of HT_.out (by kernel_rfl)) (fun _ _ _ h => h) (Or.inl ⟨by rfl, ?_⟩) ?_ ?_
        rotate_left
        ·intro w'
         go_simp
         with_reducible rfl
        rotate_left
        ·simp only [Act.put, List.setIfInBounds_toArray, List.set_cons_zero, List.set_cons_succ, i64_w, i32_w]
         rfl
        refine last_ (i := 15) (N := none) #[true, true, true, true, true, true, true, true, true, true, true, true, true, true, true, true, false, false, false, false] rfl rfl (one_of HT_.out (by kernel_rfl)) (by decide) (fun K hK => ?_)
        have hs42 : w40.cell? ⟨gb154, 3, none⟩ = some (.int .i64 ((rd_T37 y146 x14_1).f3)) := (blk_cell BK154.out 3).trans rfl
        have hfs42 := blk_frozen BK154.out 3
        refine skip_ (w1 := ?_) (by rfl) rfl ?_ ?_
        rotate_left
        ·go_simp
         rfl
        refine hK.out _ _ ?_
        clear hK K
        refine pure_ (i := 16) (N := some 40) (v := ?_) (a' := ?_) #[true, true, true, true, true, true, true, true, true, true, true, true, true, true, true, true, true, false, false, false] rfl rfl (any_of HT_.out (by kernel_rfl)) (fun _ _ _ h => h) (Or.inl ⟨by rfl, ?_⟩) ?_ ?_
        rotate_left
        ·intro w'
         go_simp
         with_reducible rfl
        rotate_left
        ·simp only [Act.put, List.setIfInBounds_toArray, List.set_cons_zero, List.set_cons_succ, i64_w, i32_w]
         rfl
        refine last_ (i := 17) (N := none) #[true, true, true, true, true, true, true, true, true, true, true, true, true, true, true, true, true, true, false, false] rfl rfl (one_of HT_.out (by kernel_rfl)) (by decide) (fun K hK => ?_)
        have hs43 : w40.cell? ⟨gb154, 4, none⟩ = some (.int .i64 ((rd_T37 y146 x14_1).f4)) := (blk_cell BK154.out 4).trans rfl
        have hfs43 := blk_frozen BK154.out 4
        refine skip_ (w1 := ?_) (by rfl) rfl ?_ ?_
        rotate_left
        ·go_simp
         rfl
        refine hK.out _ _ ?_
        clear hK K
        refine pure_ (i := 18) (N := some 41) (v := ?_) (a' := ?_) #[true, true, true, true, true, true, true, true, true, true, true, true, true, true, true, true, true, true, true, false] rfl rfl (any_of HT_.out (by kernel_rfl)) (fun _ _ _ h => h) (Or.inl ⟨by rfl, ?_⟩) ?_ ?_
        rotate_left
        ·intro w'
         go_simp
         with_reducible rfl
        rotate_left
        ·simp only [Act.put, List.setIfInBounds_toArray, List.set_cons_zero, List.set_cons_succ, i64_w, i32_w]
         rfl
        refine last_ (i := 19) (N := none) #[true, true, true, true, true, true, true, true, true, true, true, true, true, true, true, true, true, true, true, true] rfl rfl (one_of HT_.out (by kernel_rfl)) (by decide) (fun K hK => ?_)
        have hs44 : w40.cell? ⟨gb154, 5, none⟩ = some (.int .i64 ((rd_T37 y146 x14_1).f5)) := (blk_cell BK154.out 5).trans rfl
        have hfs44 := blk_frozen BK154.out 5
        refine skip_ (w1 := ?_) (by rfl) rfl ?_ ?_
        rotate_left
        ·go_simp
         rfl
        refine hK.out _ _ ?_
        clear hK K
        refine done_ (done_of HT_.out (by kernel_rfl)) ?_
        have hcz45_0 : w40.cell? ⟨gb154, 0, none⟩ = some (.int .i64 t155) := (blk_cell BK154.out 0).trans rfl
        have hcz45_1 : w40.cell? ⟨gb154, 1, none⟩ = some (.int .i64 t156) := (blk_cell BK154.out 1).trans rfl
        have hcz45_2 : w40.cell? ⟨gb154, 2, none⟩ = some (.int .i64 ((rd_T37 y146 x14_1).f2)) := (blk_cell BK154.out 2).trans rfl
        have hcz45_3 : w40.cell? ⟨gb154, 3, none⟩ = some (.int .i64 ((rd_T37 y146 x14_1).f3)) := (blk_cell BK154.out 3).trans rfl
        have hcz45_4 : w40.cell? ⟨gb154, 4, none⟩ = some (.int .i64 ((rd_T37 y146 x14_1).f4)) := (blk_cell BK154.out 4).trans rfl
        have hcz45_5 : w40.cell? ⟨gb154, 5, none⟩ = some (.int .i64 ((rd_T37 y146 x14_1).f5)) := (blk_cell BK154.out 5).trans rfl
        have hcz45_6 : w40.cell? ⟨gb154, 6, none⟩ = some (.int .u64 ((rd_T37 y146 x14_1).f6)) := (blk_cell BK154.out 6).trans rfl
        have hcz45_7 : w40.cell? ⟨gb154, 7, none⟩ = some (.int .i64 ((rd_T37 y146 x14_1).f7)) := (blk_cell BK154.out 7).trans rfl
        have hfz45_0 := blk_frozen BK154.out 0
        have hfz45_1 := blk_frozen BK154.out 1
        have hfz45_2 := blk_frozen BK154.out 2
        have hfz45_3 := blk_frozen BK154.out 3
        have hfz45_4 := blk_frozen BK154.out 4
        have hfz45_5 := blk_frozen BK154.out 5
        have hfz45_6 := blk_frozen BK154.out 6
        have hfz45_7 := blk_frozen BK154.out 7
        try go_wp2
        have n0_ : Aside0 (Kd.R k37 37 (((((w40.setCell ⟨gb154, 2, none⟩ (.int .i64 t157)).setCell ⟨gb154, 3, none⟩ (.int .i64 t158)).setCell ⟨gb154, 4, none⟩ (.int .i64 t159)).setCell ⟨gb154, 5, none⟩ (.int .i64 t160)).setCell ⟨gb154, 3, none⟩ (.int .i64 (-1))) w.heap.size (fun k_ => k_ ≠ gb154) u3 x3_1) := ⟨by (with_reducible repeat (first | apply Kd.R_alloc | apply Kd.R_drewN | apply Kd.R_drew)); exact Kd.R_mono (Kd.R_far (p := ⟨gb154, 3, none⟩) (Kd.R_far (p := ⟨gb154, 5, none⟩) (Kd.R_far (p := ⟨gb154, 4, none⟩) (Kd.R_far (p := ⟨gb154, 3, none⟩) (Kd.R_far (p := ⟨gb154, 2, none⟩) (Kd.R_mono HO_3.out (fun k_ hk => (⟨hk, hk⟩ : _ ∧ k_ ≠ gb154))) (fun _ hk => hk.2) (.int .i64 t157)) (fun _ hk => hk.2) (.int .i64 t158)) (fun _ hk => hk.2) (.int .i64 t159)) (fun _ hk => hk.2) (.int .i64 t160)) (fun _ hk => hk.2) (.int .i64 (-1))) (fun _ hk => hk.1)⟩
        have n1_ : Aside0 ((((((w40.setCell ⟨gb154, 2, none⟩ (.int .i64 t157)).setCell ⟨gb154, 3, none⟩ (.int .i64 t158)).setCell ⟨gb154, 4, none⟩ (.int .i64 t159)).setCell ⟨gb154, 5, none⟩ (.int .i64 t160)).setCell ⟨gb154, 3, none⟩ (.int .i64 (-1))).heap[gb154]? = some (.cells #[.int .i64 t155, .int .i64 t156, .int .i64 t157, .int .i64 (-1), .int .i64 t159, .int .i64 t160, .int .u64 ((rd_T37 y146 x14_1).f6), .int .i64 ((rd_T37 y146 x14_1).f7)] 37 (0, 0))) := ⟨by (with_reducible repeat (first | refine blk_drewN ?_ _ | refine blk_drew ?_ | refine blk_alloc ?_ _)); refine blk_put (cs := #[.int .i64 t155, .int .i64 t156, .int .i64 t157, .int .i64 t158, .int .i64 t159, .int .i64 t160, .int .u64 ((rd_T37 y146 x14_1).f6), .int .i64 ((rd_T37 y146 x14_1).f7)]) ?_ 3 _ rfl; refine blk_put (cs := #[.int .i64 t155, .int .i64 t156, .int .i64 t157, .int .i64 t158, .int .i64 t159, .int .i64 ((rd_T37 y146 x14_1).f5), .int .u64 ((rd_T37 y146 x14_1).f6), .int .i64 ((rd_T37 y146 x14_1).f7)]) ?_ 5 _ rfl; refine blk_put (cs := #[.int .i64 t155, .int .i64 t156, .int .i64 t157, .int .i64 t158, .int .i64 ((rd_T37 y146 x14_1).f4), .int .i64 ((rd_T37 y146 x14_1).f5), .int .u64 ((rd_T37 y146 x14_1).f6), .int .i64 ((rd_T37 y146 x14_1).f7)]) ?_ 4 _ rfl; refine blk_put (cs := #[.int .i64 t155, .int .i64 t156, .int .i64 t157, .int .i64 ((rd_T37 y146 x14_1).f3), .int .i64 ((rd_T37 y146 x14_1).f4), .int .i64 ((rd_T37 y146 x14_1).f5), .int .u64 ((rd_T37 y146 x14_1).f6), .int .i64 ((rd_T37 y146 x14_1).f7)]) ?_ 3 _ rfl; refine blk_put (cs := #[.int .i64 t155, .int .i64 t156, .int .i64 ((rd_T37 y146 x14_1).f2), .int .i64 ((rd_T37 y146 x14_1).f3), .int .i64 ((rd_T37 y146 x14_1).f4), .int .i64 ((rd_T37 y146 x14_1).f5), .int .u64 ((rd_T37 y146 x14_1).f6), .int .i64 ((rd_T37 y146 x14_1).f7)]) ?_ 2 _ rfl; (with_reducible repeat (first | refine blk_drewN ?_ _ | refine blk_drew ?_ | refine blk_alloc ?_ _)); exact BK154.out⟩
        have n2_ : Aside0 (Below w.heap.size w (((((w40.setCell ⟨gb154, 2, none⟩ (.int .i64 t157)).setCell ⟨gb154, 3, none⟩ (.int .i64 t158)).setCell ⟨gb154, 4, none⟩ (.int .i64 t159)).setCell ⟨gb154, 5, none⟩ (.int .i64 t160)).setCell ⟨gb154, 3, none⟩ (.int .i64 (-1)))) := ⟨by repeat (first | (with_reducible first | exact HB.out | apply below_alloc | apply pw_below_drewN | apply below_drew1 | refine below_set ?_ GE154.out) | exact HB.out)⟩
        (try clear HO_3)
        (try clear BK154)
        (try clear HB)
        generalize (((((w40.setCell ⟨gb154, 2, none⟩ (.int .i64 t157)).setCell ⟨gb154, 3, none⟩ (.int .i64 t158)).setCell ⟨gb154, 4, none⟩ (.int .i64 t159)).setCell ⟨gb154, 5, none⟩ (.int .i64 t160)).setCell ⟨gb154, 3, none⟩ (.int .i64 (-1))) = w46 at n0_ n1_ n2_ ⊢
        have HO_3 := n0_
        have BK154 := n1_
        have HB := n2_
        clear n0_ n1_ n2_
        (try (rw [drewN_self w46]; generalize hq_ : World.drewN w46 _ = w46; have n0_ : Aside0 (Kd.R k37 37 w46 w.heap.size (fun k_ => k_ ≠ gb154) u3 x3_1) := ⟨by rw [← hq_]; exact (by (with_reducible repeat (first | apply Kd.R_alloc | apply Kd.R_drewN | apply Kd.R_drew)); exact HO_3.out)⟩; have n1_ : Aside0 (w46.heap[gb154]? = some (.cells #[.int .i64 t155, .int .i64 t156, .int .i64 t157, .int .i64 (-1), .int .i64 t159, .int .i64 t160, .int .u64 ((rd_T37 y146 x14_1).f6), .int .i64 ((rd_T37 y146 x14_1).f7)] 37 (0, 0))) := ⟨by rw [← hq_]; exact (by (with_reducible repeat (first | refine blk_drewN ?_ _ | refine blk_drew ?_ | refine blk_alloc ?_ _)); exact BK154.out)⟩; have n2_ : Aside0 (Below w.heap.size w w46) := ⟨by rw [← hq_]; exact (by repeat (first | (with_reducible first | exact HB.out | apply below_alloc | apply pw_below_drewN | apply below_drew1 | refine below_set ?_ GE154.out) | exact HB.out))⟩; clear HO_3 BK154 HB hq_; have HO_3 := n0_; have BK154 := n1_; have HB := n2_; clear n0_ n1_ n2_))
        have n0_ := Aside0.mk (Kd.R_drew HO_3.out)
        have n1_ := Aside0.mk (blk_drew BK154.out)
        have n2_ := Aside0.mk (below_drew1 HB.out)
        clear HO_3
        clear BK154
        clear HB
        have HO_3 := n0_
        have BK154 := n1_
        have HB := n2_
        clear n0_ n1_ n2_
        refine start_ (n := 12) (S := fun w' => w'.cell? ⟨gb154, 0, none⟩ = some (.int .i64 t155) ∧ w'.cell? ⟨gb154, 1, none⟩ = some (.int .i64 t156) ∧ w'.cell? ⟨gb154, 2, none⟩ = some (.int .i64 t157) ∧ w'.cell? ⟨gb154, 3, none⟩ = some (.int .i64 (-1)) ∧ w'.cell? ⟨gb154, 4, none⟩ = some (.int .i64 t159) ∧ w'.cell? ⟨gb154, 5, none⟩ = some (.int .i64 t160) ∧ w'.cell? ⟨gb154, 6, none⟩ = some (.int .u64 ((rd_T37 y146 x14_1).f6)) ∧ w'.cell? ⟨gb154, 7, none⟩ = some (.int .i64 ((rd_T37 y146 x14_1).f7))) (ds := [9, 11]) #[false, false, false, false, false, false, false, false, false, false, false, false] (by kernel_rfl) rfl rfl ⟨(blk_cell BK154.out 0).trans rfl, (blk_cell BK154.out 1).trans rfl, (blk_cell BK154.out 2).trans rfl, (blk_cell BK154.out 3).trans rfl, (blk_cell BK154.out 4).trans rfl, (blk_cell BK154.out 5).trans rfl, (blk_cell BK154.out 6).trans rfl, (blk_cell BK154.out 7).trans rfl⟩ (fun hHeld => ?_); refine with_tabW tautochronelaw13_Small.tab11 tautochronelaw13_Small.bits11 (fun HT_ HW_ => ?_)
        generalize w46.drew = w47 at HO_3 BK154 HB hHeld ⊢
        refine pure_ (i := 0) (N := some 57) (v := ?_) (a' := ?_) #[true, false, false, false, false, false, false, false, false, false, false, false] rfl rfl (any_of HT_.out (by kernel_rfl)) (fun _ _ _ h => h) (Or.inl ⟨by rfl, ?_⟩) ?_ ?_
        rotate_left
        ·intro w'
         go_simp
         with_reducible rfl
        rotate_left
        ·simp only [Act.put, List.setIfInBounds_toArray, List.set_cons_zero, List.set_cons_succ, i64_w, i32_w]
         rfl
        refine pure_ (i := 3) (N := some 60) (v := ?_) (a' := ?_) #[true, false, false, true, false, false, false, false, false, false, false, false] rfl rfl (any_of HT_.out (by kernel_rfl)) (fun _ _ _ h => h) (Or.inl ⟨by rfl, ?_⟩) ?_ ?_
        rotate_left
        ·intro w'
         go_simp
         with_reducible rfl
        rotate_left
        ·simp only [Act.put, List.setIfInBounds_toArray, List.set_cons_zero, List.set_cons_succ, i64_w, i32_w]
         rfl
        refine pure_ (i := 5) (N := some 62) (v := ?_) (a' := ?_) #[true, false, false, true, false, true, false, false, false, false, false, false] rfl rfl (any_of HT_.out (by kernel_rfl)) (fun _ _ _ h => h) (Or.inl ⟨by rfl, ?_⟩) ?_ ?_
        rotate_left
        ·intro w'
         go_simp
         with_reducible rfl
        rotate_left
        ·simp only [Act.put, List.setIfInBounds_toArray, List.set_cons_zero, List.set_cons_succ, i64_w, i32_w]
         rfl
        refine pure_ (i := 6) (N := some 63) (v := ?_) (a' := ?_) #[true, false, false, true, false, true, true, false, false, false, false, false] rfl rfl (any_of HT_.out (by kernel_rfl)) (fun _ _ _ h => h) (Or.inl ⟨by rfl, ?_⟩) ?_ ?_
        rotate_left
        ·intro w'
         go_simp
         with_reducible rfl
        rotate_left
        ·simp only [Act.put, List.setIfInBounds_toArray, List.set_cons_zero, List.set_cons_succ, i64_w, i32_w]
         rfl
        refine take_ (i := 1) (N := some 58) (v := ?_) (a' := ?_) #[true, true, false, true, false, true, true, false, false, false, false, false] rfl rfl (take_ofW HT_.out HW_.out (by kernel_rfl)) (fun _ _ _ h => h) (Or.inl ⟨by rfl, ?_⟩) hHeld ?_ ?_
        rotate_left
        ·rintro w' ⟨s0, s1, s2, s3, s4, s5, s6, s7⟩
         go_simp
         with_reducible rfl
        rotate_left
        ·simp only [Act.put, List.setIfInBounds_toArray, List.set_cons_zero, List.set_cons_succ, i64_w, i32_w]
         rfl
        refine pure_ (i := 2) (N := some 59) (v := ?_) (a' := ?_) #[true, true, true, true, false, true, true, false, false, false, false, false] rfl rfl (any_of HT_.out (by kernel_rfl)) (fun _ _ _ h => h) (Or.inl ⟨by rfl, ?_⟩) ?_ ?_
        rotate_left
        ·intro w'
         go_simp
         with_reducible rfl
        rotate_left
        ·simp only [Act.put, List.setIfInBounds_toArray, List.set_cons_zero, List.set_cons_succ, i64_w, i32_w]
         rfl
        refine take_ (i := 4) (N := some 61) (v := ?_) (a' := ?_) #[true, true, true, true, true, true, true, false, false, false, false, false] rfl rfl (take_ofW HT_.out HW_.out (by kernel_rfl)) (fun _ _ _ h => h) (Or.inl ⟨by rfl, ?_⟩) hHeld ?_ ?_
        rotate_left
        ·rintro w' ⟨s0, s1, s2, s3, s4, s5, s6, s7⟩
         go_simp
         with_reducible rfl
        rotate_left
        ·simp only [Act.put, List.setIfInBounds_toArray, List.set_cons_zero, List.set_cons_succ, i64_w, i32_w]
         rfl
        refine pure_ (i := 8) (N := some 65) (v := ?_) (a' := ?_) #[true, true, true, true, true, true, true, false, true, false, false, false] rfl rfl (any_of HT_.out (by kernel_rfl)) (fun _ _ _ h => h) (Or.inl ⟨by rfl, ?_⟩) ?_ ?_
        rotate_left
        ·intro w'
         go_simp
         with_reducible rfl
        rotate_left
        ·simp only [Act.put, List.setIfInBounds_toArray, List.set_cons_zero, List.set_cons_succ, i64_w, i32_w]
         rfl
        refine one_ (i := 7) (N := some 64) #[true, true, true, true, true, true, true, true, true, false, false, false] rfl rfl (one_of HT_.out (by kernel_rfl)) (by decide) (fun K hK => ?_)
        refine goes_ Tryd.func50 (by kernel_rfl) rfl #[.int .i64 ((rd_T37 y146 x14_1).f7), .int .i64 (wrap64 (ji2 + 1))] (by rfl) rfl rfl (by (try simp only [List.map_toArray, List.map_cons, List.map_nil]); first | done | (simp only [hji2]; rfl) | rfl | (simp only [List.length_drop, List.length_take]; rfl)) ?_
        with_reducible refine (tautochronelaw13_rest.calls ((rd_T37 y146 x14_1).f7) (wrap64 (ji2 + 1)) t165 _ A35.out).mono ?_
        rintro e w' ⟨rfl, ⟨nd, rfl⟩⟩
        refine ⟨_, rfl, ?_⟩
        refine hK.out _ _ ⟨(blk_cell BK154.out 0).trans rfl, (blk_cell BK154.out 1).trans rfl, (blk_cell BK154.out 2).trans rfl, (blk_cell BK154.out 3).trans rfl, (blk_cell BK154.out 4).trans rfl, (blk_cell BK154.out 5).trans rfl, (blk_cell BK154.out 6).trans rfl, (blk_cell BK154.out 7).trans rfl⟩ (fun hHeld => ?_)
        clear hK K
        refine norm_ (a' := ?_) ?_ ?_
        rotate_left
        ·show Act.put _ (some 64) _ = _
         simp only [Act.put, List.setIfInBounds_toArray, List.set_cons_zero, List.set_cons_succ, i64_w, i32_w]
         rfl
        refine last_ (i := 9) (N := none) #[true, true, true, true, true, true, true, true, true, true, false, false] rfl rfl (one_of HT_.out (by kernel_rfl)) (by decide) (fun K hK => ?_)
        have hs48 : w47.cell? ⟨gb154, 6, none⟩ = some (.int .u64 ((rd_T37 y146 x14_1).f6)) := (blk_cell BK154.out 6).trans rfl
        have hfs48 := blk_frozen BK154.out 6
        refine skip_ (w1 := ?_) (by rfl) rfl ?_ ?_
        rotate_left
        ·go_simp
         rfl
        refine hK.out _ _ ?_
        clear hK K
        refine pure_ (i := 10) (N := some 66) (v := ?_) (a' := ?_) #[true, true, true, true, true, true, true, true, true, true, true, false] rfl rfl (any_of HT_.out (by kernel_rfl)) (fun _ _ _ h => h) (Or.inl ⟨by rfl, ?_⟩) ?_ ?_
        rotate_left
        ·intro w'
         go_simp
         with_reducible rfl
        rotate_left
        ·simp only [Act.put, List.setIfInBounds_toArray, List.set_cons_zero, List.set_cons_succ, i64_w, i32_w]
         rfl
        refine last_ (i := 11) (N := none) #[true, true, true, true, true, true, true, true, true, true, true, true] rfl rfl (one_of HT_.out (by kernel_rfl)) (by decide) (fun K hK => ?_)
        have hs49 : w47.cell? ⟨gb154, 7, none⟩ = some (.int .i64 ((rd_T37 y146 x14_1).f7)) := (blk_cell BK154.out 7).trans rfl
        have hfs49 := blk_frozen BK154.out 7
        refine skip_ (w1 := ?_) (by rfl) rfl ?_ ?_
        rotate_left
        ·go_simp
         rfl
        refine hK.out _ _ ?_
        clear hK K
        refine done_ (done_of HT_.out (by kernel_rfl)) ?_
        have hcz50_0 : w47.cell? ⟨gb154, 0, none⟩ = some (.int .i64 t155) := (blk_cell BK154.out 0).trans rfl
        have hcz50_1 : w47.cell? ⟨gb154, 1, none⟩ = some (.int .i64 t156) := (blk_cell BK154.out 1).trans rfl
        have hcz50_2 : w47.cell? ⟨gb154, 2, none⟩ = some (.int .i64 t157) := (blk_cell BK154.out 2).trans rfl
        have hcz50_3 : w47.cell? ⟨gb154, 3, none⟩ = some (.int .i64 (-1)) := (blk_cell BK154.out 3).trans rfl
        have hcz50_4 : w47.cell? ⟨gb154, 4, none⟩ = some (.int .i64 t159) := (blk_cell BK154.out 4).trans rfl
        have hcz50_5 : w47.cell? ⟨gb154, 5, none⟩ = some (.int .i64 t160) := (blk_cell BK154.out 5).trans rfl
        have hcz50_6 : w47.cell? ⟨gb154, 6, none⟩ = some (.int .u64 ((rd_T37 y146 x14_1).f6)) := (blk_cell BK154.out 6).trans rfl
        have hcz50_7 : w47.cell? ⟨gb154, 7, none⟩ = some (.int .i64 ((rd_T37 y146 x14_1).f7)) := (blk_cell BK154.out 7).trans rfl
        have hfz50_0 := blk_frozen BK154.out 0
        have hfz50_1 := blk_frozen BK154.out 1
        have hfz50_2 := blk_frozen BK154.out 2
        have hfz50_3 := blk_frozen BK154.out 3
        have hfz50_4 := blk_frozen BK154.out 4
        have hfz50_5 := blk_frozen BK154.out 5
        have hfz50_6 := blk_frozen BK154.out 6
        have hfz50_7 := blk_frozen BK154.out 7
        try go_wp2_with (first | ((with_reducible refine gate_builtin (b := .append) (xs := #[.tmp 67, .tmp 69]) rfl ?_); at_builtin; refine Kd.R_append k37 (w0 := w) w.heap.size rfl (.tmp 67) (.tmp 69) 22 37 (.agg #[(.int .i64 0), (.int .i64 0), (.int .i64 0), (.int .i64 0), (.int .i64 0), (.int .i64 0), (.int .u64 0), (.int .i64 0)]) 64 rfl Tryd.underlying22 info37 rfl (by decide) (by omega) u3 x3_1 (⟨t155, t156, t157, (-1), t159, t160, Int.tmod ((rd_T37 y146 x14_1).f6) 8, t165⟩ : S37) [.int .i64 t155, .int .i64 t156, .int .i64 t157, .int .i64 (-1), .int .i64 t159, .int .i64 t160, .int .u64 (Int.tmod ((rd_T37 y146 x14_1).f6) 8), .int .i64 t165] (fun k_ => k_ ≠ gb154) (fun _ => False) rfl (by first | (go_simp; done) | (go_simp; rfl)) ?aP (fun _ hk => hk.elim) ?aF ?aO ?aB ?aS ?aL ?_; (case aP => exact k37_mkM _ _ _ (⟨t155, t156, t157, (-1), t159, t160, Int.tmod ((rd_T37 y146 x14_1).f6) 8, t165⟩ : S37)); (case aB => exact (by repeat (first | (with_reducible first | exact HB.out | apply below_alloc | apply pw_below_drewN | apply below_drew1 | refine below_set ?_ GE154.out) | exact HB.out))); (case aF => exact (fun k_ hk => Kd.freshB (g := gb154) (o := .cells #[.int .i64 t155, .int .i64 t156, .int .i64 t157, .int .i64 (-1), .int .i64 t159, .int .i64 t160, .int .u64 (Int.tmod ((rd_T37 y146 x14_1).f6) 8), .int .i64 t165] 37 (0, 0)) (by (with_reducible repeat (first | refine blk_drewN ?_ _ | refine blk_drew ?_ | refine blk_alloc ?_ _)); refine blk_put (cs := #[.int .i64 t155, .int .i64 t156, .int .i64 t157, .int .i64 (-1), .int .i64 t159, .int .i64 t160, .int .u64 (Int.tmod ((rd_T37 y146 x14_1).f6) 8), .int .i64 ((rd_T37 y146 x14_1).f7)]) ?_ 7 _ rfl; refine blk_put (cs := #[.int .i64 t155, .int .i64 t156, .int .i64 t157, .int .i64 (-1), .int .i64 t159, .int .i64 t160, .int .u64 ((rd_T37 y146 x14_1).f6), .int .i64 ((rd_T37 y146 x14_1).f7)]) ?_ 6 _ rfl; (with_reducible repeat (first | refine blk_drewN ?_ _ | refine blk_drew ?_ | refine blk_alloc ?_ _)); exact BK154.out) k_ hk)); (case aO => exact (by (with_reducible repeat (first | apply Kd.R_alloc | apply Kd.R_drewN | apply Kd.R_drew)); exact Kd.R_mono (Kd.R_far (p := ⟨gb154, 7, none⟩) (Kd.R_far (p := ⟨gb154, 6, none⟩) (Kd.R_mono HO_3.out (fun k_ hk => (⟨hk, hk⟩ : _ ∧ k_ ≠ gb154))) (fun _ hk => hk.2) (.int .u64 (Int.tmod ((rd_T37 y146 x14_1).f6) 8))) (fun _ hk => hk.2) (.int .i64 t165)) (fun _ hk => hk.1))); (case aS => exact (below_size (by repeat (first | (with_reducible first | exact HB.out | apply below_alloc | apply pw_below_drewN | apply below_drew1 | refine below_set ?_ GE154.out) | exact HB.out)))); (case aL => have := LMc36.out; omega); intro v167 w51 ho hb hg hat; rw [← Ny166.out] at ho; have n0_ := Aside0.mk (blk_grown (g := gb154) (o := .cells #[.int .i64 t155, .int .i64 t156, .int .i64 t157, .int .i64 (-1), .int .i64 t159, .int .i64 t160, .int .u64 (Int.tmod ((rd_T37 y146 x14_1).f6) 8), .int .i64 t165] 37 (0, 0)) (by (with_reducible repeat (first | refine blk_drewN ?_ _ | refine blk_drew ?_ | refine blk_alloc ?_ _)); refine blk_put (cs := #[.int .i64 t155, .int .i64 t156, .int .i64 t157, .int .i64 (-1), .int .i64 t159, .int .i64 t160, .int .u64 (Int.tmod ((rd_T37 y146 x14_1).f6) 8), .int .i64 ((rd_T37 y146 x14_1).f7)]) ?_ 7 _ rfl; refine blk_put (cs := #[.int .i64 t155, .int .i64 t156, .int .i64 t157, .int .i64 (-1), .int .i64 t159, .int .i64 t160, .int .u64 ((rd_T37 y146 x14_1).f6), .int .i64 ((rd_T37 y146 x14_1).f7)]) ?_ 6 _ rfl; (with_reducible repeat (first | refine blk_drewN ?_ _ | refine blk_drew ?_ | refine blk_alloc ?_ _)); exact BK154.out) hg (Kd.R_away HO_3.out (fun _ hk => hk))); have n1_ := Aside0.mk (hb); have n2_ := Aside0.mk (ho); clear BK154; clear HB; clear HO_3; have BK154 := n0_; have HB := n1_; have HO168 := n2_; clear n0_ n1_ n2_; clear ho hb hg hat))
        go_roundg k1
        case measure => have := HK1.out; omega
        case rel => exact ⟨(y166), (wrap64 (x14_1 + 1)), (by first | rfl | (simp; done) | (simp [*]; done)), H', ⟨by have := HK1.out; omega⟩, ⟨by (with_reducible repeat (first | apply Kd.R_alloc | apply Kd.R_drewN | apply Kd.R_drew)); exact Kd.R_mono HO168.out (fun _ hk => trivial)⟩, ⟨by repeat (first | (with_reducible first | exact HB.out | apply below_alloc | apply pw_below_drewN | apply below_drew1 | refine below_set ?_ GE154.out) | exact HB.out)⟩⟩
       ·rw [if_neg c34] at H
        have c34b0 : (t155 == 5) = false := beq_eq_false_iff_ne.mpr c34
        have c34b1 : (t155 != 5) = true := bne_iff_ne.mpr c34
        replace H := Option.bind_eq_some_iff.mp H
        obtain ⟨t169, A520, H⟩ := H
        replace H : (if x3_1.length < 2199023255552 then (tautochronelaw13_Small.l0 k1 (x3_1 ++ [(⟨t155, t156, t157, t158, t159, t160, Int.tmod ((rd_T37 y146 x14_1).f6) 8, t169⟩ : S37)]) ji2 y146 (y146.length : Int) (wrap64 (x14_1 + 1))) else (none)) = some r := H
        have A52 := Aside0.mk A520
        clear A520
        by_cases c53 : x3_1.length < 2199023255552
        rotate_left
        ·rw [if_neg c53] at H; exact absurd H (by simp)
        rw [if_pos c53] at H
        have LMc53 := Aside0.mk c53
        clear c53
        obtain ⟨y170, hy170⟩ : ∃ y_ : List (S37), y_ = (x3_1 ++ [(⟨t155, t156, t157, t158, t159, t160, Int.tmod ((rd_T37 y146 x14_1).f6) 8, t169⟩ : S37)]) := ⟨_, rfl⟩
        replace H : (tautochronelaw13_Small.l0 k1 y170 ji2 y146 (y146.length : Int) (wrap64 (x14_1 + 1))) = some r := by first | (rw [hy170]; with_reducible exact H) | (have H2_ := (Option.bind_some _ _).symm.trans H; rw [hy170]; with_reducible exact H2_) | (have H2_ := (Option.bind_some _ _).symm.trans H; with_reducible exact H2_) | with_reducible exact H | (rw [hy170]; exact H) | exact H
        have Ny170 := Aside0.mk hy170
        clear hy170
        have H' := Aside0.mk H
        clear H
        have p153 : 0 ≤ (x14_1 : Int) := of_decide_eq_true (by first | (with_reducible assumption) | assumption)
        have q153 : x14_1 < (y146.length : Int) := of_decide_eq_true (by first | (with_reducible assumption) | assumption)
        obtain ⟨ad153, e153, hx153_0, hx153_1, hx153_2, hx153_3, hx153_4, hx153_5, hx153_6, hx153_7⟩ := at_T37 HR149.out x14_1 p153 q153
        cases e153
        replace hx153_0 := (HB.out.cell (World.block_lt_of_cell? w _ hx153_0)).trans hx153_0
        replace hx153_1 := (HB.out.cell (World.block_lt_of_cell? w _ hx153_1)).trans hx153_1
        replace hx153_2 := (HB.out.cell (World.block_lt_of_cell? w _ hx153_2)).trans hx153_2
        replace hx153_3 := (HB.out.cell (World.block_lt_of_cell? w _ hx153_3)).trans hx153_3
        replace hx153_4 := (HB.out.cell (World.block_lt_of_cell? w _ hx153_4)).trans hx153_4
        replace hx153_5 := (HB.out.cell (World.block_lt_of_cell? w _ hx153_5)).trans hx153_5
        replace hx153_6 := (HB.out.cell (World.block_lt_of_cell? w _ hx153_6)).trans hx153_6
        replace hx153_7 := (HB.out.cell (World.block_lt_of_cell? w _ hx153_7)).trans hx153_7
        replace p153 := eq_true p153
        replace q153 := eq_true q153
        try go_wp2_with (first | ((with_reducible refine gate_dst (N := 6) rfl ?_); refine box_event ?hg (N := 6) ?hd (cs := #[.int .i64 0, .int .i64 0, .int .i64 0, .int .i64 0, .int .i64 0, .int .i64 0, .int .u64 0, .int .i64 0]) (t := 37) ?hr ?_; (case hd => rfl); (case hg => rfl); (case hr => first | (go_simp; done) | (go_simp; rfl)); intro gb154 hg w54 hbox hb; have n0_ := Aside0.mk (Kd.R_below (Kd.R_elderB (by (with_reducible repeat (first | apply Kd.R_alloc | apply Kd.R_drewN | apply Kd.R_drew)); exact HO_3.out) gb154 (Nat.le_of_eq hg.symm)) hb); have n1_ := Aside0.mk (below_step (by repeat (first | (with_reducible first | exact HB.out | apply below_alloc | apply pw_below_drewN | apply below_drew1) | exact HB.out)) hb); have n2_ := Aside0.mk (hbox); have n3_ := Aside0.mk ((by rw [hg]; exact (below_size (by repeat (first | (with_reducible first | exact HB.out | apply below_alloc | apply pw_below_drewN | apply below_drew1) | exact HB.out))) : w.heap.size ≤ gb154)); have n4_ := Aside0.mk ((by rw [hg]; exact (below_size (by repeat (first | (with_reducible first | exact HB.out | apply below_alloc | apply pw_below_drewN | apply below_drew1) | exact HB.out))) : w.heap.size ≤ gb154)); clear HO_3; clear HB; have HO_3 := n0_; have HB := n1_; have BK154 := n2_; have GW154 := n3_; have GE154 := n4_; clear n0_ n1_ n2_ n3_ n4_; clear hb hbox hg; have hcz55_0 : w54.cell? ⟨gb154, 0, none⟩ = some (.int .i64 0) := (blk_cell BK154.out 0).trans rfl; have hcz55_1 : w54.cell? ⟨gb154, 1, none⟩ = some (.int .i64 0) := (blk_cell BK154.out 1).trans rfl; have hcz55_2 : w54.cell? ⟨gb154, 2, none⟩ = some (.int .i64 0) := (blk_cell BK154.out 2).trans rfl; have hcz55_3 : w54.cell? ⟨gb154, 3, none⟩ = some (.int .i64 0) := (blk_cell BK154.out 3).trans rfl; have hcz55_4 : w54.cell? ⟨gb154, 4, none⟩ = some (.int .i64 0) := (blk_cell BK154.out 4).trans rfl; have hcz55_5 : w54.cell? ⟨gb154, 5, none⟩ = some (.int .i64 0) := (blk_cell BK154.out 5).trans rfl; have hcz55_6 : w54.cell? ⟨gb154, 6, none⟩ = some (.int .u64 0) := (blk_cell BK154.out 6).trans rfl; have hcz55_7 : w54.cell? ⟨gb154, 7, none⟩ = some (.int .i64 0) := (blk_cell BK154.out 7).trans rfl; have hfz55_0 := blk_frozen BK154.out 0; have hfz55_1 := blk_frozen BK154.out 1; have hfz55_2 := blk_frozen BK154.out 2; have hfz55_3 := blk_frozen BK154.out 3; have hfz55_4 := blk_frozen BK154.out 4; have hfz55_5 := blk_frozen BK154.out 5; have hfz55_6 := blk_frozen BK154.out 6; have hfz55_7 := blk_frozen BK154.out 7) | ((with_reducible refine gate_callee (f := 50) rfl ?_); refine goesL_ (some 20) rfl rfl Tryd.func50 (by kernel_rfl) rfl #[.int .i64 ((rd_T37 y146 x14_1).f0), .int .i64 14] rfl (by (try simp only [List.map_toArray, List.map_cons, List.map_nil]); first | done | rfl | (simp only [List.length_drop, List.length_take]; rfl)) ?_; (with_reducible refine (tautochronelaw13_rest.calls ((rd_T37 y146 x14_1).f0) 14 t155 _ A9.out).mono ?_); rintro e w' ⟨rfl, ⟨nd, rfl⟩⟩; refine ⟨_, rfl, ?_⟩) | ((with_reducible refine gate_callee (f := 50) rfl ?_); refine goesL_ (some 24) rfl rfl Tryd.func50 (by kernel_rfl) rfl #[.int .i64 ((rd_T37 y146 x14_1).f1), .int .i64 10] rfl (by (try simp only [List.map_toArray, List.map_cons, List.map_nil]); first | done | rfl | (simp only [List.length_drop, List.length_take]; rfl)) ?_; (with_reducible refine (tautochronelaw13_rest.calls ((rd_T37 y146 x14_1).f1) 10 t156 _ A10.out).mono ?_); rintro e w' ⟨rfl, ⟨nd, rfl⟩⟩; refine ⟨_, rfl, ?_⟩))
        have n0_ : Aside0 (Kd.R k37 37 ((((((((((w54.setCell ⟨gb154, 0, none⟩ (.int .i64 ((rd_T37 y146 x14_1).f0))).setCell ⟨gb154, 1, none⟩ (.int .i64 ((rd_T37 y146 x14_1).f1))).setCell ⟨gb154, 2, none⟩ (.int .i64 ((rd_T37 y146 x14_1).f2))).setCell ⟨gb154, 3, none⟩ (.int .i64 ((rd_T37 y146 x14_1).f3))).setCell ⟨gb154, 4, none⟩ (.int .i64 ((rd_T37 y146 x14_1).f4))).setCell ⟨gb154, 5, none⟩ (.int .i64 ((rd_T37 y146 x14_1).f5))).setCell ⟨gb154, 6, none⟩ (.int .u64 ((rd_T37 y146 x14_1).f6))).setCell ⟨gb154, 7, none⟩ (.int .i64 ((rd_T37 y146 x14_1).f7))).setCell ⟨gb154, 0, none⟩ (.int .i64 t155)).setCell ⟨gb154, 1, none⟩ (.int .i64 t156)) w.heap.size (fun k_ => k_ ≠ gb154) u3 x3_1) := ⟨by (with_reducible repeat (first | apply Kd.R_alloc | apply Kd.R_drewN | apply Kd.R_drew)); exact Kd.R_mono (Kd.R_far (p := ⟨gb154, 1, none⟩) (Kd.R_far (p := ⟨gb154, 0, none⟩) (Kd.R_far (p := ⟨gb154, 7, none⟩) (Kd.R_far (p := ⟨gb154, 6, none⟩) (Kd.R_far (p := ⟨gb154, 5, none⟩) (Kd.R_far (p := ⟨gb154, 4, none⟩) (Kd.R_far (p := ⟨gb154, 3, none⟩) (Kd.R_far (p := ⟨gb154, 2, none⟩) (Kd.R_far (p := ⟨gb154, 1, none⟩) (Kd.R_far (p := ⟨gb154, 0, none⟩) (Kd.R_mono HO_3.out (fun k_ hk => (⟨hk, hk.2⟩ : _ ∧ k_ ≠ gb154))) (fun _ hk => hk.2) (.int .i64 ((rd_T37 y146 x14_1).f0))) (fun _ hk => hk.2) (.int .i64 ((rd_T37 y146 x14_1).f1))) (fun _ hk => hk.2) (.int .i64 ((rd_T37 y146 x14_1).f2))) (fun _ hk => hk.2) (.int .i64 ((rd_T37 y146 x14_1).f3))) (fun _ hk => hk.2) (.int .i64 ((rd_T37 y146 x14_1).f4))) (fun _ hk => hk.2) (.int .i64 ((rd_T37 y146 x14_1).f5))) (fun _ hk => hk.2) (.int .u64 ((rd_T37 y146 x14_1).f6))) (fun _ hk => hk.2) (.int .i64 ((rd_T37 y146 x14_1).f7))) (fun _ hk => hk.2) (.int .i64 t155)) (fun _ hk => hk.2) (.int .i64 t156)) (fun _ hk => hk.1.2)⟩
        have n1_ : Aside0 (((((((((((w54.setCell ⟨gb154, 0, none⟩ (.int .i64 ((rd_T37 y146 x14_1).f0))).setCell ⟨gb154, 1, none⟩ (.int .i64 ((rd_T37 y146 x14_1).f1))).setCell ⟨gb154, 2, none⟩ (.int .i64 ((rd_T37 y146 x14_1).f2))).setCell ⟨gb154, 3, none⟩ (.int .i64 ((rd_T37 y146 x14_1).f3))).setCell ⟨gb154, 4, none⟩ (.int .i64 ((rd_T37 y146 x14_1).f4))).setCell ⟨gb154, 5, none⟩ (.int .i64 ((rd_T37 y146 x14_1).f5))).setCell ⟨gb154, 6, none⟩ (.int .u64 ((rd_T37 y146 x14_1).f6))).setCell ⟨gb154, 7, none⟩ (.int .i64 ((rd_T37 y146 x14_1).f7))).setCell ⟨gb154, 0, none⟩ (.int .i64 t155)).setCell ⟨gb154, 1, none⟩ (.int .i64 t156)).heap[gb154]? = some (.cells #[.int .i64 t155, .int .i64 t156, .int .i64 ((rd_T37 y146 x14_1).f2), .int .i64 ((rd_T37 y146 x14_1).f3), .int .i64 ((rd_T37 y146 x14_1).f4), .int .i64 ((rd_T37 y146 x14_1).f5), .int .u64 ((rd_T37 y146 x14_1).f6), .int .i64 ((rd_T37 y146 x14_1).f7)] 37 (0, 0))) := ⟨by (with_reducible repeat (first | refine blk_drewN ?_ _ | refine blk_drew ?_ | refine blk_alloc ?_ _)); refine blk_put (cs := #[.int .i64 t155, .int .i64 ((rd_T37 y146 x14_1).f1), .int .i64 ((rd_T37 y146 x14_1).f2), .int .i64 ((rd_T37 y146 x14_1).f3), .int .i64 ((rd_T37 y146 x14_1).f4), .int .i64 ((rd_T37 y146 x14_1).f5), .int .u64 ((rd_T37 y146 x14_1).f6), .int .i64 ((rd_T37 y146 x14_1).f7)]) ?_ 1 _ rfl; refine blk_put (cs := #[.int .i64 ((rd_T37 y146 x14_1).f0), .int .i64 ((rd_T37 y146 x14_1).f1), .int .i64 ((rd_T37 y146 x14_1).f2), .int .i64 ((rd_T37 y146 x14_1).f3), .int .i64 ((rd_T37 y146 x14_1).f4), .int .i64 ((rd_T37 y146 x14_1).f5), .int .u64 ((rd_T37 y146 x14_1).f6), .int .i64 ((rd_T37 y146 x14_1).f7)]) ?_ 0 _ rfl; refine blk_put (cs := #[.int .i64 ((rd_T37 y146 x14_1).f0), .int .i64 ((rd_T37 y146 x14_1).f1), .int .i64 ((rd_T37 y146 x14_1).f2), .int .i64 ((rd_T37 y146 x14_1).f3), .int .i64 ((rd_T37 y146 x14_1).f4), .int .i64 ((rd_T37 y146 x14_1).f5), .int .u64 ((rd_T37 y146 x14_1).f6), .int .i64 0]) ?_ 7 _ rfl; refine blk_put (cs := #[.int .i64 ((rd_T37 y146 x14_1).f0), .int .i64 ((rd_T37 y146 x14_1).f1), .int .i64 ((rd_T37 y146 x14_1).f2), .int .i64 ((rd_T37 y146 x14_1).f3), .int .i64 ((rd_T37 y146 x14_1).f4), .int .i64 ((rd_T37 y146 x14_1).f5), .int .u64 0, .int .i64 0]) ?_ 6 _ rfl; refine blk_put (cs := #[.int .i64 ((rd_T37 y146 x14_1).f0), .int .i64 ((rd_T37 y146 x14_1).f1), .int .i64 ((rd_T37 y146 x14_1).f2), .int .i64 ((rd_T37 y146 x14_1).f3), .int .i64 ((rd_T37 y146 x14_1).f4), .int .i64 0, .int .u64 0, .int .i64 0]) ?_ 5 _ rfl; refine blk_put (cs := #[.int .i64 ((rd_T37 y146 x14_1).f0), .int .i64 ((rd_T37 y146 x14_1).f1), .int .i64 ((rd_T37 y146 x14_1).f2), .int .i64 ((rd_T37 y146 x14_1).f3), .int .i64 0, .int .i64 0, .int .u64 0, .int .i64 0]) ?_ 4 _ rfl; refine blk_put (cs := #[.int .i64 ((rd_T37 y146 x14_1).f0), .int .i64 ((rd_T37 y146 x14_1).f1), .int .i64 ((rd_T37 y146 x14_1).f2), .int .i64 0, .int .i64 0, .int .i64 0, .int .u64 0, .int .i64 0]) ?_ 3 _ rfl; refine blk_put (cs := #[.int .i64 ((rd_T37 y146 x14_1).f0), .int .i64 ((rd_T37 y146 x14_1).f1), .int .i64 0, .int .i64 0, .int .i64 0, .int .i64 0, .int .u64 0, .int .i64 0]) ?_ 2 _ rfl; refine blk_put (cs := #[.int .i64 ((rd_T37 y146 x14_1).f0), .int .i64 0, .int .i64 0, .int .i64 0, .int .i64 0, .int .i64 0, .int .u64 0, .int .i64 0]) ?_ 1 _ rfl; refine blk_put (cs := #[.int .i64 0, .int .i64 0, .int .i64 0, .int .i64 0, .int .i64 0, .int .i64 0, .int .u64 0, .int .i64 0]) ?_ 0 _ rfl; (with_reducible repeat (first | refine blk_drewN ?_ _ | refine blk_drew ?_ | refine blk_alloc ?_ _)); exact BK154.out⟩
        have n2_ : Aside0 (Below w.heap.size w ((((((((((w54.setCell ⟨gb154, 0, none⟩ (.int .i64 ((rd_T37 y146 x14_1).f0))).setCell ⟨gb154, 1, none⟩ (.int .i64 ((rd_T37 y146 x14_1).f1))).setCell ⟨gb154, 2, none⟩ (.int .i64 ((rd_T37 y146 x14_1).f2))).setCell ⟨gb154, 3, none⟩ (.int .i64 ((rd_T37 y146 x14_1).f3))).setCell ⟨gb154, 4, none⟩ (.int .i64 ((rd_T37 y146 x14_1).f4))).setCell ⟨gb154, 5, none⟩ (.int .i64 ((rd_T37 y146 x14_1).f5))).setCell ⟨gb154, 6, none⟩ (.int .u64 ((rd_T37 y146 x14_1).f6))).setCell ⟨gb154, 7, none⟩ (.int .i64 ((rd_T37 y146 x14_1).f7))).setCell ⟨gb154, 0, none⟩ (.int .i64 t155)).setCell ⟨gb154, 1, none⟩ (.int .i64 t156))) := ⟨by repeat (first | (with_reducible first | exact HB.out | apply below_alloc | apply pw_below_drewN | apply below_drew1 | refine below_set ?_ GE154.out) | exact HB.out)⟩
        (try clear HO_3)
        (try clear BK154)
        (try clear HB)
        generalize ((((((((((w54.setCell ⟨gb154, 0, none⟩ (.int .i64 ((rd_T37 y146 x14_1).f0))).setCell ⟨gb154, 1, none⟩ (.int .i64 ((rd_T37 y146 x14_1).f1))).setCell ⟨gb154, 2, none⟩ (.int .i64 ((rd_T37 y146 x14_1).f2))).setCell ⟨gb154, 3, none⟩ (.int .i64 ((rd_T37 y146 x14_1).f3))).setCell ⟨gb154, 4, none⟩ (.int .i64 ((rd_T37 y146 x14_1).f4))).setCell ⟨gb154, 5, none⟩ (.int .i64 ((rd_T37 y146 x14_1).f5))).setCell ⟨gb154, 6, none⟩ (.int .u64 ((rd_T37 y146 x14_1).f6))).setCell ⟨gb154, 7, none⟩ (.int .i64 ((rd_T37 y146 x14_1).f7))).setCell ⟨gb154, 0, none⟩ (.int .i64 t155)).setCell ⟨gb154, 1, none⟩ (.int .i64 t156)) = w56 at n0_ n1_ n2_ ⊢
        have HO_3 := n0_
        have BK154 := n1_
        have HB := n2_
        clear n0_ n1_ n2_
        (try (rw [drewN_self w56]; generalize hq_ : World.drewN w56 _ = w56; have n0_ : Aside0 (Kd.R k37 37 w56 w.heap.size (fun k_ => k_ ≠ gb154) u3 x3_1) := ⟨by rw [← hq_]; exact (by (with_reducible repeat (first | apply Kd.R_alloc | apply Kd.R_drewN | apply Kd.R_drew)); exact HO_3.out)⟩; have n1_ : Aside0 (w56.heap[gb154]? = some (.cells #[.int .i64 t155, .int .i64 t156, .int .i64 ((rd_T37 y146 x14_1).f2), .int .i64 ((rd_T37 y146 x14_1).f3), .int .i64 ((rd_T37 y146 x14_1).f4), .int .i64 ((rd_T37 y146 x14_1).f5), .int .u64 ((rd_T37 y146 x14_1).f6), .int .i64 ((rd_T37 y146 x14_1).f7)] 37 (0, 0))) := ⟨by rw [← hq_]; exact (by (with_reducible repeat (first | refine blk_drewN ?_ _ | refine blk_drew ?_ | refine blk_alloc ?_ _)); exact BK154.out)⟩; have n2_ : Aside0 (Below w.heap.size w w56) := ⟨by rw [← hq_]; exact (by repeat (first | (with_reducible first | exact HB.out | apply below_alloc | apply pw_below_drewN | apply below_drew1 | refine below_set ?_ GE154.out) | exact HB.out))⟩; clear HO_3 BK154 HB hq_; have HO_3 := n0_; have BK154 := n1_; have HB := n2_; clear n0_ n1_ n2_))
        have n0_ := Aside0.mk (Kd.R_drew HO_3.out)
        have n1_ := Aside0.mk (blk_drew BK154.out)
        have n2_ := Aside0.mk (below_drew1 HB.out)
        clear HO_3
        clear BK154
        clear HB
        have HO_3 := n0_
        have BK154 := n1_
        have HB := n2_
        clear n0_ n1_ n2_
        refine start_ (n := 20) (S := fun w' => w'.cell? ⟨gb154, 0, none⟩ = some (.int .i64 t155) ∧ w'.cell? ⟨gb154, 1, none⟩ = some (.int .i64 t156) ∧ w'.cell? ⟨gb154, 2, none⟩ = some (.int .i64 ((rd_T37 y146 x14_1).f2)) ∧ w'.cell? ⟨gb154, 3, none⟩ = some (.int .i64 ((rd_T37 y146 x14_1).f3)) ∧ w'.cell? ⟨gb154, 4, none⟩ = some (.int .i64 ((rd_T37 y146 x14_1).f4)) ∧ w'.cell? ⟨gb154, 5, none⟩ = some (.int .i64 ((rd_T37 y146 x14_1).f5)) ∧ w'.cell? ⟨gb154, 6, none⟩ = some (.int .u64 ((rd_T37 y146 x14_1).f6)) ∧ w'.cell? ⟨gb154, 7, none⟩ = some (.int .i64 ((rd_T37 y146 x14_1).f7))) (ds := [13, 15, 17, 19]) #[false, false, false, false, false, false, false, false, false, false, false, false, false, false, false, false, false, false, false, false] (by kernel_rfl) rfl rfl ⟨(blk_cell BK154.out 0).trans rfl, (blk_cell BK154.out 1).trans rfl, (blk_cell BK154.out 2).trans rfl, (blk_cell BK154.out 3).trans rfl, (blk_cell BK154.out 4).trans rfl, (blk_cell BK154.out 5).trans rfl, (blk_cell BK154.out 6).trans rfl, (blk_cell BK154.out 7).trans rfl⟩ (fun hHeld => ?_); refine with_tabW tautochronelaw13_Small.tab8 tautochronelaw13_Small.bits8 (fun HT_ HW_ => ?_)
        generalize w56.drew = w57 at HO_3 BK154 HB hHeld ⊢
        refine pure_ (i := 0) (N := some 26) (v := ?_) (a' := ?_) #[true, false, false, false, false, false, false, false, false, false, false, false, false, false, false, false, false, false, false, false] rfl rfl (any_of HT_.out (by kernel_rfl)) (fun _ _ _ h => h) (Or.inl ⟨by rfl, ?_⟩) ?_ ?_
        rotate_left
        ·intro w'
         go_simp
         with_reducible rfl
        rotate_left
        ·simp only [Act.put, List.setIfInBounds_toArray, List.set_cons_zero, List.set_cons_succ, i64_w, i32_w]
         rfl
        refine pure_ (i := 3) (N := some 29) (v := ?_) (a' := ?_) #[true, false, false, true, false, false, false, false, false, false, false, false, false, false, false, false, false, false, false, false] rfl rfl (any_of HT_.out (by kernel_rfl)) (fun _ _ _ h => h) (Or.inl ⟨by rfl, ?_⟩) ?_ ?_
        rotate_left
        ·intro w'
         go_simp
         with_reducible rfl
        rotate_left
        ·simp only [Act.put, List.setIfInBounds_toArray, List.set_cons_zero, List.set_cons_succ, i64_w, i32_w]
         rfl
        refine pure_ (i := 6) (N := some 32) (v := ?_) (a' := ?_) #[true, false, false, true, false, false, true, false, false, false, false, false, false, false, false, false, false, false, false, false] rfl rfl (any_of HT_.out (by kernel_rfl)) (fun _ _ _ h => h) (Or.inl ⟨by rfl, ?_⟩) ?_ ?_
        rotate_left
        ·intro w'
         go_simp
         with_reducible rfl
        rotate_left
        ·simp only [Act.put, List.setIfInBounds_toArray, List.set_cons_zero, List.set_cons_succ, i64_w, i32_w]
         rfl
        refine pure_ (i := 9) (N := some 35) (v := ?_) (a' := ?_) #[true, false, false, true, false, false, true, false, false, true, false, false, false, false, false, false, false, false, false, false] rfl rfl (any_of HT_.out (by kernel_rfl)) (fun _ _ _ h => h) (Or.inl ⟨by rfl, ?_⟩) ?_ ?_
        rotate_left
        ·intro w'
         go_simp
         with_reducible rfl
        rotate_left
        ·simp only [Act.put, List.setIfInBounds_toArray, List.set_cons_zero, List.set_cons_succ, i64_w, i32_w]
         rfl
        refine take_ (i := 1) (N := some 27) (v := ?_) (a' := ?_) #[true, true, false, true, false, false, true, false, false, true, false, false, false, false, false, false, false, false, false, false] rfl rfl (take_ofW HT_.out HW_.out (by kernel_rfl)) (fun _ _ _ h => h) (Or.inl ⟨by rfl, ?_⟩) hHeld ?_ ?_
        rotate_left
        ·rintro w' ⟨s0, s1, s2, s3, s4, s5, s6, s7⟩
         go_simp
         with_reducible rfl
        rotate_left
        ·simp only [Act.put, List.setIfInBounds_toArray, List.set_cons_zero, List.set_cons_succ, i64_w, i32_w]
         rfl
        refine take_ (i := 4) (N := some 30) (v := ?_) (a' := ?_) #[true, true, false, true, true, false, true, false, false, true, false, false, false, false, false, false, false, false, false, false] rfl rfl (take_ofW HT_.out HW_.out (by kernel_rfl)) (fun _ _ _ h => h) (Or.inl ⟨by rfl, ?_⟩) hHeld ?_ ?_
        rotate_left
        ·rintro w' ⟨s0, s1, s2, s3, s4, s5, s6, s7⟩
         go_simp
         with_reducible rfl
        rotate_left
        ·simp only [Act.put, List.setIfInBounds_toArray, List.set_cons_zero, List.set_cons_succ, i64_w, i32_w]
         rfl
        refine take_ (i := 7) (N := some 33) (v := ?_) (a' := ?_) #[true, true, false, true, true, false, true, true, false, true, false, false, false, false, false, false, false, false, false, false] rfl rfl (take_ofW HT_.out HW_.out (by kernel_rfl)) (fun _ _ _ h => h) (Or.inl ⟨by rfl, ?_⟩) hHeld ?_ ?_
        rotate_left
        ·rintro w' ⟨s0, s1, s2, s3, s4, s5, s6, s7⟩
         go_simp
         with_reducible rfl
        rotate_left
        ·simp only [Act.put, List.setIfInBounds_toArray, List.set_cons_zero, List.set_cons_succ, i64_w, i32_w]
         rfl
        refine take_ (i := 10) (N := some 36) (v := ?_) (a' := ?_) #[true, true, false, true, true, false, true, true, false, true, true, false, false, false, false, false, false, false, false, false] rfl rfl (take_ofW HT_.out HW_.out (by kernel_rfl)) (fun _ _ _ h => h) (Or.inl ⟨by rfl, ?_⟩) hHeld ?_ ?_
        rotate_left
        ·rintro w' ⟨s0, s1, s2, s3, s4, s5, s6, s7⟩
         go_simp
         with_reducible rfl
        rotate_left
        ·simp only [Act.put, List.setIfInBounds_toArray, List.set_cons_zero, List.set_cons_succ, i64_w, i32_w]
         rfl
        refine one_ (i := 2) (N := some 28) #[true, true, true, true, true, false, true, true, false, true, true, false, false, false, false, false, false, false, false, false] rfl rfl (one_of HT_.out (by kernel_rfl)) (by decide) (fun K hK => ?_)
        refine goes_ Tryd.func50 (by kernel_rfl) rfl #[.int .i64 ((rd_T37 y146 x14_1).f2), .int .i64 8] (by rfl) rfl rfl (by (try simp only [List.map_toArray, List.map_cons, List.map_nil]); first | done | rfl | (simp only [List.length_drop, List.length_take]; rfl)) ?_
        with_reducible refine (tautochronelaw13_rest.calls ((rd_T37 y146 x14_1).f2) 8 t157 _ A11.out).mono ?_
        rintro e w' ⟨rfl, ⟨nd, rfl⟩⟩
        refine ⟨_, rfl, ?_⟩
        refine hK.out _ _ ⟨(blk_cell BK154.out 0).trans rfl, (blk_cell BK154.out 1).trans rfl, (blk_cell BK154.out 2).trans rfl, (blk_cell BK154.out 3).trans rfl, (blk_cell BK154.out 4).trans rfl, (blk_cell BK154.out 5).trans rfl, (blk_cell BK154.out 6).trans rfl, (blk_cell BK154.out 7).trans rfl⟩ (fun hHeld => ?_)
        clear hK K
        refine norm_ (a' := ?_) ?_ ?_
        rotate_left
        ·show Act.put _ (some 28) _ = _
         simp only [Act.put, List.setIfInBounds_toArray, List.set_cons_zero, List.set_cons_succ, i64_w, i32_w]
         rfl
        refine pure_ (i := 12) (N := some 38) (v := ?_) (a' := ?_) #[true, true, true, true, true, false, true, true, false, true, true, false, true, false, false, false, false, false, false, false] rfl rfl (any_of HT_.out (by kernel_rfl)) (fun _ _ _ h => h) (Or.inl ⟨by rfl, ?_⟩) ?_ ?_
        rotate_left
        ·intro w'
         go_simp
         with_reducible rfl
        rotate_left
        ·simp only [Act.put, List.setIfInBounds_toArray, List.set_cons_zero, List.set_cons_succ, i64_w, i32_w]
         rfl
        refine one_ (i := 5) (N := some 31) #[true, true, true, true, true, true, true, true, false, true, true, false, true, false, false, false, false, false, false, false] rfl rfl (one_of HT_.out (by kernel_rfl)) (by decide) (fun K hK => ?_)
        refine goes_ Tryd.func50 (by kernel_rfl) rfl #[.int .i64 ((rd_T37 y146 x14_1).f3), .int .i64 8] (by rfl) rfl rfl (by (try simp only [List.map_toArray, List.map_cons, List.map_nil]); first | done | rfl | (simp only [List.length_drop, List.length_take]; rfl)) ?_
        with_reducible refine (tautochronelaw13_rest.calls ((rd_T37 y146 x14_1).f3) 8 t158 _ A12.out).mono ?_
        rintro e w' ⟨rfl, ⟨nd, rfl⟩⟩
        refine ⟨_, rfl, ?_⟩
        refine hK.out _ _ ⟨(blk_cell BK154.out 0).trans rfl, (blk_cell BK154.out 1).trans rfl, (blk_cell BK154.out 2).trans rfl, (blk_cell BK154.out 3).trans rfl, (blk_cell BK154.out 4).trans rfl, (blk_cell BK154.out 5).trans rfl, (blk_cell BK154.out 6).trans rfl, (blk_cell BK154.out 7).trans rfl⟩ (fun hHeld => ?_)
        clear hK K
        refine norm_ (a' := ?_) ?_ ?_
        rotate_left
        ·show Act.put _ (some 31) _ = _
         simp only [Act.put, List.setIfInBounds_toArray, List.set_cons_zero, List.set_cons_succ, i64_w, i32_w]
         rfl
        refine one_ (i := 8) (N := some 34) #[true, true, true, true, true, true, true, true, true, true, true, false, true, false, false, false, false, false, false, false] rfl rfl (one_of HT_.out (by kernel_rfl)) (by decide) (fun K hK => ?_)
        refine goes_ Tryd.func50 (by kernel_rfl) rfl #[.int .i64 ((rd_T37 y146 x14_1).f4), .int .i64 8] (by rfl) rfl rfl (by (try simp only [List.map_toArray, List.map_cons, List.map_nil]); first | done | rfl | (simp only [List.length_drop, List.length_take]; rfl)) ?_
        with_reducible refine (tautochronelaw13_rest.calls ((rd_T37 y146 x14_1).f4) 8 t159 _ A13.out).mono ?_
        rintro e w' ⟨rfl, ⟨nd, rfl⟩⟩
        refine ⟨_, rfl, ?_⟩
        refine hK.out _ _ ⟨(blk_cell BK154.out 0).trans rfl, (blk_cell BK154.out 1).trans rfl, (blk_cell BK154.out 2).trans rfl, (blk_cell BK154.out 3).trans rfl, (blk_cell BK154.out 4).trans rfl, (blk_cell BK154.out 5).trans rfl, (blk_cell BK154.out 6).trans rfl, (blk_cell BK154.out 7).trans rfl⟩ (fun hHeld => ?_)
        clear hK K
        refine norm_ (a' := ?_) ?_ ?_
        rotate_left
        ·show Act.put _ (some 34) _ = _
         simp only [Act.put, List.setIfInBounds_toArray, List.set_cons_zero, List.set_cons_succ, i64_w, i32_w]
         rfl
        refine one_ (i := 11) (N := some 37) #[true, true, true, true, true, true, true, true, true, true, true, true, true, false, false, false, false, false, false, false] rfl rfl (one_of HT_.out (by kernel_rfl)) (by decide) (fun K hK => ?_)
        refine goes_ Tryd.func50 (by kernel_rfl) rfl #[.int .i64 ((rd_T37 y146 x14_1).f5), .int .i64 8] (by rfl) rfl rfl (by (try simp only [List.map_toArray, List.map_cons, List.map_nil]); first | done | rfl | (simp only [List.length_drop, List.length_take]; rfl)) ?_
        with_reducible refine (tautochronelaw13_rest.calls ((rd_T37 y146 x14_1).f5) 8 t160 _ A14.out).mono ?_
        rintro e w' ⟨rfl, ⟨nd, rfl⟩⟩
        refine ⟨_, rfl, ?_⟩
        refine hK.out _ _ ⟨(blk_cell BK154.out 0).trans rfl, (blk_cell BK154.out 1).trans rfl, (blk_cell BK154.out 2).trans rfl, (blk_cell BK154.out 3).trans rfl, (blk_cell BK154.out 4).trans rfl, (blk_cell BK154.out 5).trans rfl, (blk_cell BK154.out 6).trans rfl, (blk_cell BK154.out 7).trans rfl⟩ (fun hHeld => ?_)
        clear hK K
        refine norm_ (a' := ?_) ?_ ?_
        rotate_left
        ·show Act.put _ (some 37) _ = _
         simp only [Act.put, List.setIfInBounds_toArray, List.set_cons_zero, List.set_cons_succ, i64_w, i32_w]
         rfl
        refine last_ (i := 13) (N := none) #[true, true, true, true, true, true, true, true, true, true, true, true, true, true, false, false, false, false, false, false] rfl rfl (one_of HT_.out (by kernel_rfl)) (by decide) (fun K hK => ?_)
        have hs58 : w57.cell? ⟨gb154, 2, none⟩ = some (.int .i64 ((rd_T37 y146 x14_1).f2)) := (blk_cell BK154.out 2).trans rfl
        have hfs58 := blk_frozen BK154.out 2
        refine skip_ (w1 := ?_) (by rfl) rfl ?_ ?_
        rotate_left
        ·go_simp
         rfl
        refine hK.out _ _ ?_
        clear hK K
        refine pure_ (i := 14) (N := some 39) (v := ?_) (a' := ?_) #[true, true, true, true, true, true, true, true, true, true, true, true, true, true, true, false, false, false, false, false] rfl rfl (any_of HT_.out (by kernel_rfl)) (fun _ _ _ h => h) (Or.inl ⟨by rfl, ?_⟩) ?_ ?_
        rotate_left
        ·intro w'
         go_simp
         with_reducible rfl
        rotate_left
        ·simp only [Act.put, List.setIfInBounds_toArray, List.set_cons_zero, List.set_cons_succ, i64_w, i32_w]
         rfl
        refine last_ (i := 15) (N := none) #[true, true, true, true, true, true, true, true, true, true, true, true, true, true, true, true, false, false, false, false] rfl rfl (one_of HT_.out (by kernel_rfl)) (by decide) (fun K hK => ?_)
        have hs59 : w57.cell? ⟨gb154, 3, none⟩ = some (.int .i64 ((rd_T37 y146 x14_1).f3)) := (blk_cell BK154.out 3).trans rfl
        have hfs59 := blk_frozen BK154.out 3
        refine skip_ (w1 := ?_) (by rfl) rfl ?_ ?_
        rotate_left
        ·go_simp
         rfl
        refine hK.out _ _ ?_
        clear hK K
        refine pure_ (i := 16) (N := some 40) (v := ?_) (a' := ?_) #[true, true, true, true, true, true, true, true, true, true, true, true, true, true, true, true, true, false, false, false] rfl rfl (any_of HT_.out (by kernel_rfl)) (fun _ _ _ h => h) (Or.inl ⟨by rfl, ?_⟩) ?_ ?_
        rotate_left
        ·intro w'
         go_simp
         with_reducible rfl
        rotate_left
        ·simp only [Act.put, List.setIfInBounds_toArray, List.set_cons_zero, List.set_cons_succ, i64_w, i32_w]
         rfl
        refine last_ (i := 17) (N := none) #[true, true, true, true, true, true, true, true, true, true, true, true, true, true, true, true, true, true, false, false] rfl rfl (one_of HT_.out (by kernel_rfl)) (by decide) (fun K hK => ?_)
        have hs60 : w57.cell? ⟨gb154, 4, none⟩ = some (.int .i64 ((rd_T37 y146 x14_1).f4)) := (blk_cell BK154.out 4).trans rfl
        have hfs60 := blk_frozen BK154.out 4
        refine skip_ (w1 := ?_) (by rfl) rfl ?_ ?_
        rotate_left
        ·go_simp
         rfl
        refine hK.out _ _ ?_
        clear hK K
        refine pure_ (i := 18) (N := some 41) (v := ?_) (a' := ?_) #[true, true, true, true, true, true, true, true, true, true, true, true, true, true, true, true, true, true, true, false] rfl rfl (any_of HT_.out (by kernel_rfl)) (fun _ _ _ h => h) (Or.inl ⟨by rfl, ?_⟩) ?_ ?_
        rotate_left
        ·intro w'
         go_simp
         with_reducible rfl
        rotate_left
        ·simp only [Act.put, List.setIfInBounds_toArray, List.set_cons_zero, List.set_cons_succ, i64_w, i32_w]
         rfl
        refine last_ (i := 19) (N := none) #[true, true, true, true, true, true, true, true, true, true, true, true, true, true, true, true, true, true, true, true] rfl rfl (one_of HT_.out (by kernel_rfl)) (by decide) (fun K hK => ?_)
        have hs61 : w57.cell? ⟨gb154, 5, none⟩ = some (.int .i64 ((rd_T37 y146 x14_1).f5)) := (blk_cell BK154.out 5).trans rfl
        have hfs61 := blk_frozen BK154.out 5
        refine skip_ (w1 := ?_) (by rfl) rfl ?_ ?_
        rotate_left
        ·go_simp
         rfl
        refine hK.out _ _ ?_
        clear hK K
        refine done_ (done_of HT_.out (by kernel_rfl)) ?_
        have hcz62_0 : w57.cell? ⟨gb154, 0, none⟩ = some (.int .i64 t155) := (blk_cell BK154.out 0).trans rfl
        have hcz62_1 : w57.cell? ⟨gb154, 1, none⟩ = some (.int .i64 t156) := (blk_cell BK154.out 1).trans rfl
        have hcz62_2 : w57.cell? ⟨gb154, 2, none⟩ = some (.int .i64 ((rd_T37 y146 x14_1).f2)) := (blk_cell BK154.out 2).trans rfl
        have hcz62_3 : w57.cell? ⟨gb154, 3, none⟩ = some (.int .i64 ((rd_T37 y146 x14_1).f3)) := (blk_cell BK154.out 3).trans rfl
        have hcz62_4 : w57.cell? ⟨gb154, 4, none⟩ = some (.int .i64 ((rd_T37 y146 x14_1).f4)) := (blk_cell BK154.out 4).trans rfl
        have hcz62_5 : w57.cell? ⟨gb154, 5, none⟩ = some (.int .i64 ((rd_T37 y146 x14_1).f5)) := (blk_cell BK154.out 5).trans rfl
        have hcz62_6 : w57.cell? ⟨gb154, 6, none⟩ = some (.int .u64 ((rd_T37 y146 x14_1).f6)) := (blk_cell BK154.out 6).trans rfl
        have hcz62_7 : w57.cell? ⟨gb154, 7, none⟩ = some (.int .i64 ((rd_T37 y146 x14_1).f7)) := (blk_cell BK154.out 7).trans rfl
        have hfz62_0 := blk_frozen BK154.out 0
        have hfz62_1 := blk_frozen BK154.out 1
        have hfz62_2 := blk_frozen BK154.out 2
        have hfz62_3 := blk_frozen BK154.out 3
        have hfz62_4 := blk_frozen BK154.out 4
        have hfz62_5 := blk_frozen BK154.out 5
        have hfz62_6 := blk_frozen BK154.out 6
        have hfz62_7 := blk_frozen BK154.out 7
        try go_wp2
        have n0_ : Aside0 (Kd.R k37 37 ((((w57.setCell ⟨gb154, 2, none⟩ (.int .i64 t157)).setCell ⟨gb154, 3, none⟩ (.int .i64 t158)).setCell ⟨gb154, 4, none⟩ (.int .i64 t159)).setCell ⟨gb154, 5, none⟩ (.int .i64 t160)) w.heap.size (fun k_ => k_ ≠ gb154) u3 x3_1) := ⟨by (with_reducible repeat (first | apply Kd.R_alloc | apply Kd.R_drewN | apply Kd.R_drew)); exact Kd.R_mono (Kd.R_far (p := ⟨gb154, 5, none⟩) (Kd.R_far (p := ⟨gb154, 4, none⟩) (Kd.R_far (p := ⟨gb154, 3, none⟩) (Kd.R_far (p := ⟨gb154, 2, none⟩) (Kd.R_mono HO_3.out (fun k_ hk => (⟨hk, hk⟩ : _ ∧ k_ ≠ gb154))) (fun _ hk => hk.2) (.int .i64 t157)) (fun _ hk => hk.2) (.int .i64 t158)) (fun _ hk => hk.2) (.int .i64 t159)) (fun _ hk => hk.2) (.int .i64 t160)) (fun _ hk => hk.1)⟩
        have n1_ : Aside0 (((((w57.setCell ⟨gb154, 2, none⟩ (.int .i64 t157)).setCell ⟨gb154, 3, none⟩ (.int .i64 t158)).setCell ⟨gb154, 4, none⟩ (.int .i64 t159)).setCell ⟨gb154, 5, none⟩ (.int .i64 t160)).heap[gb154]? = some (.cells #[.int .i64 t155, .int .i64 t156, .int .i64 t157, .int .i64 t158, .int .i64 t159, .int .i64 t160, .int .u64 ((rd_T37 y146 x14_1).f6), .int .i64 ((rd_T37 y146 x14_1).f7)] 37 (0, 0))) := ⟨by (with_reducible repeat (first | refine blk_drewN ?_ _ | refine blk_drew ?_ | refine blk_alloc ?_ _)); refine blk_put (cs := #[.int .i64 t155, .int .i64 t156, .int .i64 t157, .int .i64 t158, .int .i64 t159, .int .i64 ((rd_T37 y146 x14_1).f5), .int .u64 ((rd_T37 y146 x14_1).f6), .int .i64 ((rd_T37 y146 x14_1).f7)]) ?_ 5 _ rfl; refine blk_put (cs := #[.int .i64 t155, .int .i64 t156, .int .i64 t157, .int .i64 t158, .int .i64 ((rd_T37 y146 x14_1).f4), .int .i64 ((rd_T37 y146 x14_1).f5), .int .u64 ((rd_T37 y146 x14_1).f6), .int .i64 ((rd_T37 y146 x14_1).f7)]) ?_ 4 _ rfl; refine blk_put (cs := #[.int .i64 t155, .int .i64 t156, .int .i64 t157, .int .i64 ((rd_T37 y146 x14_1).f3), .int .i64 ((rd_T37 y146 x14_1).f4), .int .i64 ((rd_T37 y146 x14_1).f5), .int .u64 ((rd_T37 y146 x14_1).f6), .int .i64 ((rd_T37 y146 x14_1).f7)]) ?_ 3 _ rfl; refine blk_put (cs := #[.int .i64 t155, .int .i64 t156, .int .i64 ((rd_T37 y146 x14_1).f2), .int .i64 ((rd_T37 y146 x14_1).f3), .int .i64 ((rd_T37 y146 x14_1).f4), .int .i64 ((rd_T37 y146 x14_1).f5), .int .u64 ((rd_T37 y146 x14_1).f6), .int .i64 ((rd_T37 y146 x14_1).f7)]) ?_ 2 _ rfl; (with_reducible repeat (first | refine blk_drewN ?_ _ | refine blk_drew ?_ | refine blk_alloc ?_ _)); exact BK154.out⟩
        have n2_ : Aside0 (Below w.heap.size w ((((w57.setCell ⟨gb154, 2, none⟩ (.int .i64 t157)).setCell ⟨gb154, 3, none⟩ (.int .i64 t158)).setCell ⟨gb154, 4, none⟩ (.int .i64 t159)).setCell ⟨gb154, 5, none⟩ (.int .i64 t160))) := ⟨by repeat (first | (with_reducible first | exact HB.out | apply below_alloc | apply pw_below_drewN | apply below_drew1 | refine below_set ?_ GE154.out) | exact HB.out)⟩
        (try clear HO_3)
        (try clear BK154)
        (try clear HB)
        generalize ((((w57.setCell ⟨gb154, 2, none⟩ (.int .i64 t157)).setCell ⟨gb154, 3, none⟩ (.int .i64 t158)).setCell ⟨gb154, 4, none⟩ (.int .i64 t159)).setCell ⟨gb154, 5, none⟩ (.int .i64 t160)) = w63 at n0_ n1_ n2_ ⊢
        have HO_3 := n0_
        have BK154 := n1_
        have HB := n2_
        clear n0_ n1_ n2_
        (try (rw [drewN_self w63]; generalize hq_ : World.drewN w63 _ = w63; have n0_ : Aside0 (Kd.R k37 37 w63 w.heap.size (fun k_ => k_ ≠ gb154) u3 x3_1) := ⟨by rw [← hq_]; exact (by (with_reducible repeat (first | apply Kd.R_alloc | apply Kd.R_drewN | apply Kd.R_drew)); exact HO_3.out)⟩; have n1_ : Aside0 (w63.heap[gb154]? = some (.cells #[.int .i64 t155, .int .i64 t156, .int .i64 t157, .int .i64 t158, .int .i64 t159, .int .i64 t160, .int .u64 ((rd_T37 y146 x14_1).f6), .int .i64 ((rd_T37 y146 x14_1).f7)] 37 (0, 0))) := ⟨by rw [← hq_]; exact (by (with_reducible repeat (first | refine blk_drewN ?_ _ | refine blk_drew ?_ | refine blk_alloc ?_ _)); exact BK154.out)⟩; have n2_ : Aside0 (Below w.heap.size w w63) := ⟨by rw [← hq_]; exact (by repeat (first | (with_reducible first | exact HB.out | apply below_alloc | apply pw_below_drewN | apply below_drew1 | refine below_set ?_ GE154.out) | exact HB.out))⟩; clear HO_3 BK154 HB hq_; have HO_3 := n0_; have BK154 := n1_; have HB := n2_; clear n0_ n1_ n2_))
        have n0_ := Aside0.mk (Kd.R_drew HO_3.out)
        have n1_ := Aside0.mk (blk_drew BK154.out)
        have n2_ := Aside0.mk (below_drew1 HB.out)
        clear HO_3
        clear BK154
        clear HB
        have HO_3 := n0_
        have BK154 := n1_
        have HB := n2_
        clear n0_ n1_ n2_
        refine start_ (n := 12) (S := fun w' => w'.cell? ⟨gb154, 0, none⟩ = some (.int .i64 t155) ∧ w'.cell? ⟨gb154, 1, none⟩ = some (.int .i64 t156) ∧ w'.cell? ⟨gb154, 2, none⟩ = some (.int .i64 t157) ∧ w'.cell? ⟨gb154, 3, none⟩ = some (.int .i64 t158) ∧ w'.cell? ⟨gb154, 4, none⟩ = some (.int .i64 t159) ∧ w'.cell? ⟨gb154, 5, none⟩ = some (.int .i64 t160) ∧ w'.cell? ⟨gb154, 6, none⟩ = some (.int .u64 ((rd_T37 y146 x14_1).f6)) ∧ w'.cell? ⟨gb154, 7, none⟩ = some (.int .i64 ((rd_T37 y146 x14_1).f7))) (ds := [9, 11]) #[false, false, false, false, false, false, false, false, false, false, false, false] (by kernel_rfl) rfl rfl ⟨(blk_cell BK154.out 0).trans rfl, (blk_cell BK154.out 1).trans rfl, (blk_cell BK154.out 2).trans rfl, (blk_cell BK154.out 3).trans rfl, (blk_cell BK154.out 4).trans rfl, (blk_cell BK154.out 5).trans rfl, (blk_cell BK154.out 6).trans rfl, (blk_cell BK154.out 7).trans rfl⟩ (fun hHeld => ?_); refine with_tabW tautochronelaw13_Small.tab11 tautochronelaw13_Small.bits11 (fun HT_ HW_ => ?_)
        generalize w63.drew = w64 at HO_3 BK154 HB hHeld ⊢
        refine pure_ (i := 0) (N := some 57) (v := ?_) (a' := ?_) #[true, false, false, false, false, false, false, false, false, false, false, false] rfl rfl (any_of HT_.out (by kernel_rfl)) (fun _ _ _ h => h) (Or.inl ⟨by rfl, ?_⟩) ?_ ?_
        rotate_left
        ·intro w'
         go_simp
         with_reducible rfl
        rotate_left
        ·simp only [Act.put, List.setIfInBounds_toArray, List.set_cons_zero, List.set_cons_succ, i64_w, i32_w]
         rfl
        refine pure_ (i := 3) (N := some 60) (v := ?_) (a' := ?_) #[true, false, false, true, false, false, false, false, false, false, false, false] rfl rfl (any_of HT_.out (by kernel_rfl)) (fun _ _ _ h => h) (Or.inl ⟨by rfl, ?_⟩) ?_ ?_
        rotate_left
        ·intro w'
         go_simp
         with_reducible rfl
        rotate_left
        ·simp only [Act.put, List.setIfInBounds_toArray, List.set_cons_zero, List.set_cons_succ, i64_w, i32_w]
         rfl
        refine pure_ (i := 5) (N := some 62) (v := ?_) (a' := ?_) #[true, false, false, true, false, true, false, false, false, false, false, false] rfl rfl (any_of HT_.out (by kernel_rfl)) (fun _ _ _ h => h) (Or.inl ⟨by rfl, ?_⟩) ?_ ?_
        rotate_left
        ·intro w'
         go_simp
         with_reducible rfl
        rotate_left
        ·simp only [Act.put, List.setIfInBounds_toArray, List.set_cons_zero, List.set_cons_succ, i64_w, i32_w]
         rfl
        refine pure_ (i := 6) (N := some 63) (v := ?_) (a' := ?_) #[true, false, false, true, false, true, true, false, false, false, false, false] rfl rfl (any_of HT_.out (by kernel_rfl)) (fun _ _ _ h => h) (Or.inl ⟨by rfl, ?_⟩) ?_ ?_
        rotate_left
        ·intro w'
         go_simp
         with_reducible rfl
        rotate_left
        ·simp only [Act.put, List.setIfInBounds_toArray, List.set_cons_zero, List.set_cons_succ, i64_w, i32_w]
         rfl
        refine take_ (i := 1) (N := some 58) (v := ?_) (a' := ?_) #[true, true, false, true, false, true, true, false, false, false, false, false] rfl rfl (take_ofW HT_.out HW_.out (by kernel_rfl)) (fun _ _ _ h => h) (Or.inl ⟨by rfl, ?_⟩) hHeld ?_ ?_
        rotate_left
        ·rintro w' ⟨s0, s1, s2, s3, s4, s5, s6, s7⟩
         go_simp
         with_reducible rfl
        rotate_left
        ·simp only [Act.put, List.setIfInBounds_toArray, List.set_cons_zero, List.set_cons_succ, i64_w, i32_w]
         rfl
        refine pure_ (i := 2) (N := some 59) (v := ?_) (a' := ?_) #[true, true, true, true, false, true, true, false, false, false, false, false] rfl rfl (any_of HT_.out (by kernel_rfl)) (fun _ _ _ h => h) (Or.inl ⟨by rfl, ?_⟩) ?_ ?_
        rotate_left
        ·intro w'
         go_simp
         with_reducible rfl
        rotate_left
        ·simp only [Act.put, List.setIfInBounds_toArray, List.set_cons_zero, List.set_cons_succ, i64_w, i32_w]
         rfl
        refine take_ (i := 4) (N := some 61) (v := ?_) (a' := ?_) #[true, true, true, true, true, true, true, false, false, false, false, false] rfl rfl (take_ofW HT_.out HW_.out (by kernel_rfl)) (fun _ _ _ h => h) (Or.inl ⟨by rfl, ?_⟩) hHeld ?_ ?_
        rotate_left
        ·rintro w' ⟨s0, s1, s2, s3, s4, s5, s6, s7⟩
         go_simp
         with_reducible rfl
        rotate_left
        ·simp only [Act.put, List.setIfInBounds_toArray, List.set_cons_zero, List.set_cons_succ, i64_w, i32_w]
         rfl
        refine pure_ (i := 8) (N := some 65) (v := ?_) (a' := ?_) #[true, true, true, true, true, true, true, false, true, false, false, false] rfl rfl (any_of HT_.out (by kernel_rfl)) (fun _ _ _ h => h) (Or.inl ⟨by rfl, ?_⟩) ?_ ?_
        rotate_left
        ·intro w'
         go_simp
         with_reducible rfl
        rotate_left
        ·simp only [Act.put, List.setIfInBounds_toArray, List.set_cons_zero, List.set_cons_succ, i64_w, i32_w]
         rfl
        refine one_ (i := 7) (N := some 64) #[true, true, true, true, true, true, true, true, true, false, false, false] rfl rfl (one_of HT_.out (by kernel_rfl)) (by decide) (fun K hK => ?_)
        refine goes_ Tryd.func50 (by kernel_rfl) rfl #[.int .i64 ((rd_T37 y146 x14_1).f7), .int .i64 (wrap64 (ji2 + 1))] (by rfl) rfl rfl (by (try simp only [List.map_toArray, List.map_cons, List.map_nil]); first | done | (simp only [hji2]; rfl) | rfl | (simp only [List.length_drop, List.length_take]; rfl)) ?_
        with_reducible refine (tautochronelaw13_rest.calls ((rd_T37 y146 x14_1).f7) (wrap64 (ji2 + 1)) t169 _ A52.out).mono ?_
        rintro e w' ⟨rfl, ⟨nd, rfl⟩⟩
        refine ⟨_, rfl, ?_⟩
        refine hK.out _ _ ⟨(blk_cell BK154.out 0).trans rfl, (blk_cell BK154.out 1).trans rfl, (blk_cell BK154.out 2).trans rfl, (blk_cell BK154.out 3).trans rfl, (blk_cell BK154.out 4).trans rfl, (blk_cell BK154.out 5).trans rfl, (blk_cell BK154.out 6).trans rfl, (blk_cell BK154.out 7).trans rfl⟩ (fun hHeld => ?_)
        clear hK K
        refine norm_ (a' := ?_) ?_ ?_
        rotate_left
        ·show Act.put _ (some 64) _ = _
         simp only [Act.put, List.setIfInBounds_toArray, List.set_cons_zero, List.set_cons_succ, i64_w, i32_w]
         rfl
        refine last_ (i := 9) (N := none) #[true, true, true, true, true, true, true, true, true, true, false, false] rfl rfl (one_of HT_.out (by kernel_rfl)) (by decide) (fun K hK => ?_)
        have hs65 : w64.cell? ⟨gb154, 6, none⟩ = some (.int .u64 ((rd_T37 y146 x14_1).f6)) := (blk_cell BK154.out 6).trans rfl
        have hfs65 := blk_frozen BK154.out 6
        refine skip_ (w1 := ?_) (by rfl) rfl ?_ ?_
        rotate_left
        ·go_simp
         rfl
        refine hK.out _ _ ?_
        clear hK K
        refine pure_ (i := 10) (N := some 66) (v := ?_) (a' := ?_) #[true, true, true, true, true, true, true, true, true, true, true, false] rfl rfl (any_of HT_.out (by kernel_rfl)) (fun _ _ _ h => h) (Or.inl ⟨by rfl, ?_⟩) ?_ ?_
        rotate_left
        ·intro w'
         go_simp
         with_reducible rfl
        rotate_left
        ·simp only [Act.put, List.setIfInBounds_toArray, List.set_cons_zero, List.set_cons_succ, i64_w, i32_w]
         rfl
        refine last_ (i := 11) (N := none) #[true, true, true, true, true, true, true, true, true, true, true, true] rfl rfl (one_of HT_.out (by kernel_rfl)) (by decide) (fun K hK => ?_)
        have hs66 : w64.cell? ⟨gb154, 7, none⟩ = some (.int .i64 ((rd_T37 y146 x14_1).f7)) := (blk_cell BK154.out 7).trans rfl
        have hfs66 := blk_frozen BK154.out 7
        refine skip_ (w1 := ?_) (by rfl) rfl ?_ ?_
        rotate_left
        ·go_simp
         rfl
        refine hK.out _ _ ?_
        clear hK K
        refine done_ (done_of HT_.out (by kernel_rfl)) ?_
        have hcz67_0 : w64.cell? ⟨gb154, 0, none⟩ = some (.int .i64 t155) := (blk_cell BK154.out 0).trans rfl
        have hcz67_1 : w64.cell? ⟨gb154, 1, none⟩ = some (.int .i64 t156) := (blk_cell BK154.out 1).trans rfl
        have hcz67_2 : w64.cell? ⟨gb154, 2, none⟩ = some (.int .i64 t157) := (blk_cell BK154.out 2).trans rfl
        have hcz67_3 : w64.cell? ⟨gb154, 3, none⟩ = some (.int .i64 t158) := (blk_cell BK154.out 3).trans rfl
        have hcz67_4 : w64.cell? ⟨gb154, 4, none⟩ = some (.int .i64 t159) := (blk_cell BK154.out 4).trans rfl
        have hcz67_5 : w64.cell? ⟨gb154, 5, none⟩ = some (.int .i64 t160) := (blk_cell BK154.out 5).trans rfl
        have hcz67_6 : w64.cell? ⟨gb154, 6, none⟩ = some (.int .u64 ((rd_T37 y146 x14_1).f6)) := (blk_cell BK154.out 6).trans rfl
        have hcz67_7 : w64.cell? ⟨gb154, 7, none⟩ = some (.int .i64 ((rd_T37 y146 x14_1).f7)) := (blk_cell BK154.out 7).trans rfl
        have hfz67_0 := blk_frozen BK154.out 0
        have hfz67_1 := blk_frozen BK154.out 1
        have hfz67_2 := blk_frozen BK154.out 2
        have hfz67_3 := blk_frozen BK154.out 3
        have hfz67_4 := blk_frozen BK154.out 4
        have hfz67_5 := blk_frozen BK154.out 5
        have hfz67_6 := blk_frozen BK154.out 6
        have hfz67_7 := blk_frozen BK154.out 7
        try go_wp2_with (first | ((with_reducible refine gate_builtin (b := .append) (xs := #[.tmp 67, .tmp 69]) rfl ?_); at_builtin; refine Kd.R_append k37 (w0 := w) w.heap.size rfl (.tmp 67) (.tmp 69) 22 37 (.agg #[(.int .i64 0), (.int .i64 0), (.int .i64 0), (.int .i64 0), (.int .i64 0), (.int .i64 0), (.int .u64 0), (.int .i64 0)]) 64 rfl Tryd.underlying22 info37 rfl (by decide) (by omega) u3 x3_1 (⟨t155, t156, t157, t158, t159, t160, Int.tmod ((rd_T37 y146 x14_1).f6) 8, t169⟩ : S37) [.int .i64 t155, .int .i64 t156, .int .i64 t157, .int .i64 t158, .int .i64 t159, .int .i64 t160, .int .u64 (Int.tmod ((rd_T37 y146 x14_1).f6) 8), .int .i64 t169] (fun k_ => k_ ≠ gb154) (fun _ => False) rfl (by first | (go_simp; done) | (go_simp; rfl)) ?aP (fun _ hk => hk.elim) ?aF ?aO ?aB ?aS ?aL ?_; (case aP => exact k37_mkM _ _ _ (⟨t155, t156, t157, t158, t159, t160, Int.tmod ((rd_T37 y146 x14_1).f6) 8, t169⟩ : S37)); (case aB => exact (by repeat (first | (with_reducible first | exact HB.out | apply below_alloc | apply pw_below_drewN | apply below_drew1 | refine below_set ?_ GE154.out) | exact HB.out))); (case aF => exact (fun k_ hk => Kd.freshB (g := gb154) (o := .cells #[.int .i64 t155, .int .i64 t156, .int .i64 t157, .int .i64 t158, .int .i64 t159, .int .i64 t160, .int .u64 (Int.tmod ((rd_T37 y146 x14_1).f6) 8), .int .i64 t169] 37 (0, 0)) (by (with_reducible repeat (first | refine blk_drewN ?_ _ | refine blk_drew ?_ | refine blk_alloc ?_ _)); refine blk_put (cs := #[.int .i64 t155, .int .i64 t156, .int .i64 t157, .int .i64 t158, .int .i64 t159, .int .i64 t160, .int .u64 (Int.tmod ((rd_T37 y146 x14_1).f6) 8), .int .i64 ((rd_T37 y146 x14_1).f7)]) ?_ 7 _ rfl; refine blk_put (cs := #[.int .i64 t155, .int .i64 t156, .int .i64 t157, .int .i64 t158, .int .i64 t159, .int .i64 t160, .int .u64 ((rd_T37 y146 x14_1).f6), .int .i64 ((rd_T37 y146 x14_1).f7)]) ?_ 6 _ rfl; (with_reducible repeat (first | refine blk_drewN ?_ _ | refine blk_drew ?_ | refine blk_alloc ?_ _)); exact BK154.out) k_ hk)); (case aO => exact (by (with_reducible repeat (first | apply Kd.R_alloc | apply Kd.R_drewN | apply Kd.R_drew)); exact Kd.R_mono (Kd.R_far (p := ⟨gb154, 7, none⟩) (Kd.R_far (p := ⟨gb154, 6, none⟩) (Kd.R_mono HO_3.out (fun k_ hk => (⟨hk, hk⟩ : _ ∧ k_ ≠ gb154))) (fun _ hk => hk.2) (.int .u64 (Int.tmod ((rd_T37 y146 x14_1).f6) 8))) (fun _ hk => hk.2) (.int .i64 t169)) (fun _ hk => hk.1))); (case aS => exact (below_size (by repeat (first | (with_reducible first | exact HB.out | apply below_alloc | apply pw_below_drewN | apply below_drew1 | refine below_set ?_ GE154.out) | exact HB.out)))); (case aL => have := LMc53.out; omega); intro v171 w68 ho hb hg hat; rw [← Ny170.out] at ho; have n0_ := Aside0.mk (blk_grown (g := gb154) (o := .cells #[.int .i64 t155, .int .i64 t156, .int .i64 t157, .int .i64 t158, .int .i64 t159, .int .i64 t160, .int .u64 (Int.tmod ((rd_T37 y146 x14_1).f6) 8), .int .i64 t169] 37 (0, 0)) (by (with_reducible repeat (first | refine blk_drewN ?_ _ | refine blk_drew ?_ | refine blk_alloc ?_ _)); refine blk_put (cs := #[.int .i64 t155, .int .i64 t156, .int .i64 t157, .int .i64 t158, .int .i64 t159, .int .i64 t160, .int .u64 (Int.tmod ((rd_T37 y146 x14_1).f6) 8), .int .i64 ((rd_T37 y146 x14_1).f7)]) ?_ 7 _ rfl; refine blk_put (cs := #[.int .i64 t155, .int .i64 t156, .int .i64 t157, .int .i64 t158, .int .i64 t159, .int .i64 t160, .int .u64 ((rd_T37 y146 x14_1).f6), .int .i64 ((rd_T37 y146 x14_1).f7)]) ?_ 6 _ rfl; (with_reducible repeat (first | refine blk_drewN ?_ _ | refine blk_drew ?_ | refine blk_alloc ?_ _)); exact BK154.out) hg (Kd.R_away HO_3.out (fun _ hk => hk))); have n1_ := Aside0.mk (hb); have n2_ := Aside0.mk (ho); clear BK154; clear HB; clear HO_3; have BK154 := n0_; have HB := n1_; have HO172 := n2_; clear n0_ n1_ n2_; clear ho hb hg hat))
        go_roundg k1
        case measure => have := HK1.out; omega
        case rel => exact ⟨(y170), (wrap64 (x14_1 + 1)), (by first | rfl | (simp; done) | (simp [*]; done)), H', ⟨by have := HK1.out; omega⟩, ⟨by (with_reducible repeat (first | apply Kd.R_alloc | apply Kd.R_drewN | apply Kd.R_drew)); exact Kd.R_mono HO172.out (fun _ hk => trivial)⟩, ⟨by repeat (first | (with_reducible first | exact HB.out | apply below_alloc | apply pw_below_drewN | apply below_drew1 | refine below_set ?_ GE154.out) | exact HB.out)⟩⟩
     ·rw [if_neg c15] at H
      have c15b0 : ((Int.tmod ((rd_T37 y146 x14_1).f6) 3) == 0) = false := beq_eq_false_iff_ne.mpr c15
      have c15b1 : ((Int.tmod ((rd_T37 y146 x14_1).f6) 3) != 0) = true := bne_iff_ne.mpr c15
      replace H := Option.bind_eq_some_iff.mp H
      obtain ⟨t173, A690, H⟩ := H
      replace H : (if x3_1.length < 2199023255552 then (tautochronelaw13_Small.l0 k1 (x3_1 ++ [(⟨t155, t156, t157, t158, t159, t160, Int.tmod ((rd_T37 y146 x14_1).f6) 8, t173⟩ : S37)]) ji2 y146 (y146.length : Int) (wrap64 (x14_1 + 1))) else (none)) = some r := H
      have A69 := Aside0.mk A690
      clear A690
      by_cases c70 : x3_1.length < 2199023255552
      rotate_left
      ·rw [if_neg c70] at H; exact absurd H (by simp)
      rw [if_pos c70] at H
      have LMc70 := Aside0.mk c70
      clear c70
      obtain ⟨y174, hy174⟩ : ∃ y_ : List (S37), y_ = (x3_1 ++ [(⟨t155, t156, t157, t158, t159, t160, Int.tmod ((rd_T37 y146 x14_1).f6) 8, t173⟩ : S37)]) := ⟨_, rfl⟩
      replace H : (tautochronelaw13_Small.l0 k1 y174 ji2 y146 (y146.length : Int) (wrap64 (x14_1 + 1))) = some r := by first | (rw [hy174]; with_reducible exact H) | (have H2_ := (Option.bind_some _ _).symm.trans H; rw [hy174]; with_reducible exact H2_) | (have H2_ := (Option.bind_some _ _).symm.trans H; with_reducible exact H2_) | with_reducible exact H | (rw [hy174]; exact H) | exact H
      have Ny174 := Aside0.mk hy174
      clear hy174
      have H' := Aside0.mk H
      clear H
      have p153 : 0 ≤ (x14_1 : Int) := of_decide_eq_true (by first | (with_reducible assumption) | assumption)
      have q153 : x14_1 < (y146.length : Int) := of_decide_eq_true (by first | (with_reducible assumption) | assumption)
      obtain ⟨ad153, e153, hx153_0, hx153_1, hx153_2, hx153_3, hx153_4, hx153_5, hx153_6, hx153_7⟩ := at_T37 HR149.out x14_1 p153 q153
      cases e153
      replace hx153_0 := (HB.out.cell (World.block_lt_of_cell? w _ hx153_0)).trans hx153_0
      replace hx153_1 := (HB.out.cell (World.block_lt_of_cell? w _ hx153_1)).trans hx153_1
      replace hx153_2 := (HB.out.cell (World.block_lt_of_cell? w _ hx153_2)).trans hx153_2
      replace hx153_3 := (HB.out.cell (World.block_lt_of_cell? w _ hx153_3)).trans hx153_3
      replace hx153_4 := (HB.out.cell (World.block_lt_of_cell? w _ hx153_4)).trans hx153_4
      replace hx153_5 := (HB.out.cell (World.block_lt_of_cell? w _ hx153_5)).trans hx153_5
      replace hx153_6 := (HB.out.cell (World.block_lt_of_cell? w _ hx153_6)).trans hx153_6
      replace hx153_7 := (HB.out.cell (World.block_lt_of_cell? w _ hx153_7)).trans hx153_7
      replace p153 := eq_true p153
      replace q153 := eq_true q153
      try go_wp2_with (first | ((with_reducible refine gate_dst (N := 6) rfl ?_); refine box_event ?hg (N := 6) ?hd (cs := #[.int .i64 0, .int .i64 0, .int .i64 0, .int .i64 0, .int .i64 0, .int .i64 0, .int .u64 0, .int .i64 0]) (t := 37) ?hr ?_; (case hd => rfl); (case hg => rfl); (case hr => first | (go_simp; done) | (go_simp; rfl)); intro gb154 hg w71 hbox hb; have n0_ := Aside0.mk (Kd.R_below (Kd.R_elderB (by (with_reducible repeat (first | apply Kd.R_alloc | apply Kd.R_drewN | apply Kd.R_drew)); exact HO_3.out) gb154 (Nat.le_of_eq hg.symm)) hb); have n1_ := Aside0.mk (below_step (by repeat (first | (with_reducible first | exact HB.out | apply below_alloc | apply pw_below_drewN | apply below_drew1) | exact HB.out)) hb); have n2_ := Aside0.mk (hbox); have n3_ := Aside0.mk ((by rw [hg]; exact (below_size (by repeat (first | (with_reducible first | exact HB.out | apply below_alloc | apply pw_below_drewN | apply below_drew1) | exact HB.out))) : w.heap.size ≤ gb154)); have n4_ := Aside0.mk ((by rw [hg]; exact (below_size (by repeat (first | (with_reducible first | exact HB.out | apply below_alloc | apply pw_below_drewN | apply below_drew1) | exact HB.out))) : w.heap.size ≤ gb154)); clear HO_3; clear HB; have HO_3 := n0_; have HB := n1_; have BK154 := n2_; have GW154 := n3_; have GE154 := n4_; clear n0_ n1_ n2_ n3_ n4_; clear hb hbox hg; have hcz72_0 : w71.cell? ⟨gb154, 0, none⟩ = some (.int .i64 0) := (blk_cell BK154.out 0).trans rfl; have hcz72_1 : w71.cell? ⟨gb154, 1, none⟩ = some (.int .i64 0) := (blk_cell BK154.out 1).trans rfl; have hcz72_2 : w71.cell? ⟨gb154, 2, none⟩ = some (.int .i64 0) := (blk_cell BK154.out 2).trans rfl; have hcz72_3 : w71.cell? ⟨gb154, 3, none⟩ = some (.int .i64 0) := (blk_cell BK154.out 3).trans rfl; have hcz72_4 : w71.cell? ⟨gb154, 4, none⟩ = some (.int .i64 0) := (blk_cell BK154.out 4).trans rfl; have hcz72_5 : w71.cell? ⟨gb154, 5, none⟩ = some (.int .i64 0) := (blk_cell BK154.out 5).trans rfl; have hcz72_6 : w71.cell? ⟨gb154, 6, none⟩ = some (.int .u64 0) := (blk_cell BK154.out 6).trans rfl; have hcz72_7 : w71.cell? ⟨gb154, 7, none⟩ = some (.int .i64 0) := (blk_cell BK154.out 7).trans rfl; have hfz72_0 := blk_frozen BK154.out 0; have hfz72_1 := blk_frozen BK154.out 1; have hfz72_2 := blk_frozen BK154.out 2; have hfz72_3 := blk_frozen BK154.out 3; have hfz72_4 := blk_frozen BK154.out 4; have hfz72_5 := blk_frozen BK154.out 5; have hfz72_6 := blk_frozen BK154.out 6; have hfz72_7 := blk_frozen BK154.out 7) | ((with_reducible refine gate_callee (f := 50) rfl ?_); refine goesL_ (some 20) rfl rfl Tryd.func50 (by kernel_rfl) rfl #[.int .i64 ((rd_T37 y146 x14_1).f0), .int .i64 14] rfl (by (try simp only [List.map_toArray, List.map_cons, List.map_nil]); first | done | rfl | (simp only [List.length_drop, List.length_take]; rfl)) ?_; (with_reducible refine (tautochronelaw13_rest.calls ((rd_T37 y146 x14_1).f0) 14 t155 _ A9.out).mono ?_); rintro e w' ⟨rfl, ⟨nd, rfl⟩⟩; refine ⟨_, rfl, ?_⟩) | ((with_reducible refine gate_callee (f := 50) rfl ?_); refine goesL_ (some 24) rfl rfl Tryd.func50 (by kernel_rfl) rfl #[.int .i64 ((rd_T37 y146 x14_1).f1), .int .i64 10] rfl (by (try simp only [List.map_toArray, List.map_cons, List.map_nil]); first | done | rfl | (simp only [List.length_drop, List.length_take]; rfl)) ?_; (with_reducible refine (tautochronelaw13_rest.calls ((rd_T37 y146 x14_1).f1) 10 t156 _ A10.out).mono ?_); rintro e w' ⟨rfl, ⟨nd, rfl⟩⟩; refine ⟨_, rfl, ?_⟩))
      have n0_ : Aside0 (Kd.R k37 37 ((((((((((w71.setCell ⟨gb154, 0, none⟩ (.int .i64 ((rd_T37 y146 x14_1).f0))).setCell ⟨gb154, 1, none⟩ (.int .i64 ((rd_T37 y146 x14_1).f1))).setCell ⟨gb154, 2, none⟩ (.int .i64 ((rd_T37 y146 x14_1).f2))).setCell ⟨gb154, 3, none⟩ (.int .i64 ((rd_T37 y146 x14_1).f3))).setCell ⟨gb154, 4, none⟩ (.int .i64 ((rd_T37 y146 x14_1).f4))).setCell ⟨gb154, 5, none⟩ (.int .i64 ((rd_T37 y146 x14_1).f5))).setCell ⟨gb154, 6, none⟩ (.int .u64 ((rd_T37 y146 x14_1).f6))).setCell ⟨gb154, 7, none⟩ (.int .i64 ((rd_T37 y146 x14_1).f7))).setCell ⟨gb154, 0, none⟩ (.int .i64 t155)).setCell ⟨gb154, 1, none⟩ (.int .i64 t156)) w.heap.size (fun k_ => k_ ≠ gb154) u3 x3_1) := ⟨by (with_reducible repeat (first | apply Kd.R_alloc | apply Kd.R_drewN | apply Kd.R_drew)); exact Kd.R_mono (Kd.R_far (p := ⟨gb154, 1, none⟩) (Kd.R_far (p := ⟨gb154, 0, none⟩) (Kd.R_far (p := ⟨gb154, 7, none⟩) (Kd.R_far (p := ⟨gb154, 6, none⟩) (Kd.R_far (p := ⟨gb154, 5, none⟩) (Kd.R_far (p := ⟨gb154, 4, none⟩) (Kd.R_far (p := ⟨gb154, 3, none⟩) (Kd.R_far (p := ⟨gb154, 2, none⟩) (Kd.R_far (p := ⟨gb154, 1, none⟩) (Kd.R_far (p := ⟨gb154, 0, none⟩) (Kd.R_mono HO_3.out (fun k_ hk => (⟨hk, hk.2⟩ : _ ∧ k_ ≠ gb154))) (fun _ hk => hk.2) (.int .i64 ((rd_T37 y146 x14_1).f0))) (fun _ hk => hk.2) (.int .i64 ((rd_T37 y146 x14_1).f1))) (fun _ hk => hk.2) (.int .i64 ((rd_T37 y146 x14_1).f2))) (fun _ hk => hk.2) (.int .i64 ((rd_T37 y146 x14_1).f3))) (fun _ hk => hk.2) (.int .i64 ((rd_T37 y146 x14_1).f4))) (fun _ hk => hk.2) (.int .i64 ((rd_T37 y146 x14_1).f5))) (fun _ hk => hk.2) (.int .u64 ((rd_T37 y146 x14_1).f6))) (fun _ hk => hk.2) (.int .i64 ((rd_T37 y146 x14_1).f7))) (fun _ hk => hk.2) (.int .i64 t155)) (fun _ hk => hk.2) (.int .i64 t156)) (fun _ hk => hk.1.2)⟩
      have n1_ : Aside0 (((((((((((w71.setCell ⟨gb154, 0, none⟩ (.int .i64 ((rd_T37 y146 x14_1).f0))).setCell ⟨gb154, 1, none⟩ (.int .i64 ((rd_T37 y146 x14_1).f1))).setCell ⟨gb154, 2, none⟩ (.int .i64 ((rd_T37 y146 x14_1).f2))).setCell ⟨gb154, 3, none⟩ (.int .i64 ((rd_T37 y146 x14_1).f3))).setCell ⟨gb154, 4, none⟩ (.int .i64 ((rd_T37 y146 x14_1).f4))).setCell ⟨gb154, 5, none⟩ (.int .i64 ((rd_T37 y146 x14_1).f5))).setCell ⟨gb154, 6, none⟩ (.int .u64 ((rd_T37 y146 x14_1).f6))).setCell ⟨gb154, 7, none⟩ (.int .i64 ((rd_T37 y146 x14_1).f7))).setCell ⟨gb154, 0, none⟩ (.int .i64 t155)).setCell ⟨gb154, 1, none⟩ (.int .i64 t156)).heap[gb154]? = some (.cells #[.int .i64 t155, .int .i64 t156, .int .i64 ((rd_T37 y146 x14_1).f2), .int .i64 ((rd_T37 y146 x14_1).f3), .int .i64 ((rd_T37 y146 x14_1).f4), .int .i64 ((rd_T37 y146 x14_1).f5), .int .u64 ((rd_T37 y146 x14_1).f6), .int .i64 ((rd_T37 y146 x14_1).f7)] 37 (0, 0))) := ⟨by (with_reducible repeat (first | refine blk_drewN ?_ _ | refine blk_drew ?_ | refine blk_alloc ?_ _)); refine blk_put (cs := #[.int .i64 t155, .int .i64 ((rd_T37 y146 x14_1).f1), .int .i64 ((rd_T37 y146 x14_1).f2), .int .i64 ((rd_T37 y146 x14_1).f3), .int .i64 ((rd_T37 y146 x14_1).f4), .int .i64 ((rd_T37 y146 x14_1).f5), .int .u64 ((rd_T37 y146 x14_1).f6), .int .i64 ((rd_T37 y146 x14_1).f7)]) ?_ 1 _ rfl; refine blk_put (cs := #[.int .i64 ((rd_T37 y146 x14_1).f0), .int .i64 ((rd_T37 y146 x14_1).f1), .int .i64 ((rd_T37 y146 x14_1).f2), .int .i64 ((rd_T37 y146 x14_1).f3), .int .i64 ((rd_T37 y146 x14_1).f4), .int .i64 ((rd_T37 y146 x14_1).f5), .int .u64 ((rd_T37 y146 x14_1).f6), .int .i64 ((rd_T37 y146 x14_1).f7)]) ?_ 0 _ rfl; refine blk_put (cs := #[.int .i64 ((rd_T37 y146 x14_1).f0), .int .i64 ((rd_T37 y146 x14_1).f1), .int .i64 ((rd_T37 y146 x14_1).f2), .int .i64 ((rd_T37 y146 x14_1).f3), .int .i64 ((rd_T37 y146 x14_1).f4), .int .i64 ((rd_T37 y146 x14_1).f5), .int .u64 ((rd_T37 y146 x14_1).f6), .int .i64 0]) ?_ 7 _ rfl; refine blk_put (cs := #[.int .i64 ((rd_T37 y146 x14_1).f0), .int .i64 ((rd_T37 y146 x14_1).f1), .int .i64 ((rd_T37 y146 x14_1).f2), .int .i64 ((rd_T37 y146 x14_1).f3), .int .i64 ((rd_T37 y146 x14_1).f4), .int .i64 ((rd_T37 y146 x14_1).f5), .int .u64 0, .int .i64 0]) ?_ 6 _ rfl; refine blk_put (cs := #[.int .i64 ((rd_T37 y146 x14_1).f0), .int .i64 ((rd_T37 y146 x14_1).f1), .int .i64 ((rd_T37 y146 x14_1).f2), .int .i64 ((rd_T37 y146 x14_1).f3), .int .i64 ((rd_T37 y146 x14_1).f4), .int .i64 0, .int .u64 0, .int .i64 0]) ?_ 5 _ rfl; refine blk_put (cs := #[.int .i64 ((rd_T37 y146 x14_1).f0), .int .i64 ((rd_T37 y146 x14_1).f1), .int .i64 ((rd_T37 y146 x14_1).f2), .int .i64 ((rd_T37 y146 x14_1).f3), .int .i64 0, .int .i64 0, .int .u64 0, .int .i64 0]) ?_ 4 _ rfl; refine blk_put (cs := #[.int .i64 ((rd_T37 y146 x14_1).f0), .int .i64 ((rd_T37 y146 x14_1).f1), .int .i64 ((rd_T37 y146 x14_1).f2), .int .i64 0, .int .i64 0, .int .i64 0, .int .u64 0, .int .i64 0]) ?_ 3 _ rfl; refine blk_put (cs := #[.int .i64 ((rd_T37 y146 x14_1).f0), .int .i64 ((rd_T37 y146 x14_1).f1), .int .i64 0, .int .i64 0, .int .i64 0, .int .i64 0, .int .u64 0, .int .i64 0]) ?_ 2 _ rfl; refine blk_put (cs := #[.int .i64 ((rd_T37 y146 x14_1).f0), .int .i64 0, .int .i64 0, .int .i64 0, .int .i64 0, .int .i64 0, .int .u64 0, .int .i64 0]) ?_ 1 _ rfl; refine blk_put (cs := #[.int .i64 0, .int .i64 0, .int .i64 0, .int .i64 0, .int .i64 0, .int .i64 0, .int .u64 0, .int .i64 0]) ?_ 0 _ rfl; (with_reducible repeat (first | refine blk_drewN ?_ _ | refine blk_drew ?_ | refine blk_alloc ?_ _)); exact BK154.out⟩
      have n2_ : Aside0 (Below w.heap.size w ((((((((((w71.setCell ⟨gb154, 0, none⟩ (.int .i64 ((rd_T37 y146 x14_1).f0))).setCell ⟨gb154, 1, none⟩ (.int .i64 ((rd_T37 y146 x14_1).f1))).setCell ⟨gb154, 2, none⟩ (.int .i64 ((rd_T37 y146 x14_1).f2))).setCell ⟨gb154, 3, none⟩ (.int .i64 ((rd_T37 y146 x14_1).f3))).setCell ⟨gb154, 4, none⟩ (.int .i64 ((rd_T37 y146 x14_1).f4))).setCell ⟨gb154, 5, none⟩ (.int .i64 ((rd_T37 y146 x14_1).f5))).setCell ⟨gb154, 6, none⟩ (.int .u64 ((rd_T37 y146 x14_1).f6))).setCell ⟨gb154, 7, none⟩ (.int .i64 ((rd_T37 y146 x14_1).f7))).setCell ⟨gb154, 0, none⟩ (.int .i64 t155)).setCell ⟨gb154, 1, none⟩ (.int .i64 t156))) := ⟨by repeat (first | (with_reducible first | exact HB.out | apply below_alloc | apply pw_below_drewN | apply below_drew1 | refine below_set ?_ GE154.out) | exact HB.out)⟩
      (try clear HO_3)
      (try clear BK154)
      (try clear HB)
      generalize ((((((((((w71.setCell ⟨gb154, 0, none⟩ (.int .i64 ((rd_T37 y146 x14_1).f0))).setCell ⟨gb154, 1, none⟩ (.int .i64 ((rd_T37 y146 x14_1).f1))).setCell ⟨gb154, 2, none⟩ (.int .i64 ((rd_T37 y146 x14_1).f2))).setCell ⟨gb154, 3, none⟩ (.int .i64 ((rd_T37 y146 x14_1).f3))).setCell ⟨gb154, 4, none⟩ (.int .i64 ((rd_T37 y146 x14_1).f4))).setCell ⟨gb154, 5, none⟩ (.int .i64 ((rd_T37 y146 x14_1).f5))).setCell ⟨gb154, 6, none⟩ (.int .u64 ((rd_T37 y146 x14_1).f6))).setCell ⟨gb154, 7, none⟩ (.int .i64 ((rd_T37 y146 x14_1).f7))).setCell ⟨gb154, 0, none⟩ (.int .i64 t155)).setCell ⟨gb154, 1, none⟩ (.int .i64 t156)) = w73 at n0_ n1_ n2_ ⊢
      have HO_3 := n0_
      have BK154 := n1_
      have HB := n2_
      clear n0_ n1_ n2_
      (try (rw [drewN_self w73]; generalize hq_ : World.drewN w73 _ = w73; have n0_ : Aside0 (Kd.R k37 37 w73 w.heap.size (fun k_ => k_ ≠ gb154) u3 x3_1) := ⟨by rw [← hq_]; exact (by (with_reducible repeat (first | apply Kd.R_alloc | apply Kd.R_drewN | apply Kd.R_drew)); exact HO_3.out)⟩; have n1_ : Aside0 (w73.heap[gb154]? = some (.cells #[.int .i64 t155, .int .i64 t156, .int .i64 ((rd_T37 y146 x14_1).f2), .int .i64 ((rd_T37 y146 x14_1).f3), .int .i64 ((rd_T37 y146 x14_1).f4), .int .i64 ((rd_T37 y146 x14_1).f5), .int .u64 ((rd_T37 y146 x14_1).f6), .int .i64 ((rd_T37 y146 x14_1).f7)] 37 (0, 0))) := ⟨by rw [← hq_]; exact (by (with_reducible repeat (first | refine blk_drewN ?_ _ | refine blk_drew ?_ | refine blk_alloc ?_ _)); exact BK154.out)⟩; have n2_ : Aside0 (Below w.heap.size w w73) := ⟨by rw [← hq_]; exact (by repeat (first | (with_reducible first | exact HB.out | apply below_alloc | apply pw_below_drewN | apply below_drew1 | refine below_set ?_ GE154.out) | exact HB.out))⟩; clear HO_3 BK154 HB hq_; have HO_3 := n0_; have BK154 := n1_; have HB := n2_; clear n0_ n1_ n2_))
      have n0_ := Aside0.mk (Kd.R_drew HO_3.out)
      have n1_ := Aside0.mk (blk_drew BK154.out)
      have n2_ := Aside0.mk (below_drew1 HB.out)
      clear HO_3
      clear BK154
      clear HB
      have HO_3 := n0_
      have BK154 := n1_
      have HB := n2_
      clear n0_ n1_ n2_
      refine start_ (n := 20) (S := fun w' => w'.cell? ⟨gb154, 0, none⟩ = some (.int .i64 t155) ∧ w'.cell? ⟨gb154, 1, none⟩ = some (.int .i64 t156) ∧ w'.cell? ⟨gb154, 2, none⟩ = some (.int .i64 ((rd_T37 y146 x14_1).f2)) ∧ w'.cell? ⟨gb154, 3, none⟩ = some (.int .i64 ((rd_T37 y146 x14_1).f3)) ∧ w'.cell? ⟨gb154, 4, none⟩ = some (.int .i64 ((rd_T37 y146 x14_1).f4)) ∧ w'.cell? ⟨gb154, 5, none⟩ = some (.int .i64 ((rd_T37 y146 x14_1).f5)) ∧ w'.cell? ⟨gb154, 6, none⟩ = some (.int .u64 ((rd_T37 y146 x14_1).f6)) ∧ w'.cell? ⟨gb154, 7, none⟩ = some (.int .i64 ((rd_T37 y146 x14_1).f7))) (ds := [13, 15, 17, 19]) #[false, false, false, false, false, false, false, false, false, false, false, false, false, false, false, false, false, false, false, false] (by kernel_rfl) rfl rfl ⟨(blk_cell BK154.out 0).trans rfl, (blk_cell BK154.out 1).trans rfl, (blk_cell BK154.out 2).trans rfl, (blk_cell BK154.out 3).trans rfl, (blk_cell BK154.out 4).trans rfl, (blk_cell BK154.out 5).trans rfl, (blk_cell BK154.out 6).trans rfl, (blk_cell BK154.out 7).trans rfl⟩ (fun hHeld => ?_); refine with_tabW tautochronelaw13_Small.tab8 tautochronelaw13_Small.bits8 (fun HT_ HW_ => ?_)
      generalize w73.drew = w74 at HO_3 BK154 HB hHeld ⊢
      refine pure_ (i := 0) (N := some 26) (v := ?_) (a' := ?_) #[true, false, false, false, false, false, false, false, false, false, false, false, false, false, false, false, false, false, false, false] rfl rfl (any_of HT_.out (by kernel_rfl)) (fun _ _ _ h => h) (Or.inl ⟨by rfl, ?_⟩) ?_ ?_
      rotate_left
      ·intro w'
       go_simp
       with_reducible rfl
      rotate_left
      ·simp only [Act.put, List.setIfInBounds_toArray, List.set_cons_zero, List.set_cons_succ, i64_w, i32_w]
       rfl
      refine pure_ (i := 3) (N := some 29) (v := ?_) (a' := ?_) #[true, false, false, true, false, false, false, false, false, false, false, false, false, false, false, false, false, false, false, false] rfl rfl (any_of HT_.out (by kernel_rfl)) (fun _ _ _ h => h) (Or.inl ⟨by rfl, ?_⟩) ?_ ?_
      rotate_left
      ·intro w'
       go_simp
       with_reducible rfl
      rotate_left
      ·simp only [Act.put, List.setIfInBounds_toArray, List.set_cons_zero, List.set_cons_succ, i64_w, i32_w]
       rfl
      refine pure_ (i := 6) (N := some 32) (v := ?_) (a' := ?_) #[true, false, false, true, false, false, true, false, false, false, false, false, false, false, false, false, false, false, false, false] rfl rfl (any_of HT_.out (by kernel_rfl)) (fun _ _ _ h => h) (Or.inl ⟨by rfl, ?_⟩) ?_ ?_
      rotate_left
      ·intro w'
       go_simp
       with_reducible rfl
      rotate_left
      ·simp only [Act.put, List.setIfInBounds_toArray, List.set_cons_zero, List.set_cons_succ, i64_w, i32_w]
       rfl
      refine pure_ (i := 9) (N := some 35) (v := ?_) (a' := ?_) #[true, false, false, true, false, false, true, false, false, true, false, false, false, false, false, false, false, false, false, false] rfl rfl (any_of HT_.out (by kernel_rfl)) (fun _ _ _ h => h) (Or.inl ⟨by rfl, ?_⟩) ?_ ?_
      rotate_left
      ·intro w'
       go_simp
       with_reducible rfl
      rotate_left
      ·simp only [Act.put, List.setIfInBounds_toArray, List.set_cons_zero, List.set_cons_succ, i64_w, i32_w]
       rfl
      refine take_ (i := 1) (N := some 27) (v := ?_) (a' := ?_) #[true, true, false, true, false, false, true, false, false, true, false, false, false, false, false, false, false, false, false, false] rfl rfl (take_ofW HT_.out HW_.out (by kernel_rfl)) (fun _ _ _ h => h) (Or.inl ⟨by rfl, ?_⟩) hHeld ?_ ?_
      rotate_left
      ·rintro w' ⟨s0, s1, s2, s3, s4, s5, s6, s7⟩
       go_simp
       with_reducible rfl
      rotate_left
      ·simp only [Act.put, List.setIfInBounds_toArray, List.set_cons_zero, List.set_cons_succ, i64_w, i32_w]
       rfl
      refine take_ (i := 4) (N := some 30) (v := ?_) (a' := ?_) #[true, true, false, true, true, false, true, false, false, true, false, false, false, false, false, false, false, false, false, false] rfl rfl (take_ofW HT_.out HW_.out (by kernel_rfl)) (fun _ _ _ h => h) (Or.inl ⟨by rfl, ?_⟩) hHeld ?_ ?_
      rotate_left
      ·rintro w' ⟨s0, s1, s2, s3, s4, s5, s6, s7⟩
       go_simp
       with_reducible rfl
      rotate_left
      ·simp only [Act.put, List.setIfInBounds_toArray, List.set_cons_zero, List.set_cons_succ, i64_w, i32_w]
       rfl
      refine take_ (i := 7) (N := some 33) (v := ?_) (a' := ?_) #[true, true, false, true, true, false, true, true, false, true, false, false, false, false, false, false, false, false, false, false] rfl rfl (take_ofW HT_.out HW_.out (by kernel_rfl)) (fun _ _ _ h => h) (Or.inl ⟨by rfl, ?_⟩) hHeld ?_ ?_
      rotate_left
      ·rintro w' ⟨s0, s1, s2, s3, s4, s5, s6, s7⟩
       go_simp
       with_reducible rfl
      rotate_left
      ·simp only [Act.put, List.setIfInBounds_toArray, List.set_cons_zero, List.set_cons_succ, i64_w, i32_w]
       rfl
      refine take_ (i := 10) (N := some 36) (v := ?_) (a' := ?_) #[true, true, false, true, true, false, true, true, false, true, true, false, false, false, false, false, false, false, false, false] rfl rfl (take_ofW HT_.out HW_.out (by kernel_rfl)) (fun _ _ _ h => h) (Or.inl ⟨by rfl, ?_⟩) hHeld ?_ ?_
      rotate_left
      ·rintro w' ⟨s0, s1, s2, s3, s4, s5, s6, s7⟩
       go_simp
       with_reducible rfl
      rotate_left
      ·simp only [Act.put, List.setIfInBounds_toArray, List.set_cons_zero, List.set_cons_succ, i64_w, i32_w]
       rfl
      refine one_ (i := 2) (N := some 28) #[true, true, true, true, true, false, true, true, false, true, true, false, false, false, false, false, false, false, false, false] rfl rfl (one_of HT_.out (by kernel_rfl)) (by decide) (fun K hK => ?_)
      refine goes_ Tryd.func50 (by kernel_rfl) rfl #[.int .i64 ((rd_T37 y146 x14_1).f2), .int .i64 8] (by rfl) rfl rfl (by (try simp only [List.map_toArray, List.map_cons, List.map_nil]); first | done | rfl | (simp only [List.length_drop, List.length_take]; rfl)) ?_
      with_reducible refine (tautochronelaw13_rest.calls ((rd_T37 y146 x14_1).f2) 8 t157 _ A11.out).mono ?_
      rintro e w' ⟨rfl, ⟨nd, rfl⟩⟩
      refine ⟨_, rfl, ?_⟩
      refine hK.out _ _ ⟨(blk_cell BK154.out 0).trans rfl, (blk_cell BK154.out 1).trans rfl, (blk_cell BK154.out 2).trans rfl, (blk_cell BK154.out 3).trans rfl, (blk_cell BK154.out 4).trans rfl, (blk_cell BK154.out 5).trans rfl, (blk_cell BK154.out 6).trans rfl, (blk_cell BK154.out 7).trans rfl⟩ (fun hHeld => ?_)
      clear hK K
      refine norm_ (a' := ?_) ?_ ?_
      rotate_left
      ·show Act.put _ (some 28) _ = _
       simp only [Act.put, List.setIfInBounds_toArray, List.set_cons_zero, List.set_cons_succ, i64_w, i32_w]
       rfl
      refine pure_ (i := 12) (N := some 38) (v := ?_) (a' := ?_) #[true, true, true, true, true, false, true, true, false, true, true, false, true, false, false, false, false, false, false, false] rfl rfl (any_of HT_.out (by kernel_rfl)) (fun _ _ _ h => h) (Or.inl ⟨by rfl, ?_⟩) ?_ ?_
      rotate_left
      ·intro w'
       go_simp
       with_reducible rfl
      rotate_left
      ·simp only [Act.put, List.setIfInBounds_toArray, List.set_cons_zero, List.set_cons_succ, i64_w, i32_w]
       rfl
      refine one_ (i := 5) (N := some 31) #[true, true, true, true, true, true, true, true, false, true, true, false, true, false, false, false, false, false, false, false] rfl rfl (one_of HT_.out (by kernel_rfl)) (by decide) (fun K hK => ?_)
      refine goes_ Tryd.func50 (by kernel_rfl) rfl #[.int .i64 ((rd_T37 y146 x14_1).f3), .int .i64 8] (by rfl) rfl rfl (by (try simp only [List.map_toArray, List.map_cons, List.map_nil]); first | done | rfl | (simp only [List.length_drop, List.length_take]; rfl)) ?_
      with_reducible refine (tautochronelaw13_rest.calls ((rd_T37 y146 x14_1).f3) 8 t158 _ A12.out).mono ?_
      rintro e w' ⟨rfl, ⟨nd, rfl⟩⟩
      refine ⟨_, rfl, ?_⟩
      refine hK.out _ _ ⟨(blk_cell BK154.out 0).trans rfl, (blk_cell BK154.out 1).trans rfl, (blk_cell BK154.out 2).trans rfl, (blk_cell BK154.out 3).trans rfl, (blk_cell BK154.out 4).trans rfl, (blk_cell BK154.out 5).trans rfl, (blk_cell BK154.out 6).trans rfl, (blk_cell BK154.out 7).trans rfl⟩ (fun hHeld => ?_)
      clear hK K
      refine norm_ (a' := ?_) ?_ ?_
      rotate_left
      ·show Act.put _ (some 31) _ = _
       simp only [Act.put, List.setIfInBounds_toArray, List.set_cons_zero, List.set_cons_succ, i64_w, i32_w]
       rfl
      refine one_ (i := 8) (N := some 34) #[true, true, true, true, true, true, true, true, true, true, true, false, true, false, false, false, false, false, false, false] rfl rfl (one_of HT_.out (by kernel_rfl)) (by decide) (fun K hK => ?_)
      refine goes_ Tryd.func50 (by kernel_rfl) rfl #[.int .i64 ((rd_T37 y146 x14_1).f4), .int .i64 8] (by rfl) rfl rfl (by (try simp only [List.map_toArray, List.map_cons, List.map_nil]); first | done | rfl | (simp only [List.length_drop, List.length_take]; rfl)) ?_
      with_reducible refine (tautochronelaw13_rest.calls ((rd_T37 y146 x14_1).f4) 8 t159 _ A13.out).mono ?_
      rintro e w' ⟨rfl, ⟨nd, rfl⟩⟩
      refine ⟨_, rfl, ?_⟩
      refine hK.out _ _ ⟨(blk_cell BK154.out 0).trans rfl, (blk_cell BK154.out 1).trans rfl, (blk_cell BK154.out 2).trans rfl, (blk_cell BK154.out 3).trans rfl, (blk_cell BK154.out 4).trans rfl, (blk_cell BK154.out 5).trans rfl, (blk_cell BK154.out 6).trans rfl, (blk_cell BK154.out 7).trans rfl⟩ (fun hHeld => ?_)
      clear hK K
      refine norm_ (a' := ?_) ?_ ?_
      rotate_left
      ·show Act.put _ (some 34) _ = _
       simp only [Act.put, List.setIfInBounds_toArray, List.set_cons_zero, List.set_cons_succ, i64_w, i32_w]
       rfl
      refine one_ (i := 11) (N := some 37) #[true, true, true, true, true, true, true, true, true, true, true, true, true, false, false, false, false, false, false, false] rfl rfl (one_of HT_.out (by kernel_rfl)) (by decide) (fun K hK => ?_)
      refine goes_ Tryd.func50 (by kernel_rfl) rfl #[.int .i64 ((rd_T37 y146 x14_1).f5), .int .i64 8] (by rfl) rfl rfl (by (try simp only [List.map_toArray, List.map_cons, List.map_nil]); first | done | rfl | (simp only [List.length_drop, List.length_take]; rfl)) ?_
      with_reducible refine (tautochronelaw13_rest.calls ((rd_T37 y146 x14_1).f5) 8 t160 _ A14.out).mono ?_
      rintro e w' ⟨rfl, ⟨nd, rfl⟩⟩
      refine ⟨_, rfl, ?_⟩
      refine hK.out _ _ ⟨(blk_cell BK154.out 0).trans rfl, (blk_cell BK154.out 1).trans rfl, (blk_cell BK154.out 2).trans rfl, (blk_cell BK154.out 3).trans rfl, (blk_cell BK154.out 4).trans rfl, (blk_cell BK154.out 5).trans rfl, (blk_cell BK154.out 6).trans rfl, (blk_cell BK154.out 7).trans rfl⟩ (fun hHeld => ?_)
      clear hK K
      refine norm_ (a' := ?_) ?_ ?_
      rotate_left
      ·show Act.put _ (some 37) _ = _
       simp only [Act.put, List.setIfInBounds_toArray, List.set_cons_zero, List.set_cons_succ, i64_w, i32_w]
       rfl
      refine last_ (i := 13) (N := none) #[true, true, true, true, true, true, true, true, true, true, true, true, true, true, false, false, false, false, false, false] rfl rfl (one_of HT_.out (by kernel_rfl)) (by decide) (fun K hK => ?_)
      have hs75 : w74.cell? ⟨gb154, 2, none⟩ = some (.int .i64 ((rd_T37 y146 x14_1).f2)) := (blk_cell BK154.out 2).trans rfl
      have hfs75 := blk_frozen BK154.out 2
      refine skip_ (w1 := ?_) (by rfl) rfl ?_ ?_
      rotate_left
      ·go_simp
       rfl
      refine hK.out _ _ ?_
      clear hK K
      refine pure_ (i := 14) (N := some 39) (v := ?_) (a' := ?_) #[true, true, true, true, true, true, true, true, true, true, true, true, true, true, true, false, false, false, false, false] rfl rfl (any_of HT_.out (by kernel_rfl)) (fun _ _ _ h => h) (Or.inl ⟨by rfl, ?_⟩) ?_ ?_
      rotate_left
      ·intro w'
       go_simp
       with_reducible rfl
      rotate_left
      ·simp only [Act.put, List.setIfInBounds_toArray, List.set_cons_zero, List.set_cons_succ, i64_w, i32_w]
       rfl
      refine last_ (i := 15) (N := none) #[true, true, true, true, true, true, true, true, true, true, true, true, true, true, true, true, false, false, false, false] rfl rfl (one_of HT_.out (by kernel_rfl)) (by decide) (fun K hK => ?_)
      have hs76 : w74.cell? ⟨gb154, 3, none⟩ = some (.int .i64 ((rd_T37 y146 x14_1).f3)) := (blk_cell BK154.out 3).trans rfl
      have hfs76 := blk_frozen BK154.out 3
      refine skip_ (w1 := ?_) (by rfl) rfl ?_ ?_
      rotate_left
      ·go_simp
       rfl
      refine hK.out _ _ ?_
      clear hK K
      refine pure_ (i := 16) (N := some 40) (v := ?_) (a' := ?_) #[true, true, true, true, true, true, true, true, true, true, true, true, true, true, true, true, true, false, false, false] rfl rfl (any_of HT_.out (by kernel_rfl)) (fun _ _ _ h => h) (Or.inl ⟨by rfl, ?_⟩) ?_ ?_
      rotate_left
      ·intro w'
       go_simp
       with_reducible rfl
      rotate_left
      ·simp only [Act.put, List.setIfInBounds_toArray, List.set_cons_zero, List.set_cons_succ, i64_w, i32_w]
       rfl
      refine last_ (i := 17) (N := none) #[true, true, true, true, true, true, true, true, true, true, true, true, true, true, true, true, true, true, false, false] rfl rfl (one_of HT_.out (by kernel_rfl)) (by decide) (fun K hK => ?_)
      have hs77 : w74.cell? ⟨gb154, 4, none⟩ = some (.int .i64 ((rd_T37 y146 x14_1).f4)) := (blk_cell BK154.out 4).trans rfl
      have hfs77 := blk_frozen BK154.out 4
      refine skip_ (w1 := ?_) (by rfl) rfl ?_ ?_
      rotate_left
      ·go_simp
       rfl
      refine hK.out _ _ ?_
      clear hK K
      refine pure_ (i := 18) (N := some 41) (v := ?_) (a' := ?_) #[true, true, true, true, true, true, true, true, true, true, true, true, true, true, true, true, true, true, true, false] rfl rfl (any_of HT_.out (by kernel_rfl)) (fun _ _ _ h => h) (Or.inl ⟨by rfl, ?_⟩) ?_ ?_
      rotate_left
      ·intro w'
       go_simp
       with_reducible rfl
      rotate_left
      ·simp only [Act.put, List.setIfInBounds_toArray, List.set_cons_zero, List.set_cons_succ, i64_w, i32_w]
       rfl
      refine last_ (i := 19) (N := none) #[true, true, true, true, true, true, true, true, true, true, true, true, true, true, true, true, true, true, true, true] rfl rfl (one_of HT_.out (by kernel_rfl)) (by decide) (fun K hK => ?_)
      have hs78 : w74.cell? ⟨gb154, 5, none⟩ = some (.int .i64 ((rd_T37 y146 x14_1).f5)) := (blk_cell BK154.out 5).trans rfl
      have hfs78 := blk_frozen BK154.out 5
      refine skip_ (w1 := ?_) (by rfl) rfl ?_ ?_
      rotate_left
      ·go_simp
       rfl
      refine hK.out _ _ ?_
      clear hK K
      refine done_ (done_of HT_.out (by kernel_rfl)) ?_
      have hcz79_0 : w74.cell? ⟨gb154, 0, none⟩ = some (.int .i64 t155) := (blk_cell BK154.out 0).trans rfl
      have hcz79_1 : w74.cell? ⟨gb154, 1, none⟩ = some (.int .i64 t156) := (blk_cell BK154.out 1).trans rfl
      have hcz79_2 : w74.cell? ⟨gb154, 2, none⟩ = some (.int .i64 ((rd_T37 y146 x14_1).f2)) := (blk_cell BK154.out 2).trans rfl
      have hcz79_3 : w74.cell? ⟨gb154, 3, none⟩ = some (.int .i64 ((rd_T37 y146 x14_1).f3)) := (blk_cell BK154.out 3).trans rfl
      have hcz79_4 : w74.cell? ⟨gb154, 4, none⟩ = some (.int .i64 ((rd_T37 y146 x14_1).f4)) := (blk_cell BK154.out 4).trans rfl
      have hcz79_5 : w74.cell? ⟨gb154, 5, none⟩ = some (.int .i64 ((rd_T37 y146 x14_1).f5)) := (blk_cell BK154.out 5).trans rfl
      have hcz79_6 : w74.cell? ⟨gb154, 6, none⟩ = some (.int .u64 ((rd_T37 y146 x14_1).f6)) := (blk_cell BK154.out 6).trans rfl
      have hcz79_7 : w74.cell? ⟨gb154, 7, none⟩ = some (.int .i64 ((rd_T37 y146 x14_1).f7)) := (blk_cell BK154.out 7).trans rfl
      have hfz79_0 := blk_frozen BK154.out 0
      have hfz79_1 := blk_frozen BK154.out 1
      have hfz79_2 := blk_frozen BK154.out 2
      have hfz79_3 := blk_frozen BK154.out 3
      have hfz79_4 := blk_frozen BK154.out 4
      have hfz79_5 := blk_frozen BK154.out 5
      have hfz79_6 := blk_frozen BK154.out 6
      have hfz79_7 := blk_frozen BK154.out 7
      try go_wp2
      have n0_ : Aside0 (Kd.R k37 37 ((((w74.setCell ⟨gb154, 2, none⟩ (.int .i64 t157)).setCell ⟨gb154, 3, none⟩ (.int .i64 t158)).setCell ⟨gb154, 4, none⟩ (.int .i64 t159)).setCell ⟨gb154, 5, none⟩ (.int .i64 t160)) w.heap.size (fun k_ => k_ ≠ gb154) u3 x3_1) := ⟨by (with_reducible repeat (first | apply Kd.R_alloc | apply Kd.R_drewN | apply Kd.R_drew)); exact Kd.R_mono (Kd.R_far (p := ⟨gb154, 5, none⟩) (Kd.R_far (p := ⟨gb154, 4, none⟩) (Kd.R_far (p := ⟨gb154, 3, none⟩) (Kd.R_far (p := ⟨gb154, 2, none⟩) (Kd.R_mono HO_3.out (fun k_ hk => (⟨hk, hk⟩ : _ ∧ k_ ≠ gb154))) (fun _ hk => hk.2) (.int .i64 t157)) (fun _ hk => hk.2) (.int .i64 t158)) (fun _ hk => hk.2) (.int .i64 t159)) (fun _ hk => hk.2) (.int .i64 t160)) (fun _ hk => hk.1)⟩
      have n1_ : Aside0 (((((w74.setCell ⟨gb154, 2, none⟩ (.int .i64 t157)).setCell ⟨gb154, 3, none⟩ (.int .i64 t158)).setCell ⟨gb154, 4, none⟩ (.int .i64 t159)).setCell ⟨gb154, 5, none⟩ (.int .i64 t160)).heap[gb154]? = some (.cells #[.int .i64 t155, .int .i64 t156, .int .i64 t157, .int .i64 t158, .int .i64 t159, .int .i64 t160, .int .u64 ((rd_T37 y146 x14_1).f6), .int .i64 ((rd_T37 y146 x14_1).f7)] 37 (0, 0))) := ⟨by (with_reducible repeat (first | refine blk_drewN ?_ _ | refine blk_drew ?_ | refine blk_alloc ?_ _)); refine blk_put (cs := #[.int .i64 t155, .int .i64 t156, .int .i64 t157, .int .i64 t158, .int .i64 t159, .int .i64 ((rd_T37 y146 x14_1).f5), .int .u64 ((rd_T37 y146 x14_1).f6), .int .i64 ((rd_T37 y146 x14_1).f7)]) ?_ 5 _ rfl; refine blk_put (cs := #[.int .i64 t155, .int .i64 t156, .int .i64 t157, .int .i64 t158, .int .i64 ((rd_T37 y146 x14_1).f4), .int .i64 ((rd_T37 y146 x14_1).f5), .int .u64 ((rd_T37 y146 x14_1).f6), .int .i64 ((rd_T37 y146 x14_1).f7)]) ?_ 4 _ rfl; refine blk_put (cs := #[.int .i64 t155, .int .i64 t156, .int .i64 t157, .int .i64 ((rd_T37 y146 x14_1).f3), .int .i64 ((rd_T37 y146 x14_1).f4), .int .i64 ((rd_T37 y146 x14_1).f5), .int .u64 ((rd_T37 y146 x14_1).f6), .int .i64 ((rd_T37 y146 x14_1).f7)]) ?_ 3 _ rfl; refine blk_put (cs := #[.int .i64 t155, .int .i64 t156, .int .i64 ((rd_T37 y146 x14_1).f2), .int .i64 ((rd_T37 y146 x14_1).f3), .int .i64 ((rd_T37 y146 x14_1).f4), .int .i64 ((rd_T37 y146 x14_1).f5), .int .u64 ((rd_T37 y146 x14_1).f6), .int .i64 ((rd_T37 y146 x14_1).f7)]) ?_ 2 _ rfl; (with_reducible repeat (first | refine blk_drewN ?_ _ | refine blk_drew ?_ | refine blk_alloc ?_ _)); exact BK154.out⟩
      have n2_ : Aside0 (Below w.heap.size w ((((w74.setCell ⟨gb154, 2, none⟩ (.int .i64 t157)).setCell ⟨gb154, 3, none⟩ (.int .i64 t158)).setCell ⟨gb154, 4, none⟩ (.int .i64 t159)).setCell ⟨gb154, 5, none⟩ (.int .i64 t160))) := ⟨by repeat (first | (with_reducible first | exact HB.out | apply below_alloc | apply pw_below_drewN | apply below_drew1 | refine below_set ?_ GE154.out) | exact HB.out)⟩
      (try clear HO_3)
      (try clear BK154)
      (try clear HB)
      generalize ((((w74.setCell ⟨gb154, 2, none⟩ (.int .i64 t157)).setCell ⟨gb154, 3, none⟩ (.int .i64 t158)).setCell ⟨gb154, 4, none⟩ (.int .i64 t159)).setCell ⟨gb154, 5, none⟩ (.int .i64 t160)) = w80 at n0_ n1_ n2_ ⊢
      have HO_3 := n0_
      have BK154 := n1_
      have HB := n2_
      clear n0_ n1_ n2_
      (try (rw [drewN_self w80]; generalize hq_ : World.drewN w80 _ = w80; have n0_ : Aside0 (Kd.R k37 37 w80 w.heap.size (fun k_ => k_ ≠ gb154) u3 x3_1) := ⟨by rw [← hq_]; exact (by (with_reducible repeat (first | apply Kd.R_alloc | apply Kd.R_drewN | apply Kd.R_drew)); exact HO_3.out)⟩; have n1_ : Aside0 (w80.heap[gb154]? = some (.cells #[.int .i64 t155, .int .i64 t156, .int .i64 t157, .int .i64 t158, .int .i64 t159, .int .i64 t160, .int .u64 ((rd_T37 y146 x14_1).f6), .int .i64 ((rd_T37 y146 x14_1).f7)] 37 (0, 0))) := ⟨by rw [← hq_]; exact (by (with_reducible repeat (first | refine blk_drewN ?_ _ | refine blk_drew ?_ | refine blk_alloc ?_ _)); exact BK154.out)⟩; have n2_ : Aside0 (Below w.heap.size w w80) := ⟨by rw [← hq_]; exact (by repeat (first | (with_reducible first | exact HB.out | apply below_alloc | apply pw_below_drewN | apply below_drew1 | refine below_set ?_ GE154.out) | exact HB.out))⟩; clear HO_3 BK154 HB hq_; have HO_3 := n0_; have BK154 := n1_; have HB := n2_; clear n0_ n1_ n2_))
      have n0_ := Aside0.mk (Kd.R_drew HO_3.out)
      have n1_ := Aside0.mk (blk_drew BK154.out)
      have n2_ := Aside0.mk (below_drew1 HB.out)
      clear HO_3
      clear BK154
      clear HB
      have HO_3 := n0_
      have BK154 := n1_
      have HB := n2_
      clear n0_ n1_ n2_
      refine start_ (n := 12) (S := fun w' => w'.cell? ⟨gb154, 0, none⟩ = some (.int .i64 t155) ∧ w'.cell? ⟨gb154, 1, none⟩ = some (.int .i64 t156) ∧ w'.cell? ⟨gb154, 2, none⟩ = some (.int .i64 t157) ∧ w'.cell? ⟨gb154, 3, none⟩ = some (.int .i64 t158) ∧ w'.cell? ⟨gb154, 4, none⟩ = some (.int .i64 t159) ∧ w'.cell? ⟨gb154, 5, none⟩ = some (.int .i64 t160) ∧ w'.cell? ⟨gb154, 6, none⟩ = some (.int .u64 ((rd_T37 y146 x14_1).f6)) ∧ w'.cell? ⟨gb154, 7, none⟩ = some (.int .i64 ((rd_T37 y146 x14_1).f7))) (ds := [9, 11]) #[false, false, false, false, false, false, false, false, false, false, false, false] (by kernel_rfl) rfl rfl ⟨(blk_cell BK154.out 0).trans rfl, (blk_cell BK154.out 1).trans rfl, (blk_cell BK154.out 2).trans rfl, (blk_cell BK154.out 3).trans rfl, (blk_cell BK154.out 4).trans rfl, (blk_cell BK154.out 5).trans rfl, (blk_cell BK154.out 6).trans rfl, (blk_cell BK154.out 7).trans rfl⟩ (fun hHeld => ?_); refine with_tabW tautochronelaw13_Small.tab11 tautochronelaw13_Small.bits11 (fun HT_ HW_ => ?_)
      generalize w80.drew = w81 at HO_3 BK154 HB hHeld ⊢
      refine pure_ (i := 0) (N := some 57) (v := ?_) (a' := ?_) #[true, false, false, false, false, false, false, false, false, false, false, false] rfl rfl (any_of HT_.out (by kernel_rfl)) (fun _ _ _ h => h) (Or.inl ⟨by rfl, ?_⟩) ?_ ?_
      rotate_left
      ·intro w'
       go_simp
       with_reducible rfl
      rotate_left
      ·simp only [Act.put, List.setIfInBounds_toArray, List.set_cons_zero, List.set_cons_succ, i64_w, i32_w]
       rfl
      refine pure_ (i := 3) (N := some 60) (v := ?_) (a' := ?_) #[true, false, false, true, false, false, false, false, false, false, false, false] rfl rfl (any_of HT_.out (by kernel_rfl)) (fun _ _ _ h => h) (Or.inl ⟨by rfl, ?_⟩) ?_ ?_
      rotate_left
      ·intro w'
       go_simp
       with_reducible rfl
      rotate_left
      ·simp only [Act.put, List.setIfInBounds_toArray, List.set_cons_zero, List.set_cons_succ, i64_w, i32_w]
       rfl
      refine pure_ (i := 5) (N := some 62) (v := ?_) (a' := ?_) #[true, false, false, true, false, true, false, false, false, false, false, false] rfl rfl (any_of HT_.out (by kernel_rfl)) (fun _ _ _ h => h) (Or.inl ⟨by rfl, ?_⟩) ?_ ?_
      rotate_left
      ·intro w'
       go_simp
       with_reducible rfl
      rotate_left
      ·simp only [Act.put, List.setIfInBounds_toArray, List.set_cons_zero, List.set_cons_succ, i64_w, i32_w]
       rfl
      refine pure_ (i := 6) (N := some 63) (v := ?_) (a' := ?_) #[true, false, false, true, false, true, true, false, false, false, false, false] rfl rfl (any_of HT_.out (by kernel_rfl)) (fun _ _ _ h => h) (Or.inl ⟨by rfl, ?_⟩) ?_ ?_
      rotate_left
      ·intro w'
       go_simp
       with_reducible rfl
      rotate_left
      ·simp only [Act.put, List.setIfInBounds_toArray, List.set_cons_zero, List.set_cons_succ, i64_w, i32_w]
       rfl
      refine take_ (i := 1) (N := some 58) (v := ?_) (a' := ?_) #[true, true, false, true, false, true, true, false, false, false, false, false] rfl rfl (take_ofW HT_.out HW_.out (by kernel_rfl)) (fun _ _ _ h => h) (Or.inl ⟨by rfl, ?_⟩) hHeld ?_ ?_
      rotate_left
      ·rintro w' ⟨s0, s1, s2, s3, s4, s5, s6, s7⟩
       go_simp
       with_reducible rfl
      rotate_left
      ·simp only [Act.put, List.setIfInBounds_toArray, List.set_cons_zero, List.set_cons_succ, i64_w, i32_w]
       rfl
      refine pure_ (i := 2) (N := some 59) (v := ?_) (a' := ?_) #[true, true, true, true, false, true, true, false, false, false, false, false] rfl rfl (any_of HT_.out (by kernel_rfl)) (fun _ _ _ h => h) (Or.inl ⟨by rfl, ?_⟩) ?_ ?_
      rotate_left
      ·intro w'
       go_simp
       with_reducible rfl
      rotate_left
      ·simp only [Act.put, List.setIfInBounds_toArray, List.set_cons_zero, List.set_cons_succ, i64_w, i32_w]
       rfl
      refine take_ (i := 4) (N := some 61) (v := ?_) (a' := ?_) #[true, true, true, true, true, true, true, false, false, false, false, false] rfl rfl (take_ofW HT_.out HW_.out (by kernel_rfl)) (fun _ _ _ h => h) (Or.inl ⟨by rfl, ?_⟩) hHeld ?_ ?_
      rotate_left
      ·rintro w' ⟨s0, s1, s2, s3, s4, s5, s6, s7⟩
       go_simp
       with_reducible rfl
      rotate_left
      ·simp only [Act.put, List.setIfInBounds_toArray, List.set_cons_zero, List.set_cons_succ, i64_w, i32_w]
       rfl
      refine pure_ (i := 8) (N := some 65) (v := ?_) (a' := ?_) #[true, true, true, true, true, true, true, false, true, false, false, false] rfl rfl (any_of HT_.out (by kernel_rfl)) (fun _ _ _ h => h) (Or.inl ⟨by rfl, ?_⟩) ?_ ?_
      rotate_left
      ·intro w'
       go_simp
       with_reducible rfl
      rotate_left
      ·simp only [Act.put, List.setIfInBounds_toArray, List.set_cons_zero, List.set_cons_succ, i64_w, i32_w]
       rfl
      refine one_ (i := 7) (N := some 64) #[true, true, true, true, true, true, true, true, true, false, false, false] rfl rfl (one_of HT_.out (by kernel_rfl)) (by decide) (fun K hK => ?_)
      refine goes_ Tryd.func50 (by kernel_rfl) rfl #[.int .i64 ((rd_T37 y146 x14_1).f7), .int .i64 (wrap64 (ji2 + 1))] (by rfl) rfl rfl (by (try simp only [List.map_toArray, List.map_cons, List.map_nil]); first | done | (simp only [hji2]; rfl) | rfl | (simp only [List.length_drop, List.length_take]; rfl)) ?_
      with_reducible refine (tautochronelaw13_rest.calls ((rd_T37 y146 x14_1).f7) (wrap64 (ji2 + 1)) t173 _ A69.out).mono ?_
      rintro e w' ⟨rfl, ⟨nd, rfl⟩⟩
      refine ⟨_, rfl, ?_⟩
      refine hK.out _ _ ⟨(blk_cell BK154.out 0).trans rfl, (blk_cell BK154.out 1).trans rfl, (blk_cell BK154.out 2).trans rfl, (blk_cell BK154.out 3).trans rfl, (blk_cell BK154.out 4).trans rfl, (blk_cell BK154.out 5).trans rfl, (blk_cell BK154.out 6).trans rfl, (blk_cell BK154.out 7).trans rfl⟩ (fun hHeld => ?_)
      clear hK K
      refine norm_ (a' := ?_) ?_ ?_
      rotate_left
      ·show Act.put _ (some 64) _ = _
       simp only [Act.put, List.setIfInBounds_toArray, List.set_cons_zero, List.set_cons_succ, i64_w, i32_w]
       rfl
      refine last_ (i := 9) (N := none) #[true, true, true, true, true, true, true, true, true, true, false, false] rfl rfl (one_of HT_.out (by kernel_rfl)) (by decide) (fun K hK => ?_)
      have hs82 : w81.cell? ⟨gb154, 6, none⟩ = some (.int .u64 ((rd_T37 y146 x14_1).f6)) := (blk_cell BK154.out 6).trans rfl
      have hfs82 := blk_frozen BK154.out 6
      refine skip_ (w1 := ?_) (by rfl) rfl ?_ ?_
      rotate_left
      ·go_simp
       rfl
      refine hK.out _ _ ?_
      clear hK K
      refine pure_ (i := 10) (N := some 66) (v := ?_) (a' := ?_) #[true, true, true, true, true, true, true, true, true, true, true, false] rfl rfl (any_of HT_.out (by kernel_rfl)) (fun _ _ _ h => h) (Or.inl ⟨by rfl, ?_⟩) ?_ ?_
      rotate_left
      ·intro w'
       go_simp
       with_reducible rfl
      rotate_left
      ·simp only [Act.put, List.setIfInBounds_toArray, List.set_cons_zero, List.set_cons_succ, i64_w, i32_w]
       rfl
      refine last_ (i := 11) (N := none) #[true, true, true, true, true, true, true, true, true, true, true, true] rfl rfl (one_of HT_.out (by kernel_rfl)) (by decide) (fun K hK => ?_)
      have hs83 : w81.cell? ⟨gb154, 7, none⟩ = some (.int .i64 ((rd_T37 y146 x14_1).f7)) := (blk_cell BK154.out 7).trans rfl
      have hfs83 := blk_frozen BK154.out 7
      refine skip_ (w1 := ?_) (by rfl) rfl ?_ ?_
      rotate_left
      ·go_simp
       rfl
      refine hK.out _ _ ?_
      clear hK K
      refine done_ (done_of HT_.out (by kernel_rfl)) ?_
      have hcz84_0 : w81.cell? ⟨gb154, 0, none⟩ = some (.int .i64 t155) := (blk_cell BK154.out 0).trans rfl
      have hcz84_1 : w81.cell? ⟨gb154, 1, none⟩ = some (.int .i64 t156) := (blk_cell BK154.out 1).trans rfl
      have hcz84_2 : w81.cell? ⟨gb154, 2, none⟩ = some (.int .i64 t157) := (blk_cell BK154.out 2).trans rfl
      have hcz84_3 : w81.cell? ⟨gb154, 3, none⟩ = some (.int .i64 t158) := (blk_cell BK154.out 3).trans rfl
      have hcz84_4 : w81.cell? ⟨gb154, 4, none⟩ = some (.int .i64 t159) := (blk_cell BK154.out 4).trans rfl
      have hcz84_5 : w81.cell? ⟨gb154, 5, none⟩ = some (.int .i64 t160) := (blk_cell BK154.out 5).trans rfl
      have hcz84_6 : w81.cell? ⟨gb154, 6, none⟩ = some (.int .u64 ((rd_T37 y146 x14_1).f6)) := (blk_cell BK154.out 6).trans rfl
      have hcz84_7 : w81.cell? ⟨gb154, 7, none⟩ = some (.int .i64 ((rd_T37 y146 x14_1).f7)) := (blk_cell BK154.out 7).trans rfl
      have hfz84_0 := blk_frozen BK154.out 0
      have hfz84_1 := blk_frozen BK154.out 1
      have hfz84_2 := blk_frozen BK154.out 2
      have hfz84_3 := blk_frozen BK154.out 3
      have hfz84_4 := blk_frozen BK154.out 4
      have hfz84_5 := blk_frozen BK154.out 5
      have hfz84_6 := blk_frozen BK154.out 6
      have hfz84_7 := blk_frozen BK154.out 7
      try go_wp2_with (first | ((with_reducible refine gate_builtin (b := .append) (xs := #[.tmp 67, .tmp 69]) rfl ?_); at_builtin; refine Kd.R_append k37 (w0 := w) w.heap.size rfl (.tmp 67) (.tmp 69) 22 37 (.agg #[(.int .i64 0), (.int .i64 0), (.int .i64 0), (.int .i64 0), (.int .i64 0), (.int .i64 0), (.int .u64 0), (.int .i64 0)]) 64 rfl Tryd.underlying22 info37 rfl (by decide) (by omega) u3 x3_1 (⟨t155, t156, t157, t158, t159, t160, Int.tmod ((rd_T37 y146 x14_1).f6) 8, t173⟩ : S37) [.int .i64 t155, .int .i64 t156, .int .i64 t157, .int .i64 t158, .int .i64 t159, .int .i64 t160, .int .u64 (Int.tmod ((rd_T37 y146 x14_1).f6) 8), .int .i64 t173] (fun k_ => k_ ≠ gb154) (fun _ => False) rfl (by first | (go_simp; done) | (go_simp; rfl)) ?aP (fun _ hk => hk.elim) ?aF ?aO ?aB ?aS ?aL ?_; (case aP => exact k37_mkM _ _ _ (⟨t155, t156, t157, t158, t159, t160, Int.tmod ((rd_T37 y146 x14_1).f6) 8, t173⟩ : S37)); (case aB => exact (by repeat (first | (with_reducible first | exact HB.out | apply below_alloc | apply pw_below_drewN | apply below_drew1 | refine below_set ?_ GE154.out) | exact HB.out))); (case aF => exact (fun k_ hk => Kd.freshB (g := gb154) (o := .cells #[.int .i64 t155, .int .i64 t156, .int .i64 t157, .int .i64 t158, .int .i64 t159, .int .i64 t160, .int .u64 (Int.tmod ((rd_T37 y146 x14_1).f6) 8), .int .i64 t173] 37 (0, 0)) (by (with_reducible repeat (first | refine blk_drewN ?_ _ | refine blk_drew ?_ | refine blk_alloc ?_ _)); refine blk_put (cs := #[.int .i64 t155, .int .i64 t156, .int .i64 t157, .int .i64 t158, .int .i64 t159, .int .i64 t160, .int .u64 (Int.tmod ((rd_T37 y146 x14_1).f6) 8), .int .i64 ((rd_T37 y146 x14_1).f7)]) ?_ 7 _ rfl; refine blk_put (cs := #[.int .i64 t155, .int .i64 t156, .int .i64 t157, .int .i64 t158, .int .i64 t159, .int .i64 t160, .int .u64 ((rd_T37 y146 x14_1).f6), .int .i64 ((rd_T37 y146 x14_1).f7)]) ?_ 6 _ rfl; (with_reducible repeat (first | refine blk_drewN ?_ _ | refine blk_drew ?_ | refine blk_alloc ?_ _)); exact BK154.out) k_ hk)); (case aO => exact (by (with_reducible repeat (first | apply Kd.R_alloc | apply Kd.R_drewN | apply Kd.R_drew)); exact Kd.R_mono (Kd.R_far (p := ⟨gb154, 7, none⟩) (Kd.R_far (p := ⟨gb154, 6, none⟩) (Kd.R_mono HO_3.out (fun k_ hk => (⟨hk, hk⟩ : _ ∧ k_ ≠ gb154))) (fun _ hk => hk.2) (.int .u64 (Int.tmod ((rd_T37 y146 x14_1).f6) 8))) (fun _ hk => hk.2) (.int .i64 t173)) (fun _ hk => hk.1))); (case aS => exact (below_size (by repeat (first | (with_reducible first | exact HB.out | apply below_alloc | apply pw_below_drewN | apply below_drew1 | refine below_set ?_ GE154.out) | exact HB.out)))); (case aL => have := LMc70.out; omega); intro v175 w85 ho hb hg hat; rw [← Ny174.out] at ho; have n0_ := Aside0.mk (blk_grown (g := gb154) (o := .cells #[.int .i64 t155, .int .i64 t156, .int .i64 t157, .int .i64 t158, .int .i64 t159, .int .i64 t160, .int .u64 (Int.tmod ((rd_T37 y146 x14_1).f6) 8), .int .i64 t173] 37 (0, 0)) (by (with_reducible repeat (first | refine blk_drewN ?_ _ | refine blk_drew ?_ | refine blk_alloc ?_ _)); refine blk_put (cs := #[.int .i64 t155, .int .i64 t156, .int .i64 t157, .int .i64 t158, .int .i64 t159, .int .i64 t160, .int .u64 (Int.tmod ((rd_T37 y146 x14_1).f6) 8), .int .i64 ((rd_T37 y146 x14_1).f7)]) ?_ 7 _ rfl; refine blk_put (cs := #[.int .i64 t155, .int .i64 t156, .int .i64 t157, .int .i64 t158, .int .i64 t159, .int .i64 t160, .int .u64 ((rd_T37 y146 x14_1).f6), .int .i64 ((rd_T37 y146 x14_1).f7)]) ?_ 6 _ rfl; (with_reducible repeat (first | refine blk_drewN ?_ _ | refine blk_drew ?_ | refine blk_alloc ?_ _)); exact BK154.out) hg (Kd.R_away HO_3.out (fun _ hk => hk))); have n1_ := Aside0.mk (hb); have n2_ := Aside0.mk (ho); clear BK154; clear HB; clear HO_3; have BK154 := n0_; have HB := n1_; have HO176 := n2_; clear n0_ n1_ n2_; clear ho hb hg hat))
      go_roundg k1
      case measure => have := HK1.out; omega
      case rel => exact ⟨(y174), (wrap64 (x14_1 + 1)), (by first | rfl | (simp; done) | (simp [*]; done)), H', ⟨by have := HK1.out; omega⟩, ⟨by (with_reducible repeat (first | apply Kd.R_alloc | apply Kd.R_drewN | apply Kd.R_drew)); exact Kd.R_mono HO176.out (fun _ hk => trivial)⟩, ⟨by repeat (first | (with_reducible first | exact HB.out | apply below_alloc | apply pw_below_drewN | apply below_drew1 | refine below_set ?_ GE154.out) | exact HB.out)⟩⟩
    ·rw [if_neg c6] at H
     have c6b0 : decide (x14_1 < (y146.length : Int)) = false := decide_eq_false c6
     clear c6
     by_cases c86 : x3_1.length < 2199023255552
     rotate_left
     ·rw [if_neg c86] at H; exact absurd H (by simp)
     rw [if_pos c86] at H
     have LMc86 := Aside0.mk c86
     clear c86
     obtain ⟨y150, hy150⟩ : ∃ y_ : List (S37), y_ = (x3_1 ++ [(⟨13, 0, 0, 0, 0, 0, 0, 0⟩ : S37)]) := ⟨_, rfl⟩
     replace H : (some y150) = some r := by first | (rw [hy150]; with_reducible exact H) | (have H2_ := (Option.bind_some _ _).symm.trans H; rw [hy150]; with_reducible exact H2_) | (have H2_ := (Option.bind_some _ _).symm.trans H; with_reducible exact H2_) | with_reducible exact H | (rw [hy150]; exact H) | exact H
     have Ny150 := Aside0.mk hy150
     clear hy150
     obtain rfl := Option.some.inj H
     go_wp2_with (first | ((with_reducible refine gate_builtin (b := .append) (xs := #[.tmp 72, .tmp 74]) rfl ?_); at_builtin; refine Kd.R_append k37 (w0 := w) w.heap.size rfl (.tmp 72) (.tmp 74) 22 37 (.agg #[(.int .i64 0), (.int .i64 0), (.int .i64 0), (.int .i64 0), (.int .i64 0), (.int .i64 0), (.int .u64 0), (.int .i64 0)]) 64 rfl Tryd.underlying22 info37 rfl (by decide) (by omega) u3 x3_1 (⟨13, 0, 0, 0, 0, 0, 0, 0⟩ : S37) [.int .i64 13, .int .i64 0, .int .i64 0, .int .i64 0, .int .i64 0, .int .i64 0, .int .u64 0, .int .i64 0] (fun _ => True) (fun _ => False) rfl rfl ?aP (fun _ hk => hk.elim) ?aF ?aO ?aB ?aS ?aL ?_; (case aP => exact k37_mkM _ _ _ (⟨13, 0, 0, 0, 0, 0, 0, 0⟩ : S37)); (case aB => exact (by repeat (first | (with_reducible first | exact HB.out | apply below_alloc | apply pw_below_drewN | apply below_drew1) | exact HB.out))); (case aF => exact (fun _ _ => trivial)); (case aO => exact (by (with_reducible repeat (first | apply Kd.R_alloc | apply Kd.R_drewN | apply Kd.R_drew)); exact HO_3.out)); (case aS => exact (below_size (by repeat (first | (with_reducible first | exact HB.out | apply below_alloc | apply pw_below_drewN | apply below_drew1) | exact HB.out)))); (case aL => have := LMc86.out; omega); intro v151 w87 ho hb hg hat; rw [← Ny150.out] at ho; have n0_ := Aside0.mk (hb); have n1_ := Aside0.mk (ho); clear HB; clear HO_3; have HB := n0_; have HO152 := n1_; clear n0_ n1_; clear ho hb hg hat))
     go_ret
     exact ⟨_, by first | rfl | (simp [errW_none, errW_some] <;> rfl) | (simp only [← hji2]; first | rfl | (simp [errW_none, errW_some] <;> rfl)) | (simp [*, errW_none, errW_some] <;> rfl), by (with_reducible repeat (first | apply Kd.R_alloc | apply Kd.R_drewN | apply Kd.R_drew)); exact HO152.out, by repeat (first | (with_reducible first | exact HB.out | apply below_alloc | apply pw_below_drewN | apply below_drew1) | exact HB.out)⟩
 ·rw [if_neg c3] at H
  exact absurd H (by simp)

end Go.Proofs.YtepgpapljoelhaaDoor.PE
