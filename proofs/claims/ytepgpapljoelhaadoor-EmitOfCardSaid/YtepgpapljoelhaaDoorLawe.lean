-- Written by a program of this session (wip/tools/extprint.py, pr.sh).
import Derived.Test.YtepgpapljoelhaaDoorAwk
import Derived.Test.YtepgpapljoelhaaDoorWnf
import Derived.Test.YtepgpapljoelhaaDoorPEx7
import Derived.Laws.Runes
namespace Go.Proofs.YtepgpapljoelhaaDoor.PE
noncomputable section
open Go.RowKit Go.Proofs.YtepgpapljoelhaaDoorW.PrintWords Go.Proofs.YtepgpapljoelhaaDoorW.PrintLast Go.Proofs.YtepgpapljoelhaaDoorW.PrintMore
attribute [local go_sem] max2_int min2_int max_two min_two max_three min_three max_four min_four   -- for this text's walks alone
set_option linter.unusedVariables false
set_option linter.unusedSimpArgs false

/-! ### tautochronelaw19_EmitOf: function 3 -/
def tautochronelaw19_EmitOf.l0 : Nat → List Int → Int → List (S37) → Int → List Int → Int → Option (Bool)
 | 0, _, _, _, _, _, _ => none
 | k + 1, x1, x2, x7, x8, x9, x10 => if x10 < x8 then (if x10 < (x1.length : Int) then (if 0 ≤ x10 then (if x9.length < 17592186044416 then (tautochronelaw19_EmitOf.l0 k x1 x2 x7 x8 (x9 ++ [wrap64 (rd x1 x10)]) (wrap64 (x10 + 1))) else (none)) else (none)) else (if x9.length < 17592186044416 then (tautochronelaw19_EmitOf.l0 k x1 x2 x7 x8 (x9 ++ [Int.tmod x10 5]) (wrap64 (x10 + 1))) else (none))) else ((emit_Of.f k x7 x9 128 x2).bind fun bt228 => (if ([] : List Int).length + x9.length < 17592186044416 then ((some (([] : List Int) ++ x9 : List Int)).bind fun y232 => (if y232.length < 17592186044416 then ((emit_Of.f k x7 (y232 ++ [0]) 0 x2).bind fun bt238 => (if ([] : List (S37)).length + x7.length < 2199023255552 then ((some (([] : List (S37)) ++ x7 : List (S37))).bind fun y242 => (if y242.length < 2199023255552 then ((emit_Of.f k (y242 ++ [(⟨12, 0, 0, (-1), 0, 0, 0, 0⟩ : S37)]) x9 0 x2).bind fun bt248 => (if bt228.2 = true then ((tautochronelaw19_want.f k x7 x9 x2).bind fun t252 => ((tautochronelaw15_Equal.f k bt228.1 t252).bind fun t255 => (if t255 = true then (if bt238.2 = true then (none) else (if (bt238.1.length : Int) = 0 then (if bt248.2 = true then (none) else (some ((bt248.1.length : Int) == 0))) else (none))) else (none)))) else (none))) else (none))) else (none))) else (none))) else (none)))
def tautochronelaw19_EmitOf.f (k : Nat) (l0 : List (S37)) (l1 : List Int) (a2 : Int) : Option (Bool) := (tautochronelaw19_awake.f k).bind fun t216 => (if t216 = true then ((tautochronelaw19_good.f k l0).bind fun t217 => ((code_Values.f k t217).bind fun t220 => (tautochronelaw19_EmitOf.l0 k l1 a2 t217 t220 ([] : List Int) 0))) else (none))
theorem tautochronelaw19_EmitOf.mono_l : ∀ k, (∀ y0 y1 y2 y3 y4 y5, LeO (tautochronelaw19_EmitOf.l0 k y0 y1 y2 y3 y4 y5) (tautochronelaw19_EmitOf.l0 (k + 1) y0 y1 y2 y3 y4 y5))
 | 0 => fun _ _ _ _ _ _ r h => by simp [tautochronelaw19_EmitOf.l0] at h
 | k + 1 => by
  have ih0 := tautochronelaw19_EmitOf.mono_l k
  ·intro y0 y1 y2 y3 y4 y5
   unfold tautochronelaw19_EmitOf.l0
   repeat' first
   | (with_reducible exact ih0 _ _ _ _ _ _)
   | (with_reducible exact code_Values.mono _ _)
   | (with_reducible exact emit_Of.mono _ _ _ _ _)
   | (with_reducible exact tautochronelaw15_Equal.mono _ _ _)
   | (with_reducible exact tautochronelaw19_awake.mono _)
   | (with_reducible exact tautochronelaw19_good.mono _ _)
   | (with_reducible exact tautochronelaw19_want.mono _ _ _ _)
   | (with_reducible exact LeO.refl _)
   | (with_reducible exact LeO.none _)
   | (with_reducible refine LeO.ite ?_ ?_)
   | (with_reducible refine LeO.bind ?_ (fun _ => ?_))
   | exact ih0 _ _ _ _ _ _
   | exact code_Values.mono _ _
   | exact emit_Of.mono _ _ _ _ _
   | exact tautochronelaw15_Equal.mono _ _ _
   | exact tautochronelaw19_awake.mono _
   | exact tautochronelaw19_good.mono _ _
   | exact tautochronelaw19_want.mono _ _ _ _
   | exact LeO.none _
   | refine LeO.ite ?_ ?_
   | refine LeO.bind ?_ (fun _ => ?_)
theorem tautochronelaw19_EmitOf.mono : ∀ a0 a1 a2 k, LeO (tautochronelaw19_EmitOf.f k a0 a1 a2) (tautochronelaw19_EmitOf.f (k + 1) a0 a1 a2) := by
 intro a0 a1 a2 k
 have ih0 := tautochronelaw19_EmitOf.mono_l k
 unfold tautochronelaw19_EmitOf.f
 repeat' first
   | (with_reducible exact ih0 _ _ _ _ _ _)
   | (with_reducible exact code_Values.mono _ _)
   | (with_reducible exact emit_Of.mono _ _ _ _ _)
   | (with_reducible exact tautochronelaw15_Equal.mono _ _ _)
   | (with_reducible exact tautochronelaw19_awake.mono _)
   | (with_reducible exact tautochronelaw19_good.mono _ _)
   | (with_reducible exact tautochronelaw19_want.mono _ _ _ _)
   | (with_reducible exact LeO.refl _)
   | (with_reducible exact LeO.none _)
   | (with_reducible refine LeO.ite ?_ ?_)
   | (with_reducible refine LeO.bind ?_ (fun _ => ?_))
   | exact ih0 _ _ _ _ _ _
   | exact code_Values.mono _ _
   | exact emit_Of.mono _ _ _ _ _
   | exact tautochronelaw15_Equal.mono _ _ _
   | exact tautochronelaw19_awake.mono _
   | exact tautochronelaw19_good.mono _ _
   | exact tautochronelaw19_want.mono _ _ _ _
   | exact LeO.none _
   | refine LeO.ite ?_ ?_
   | refine LeO.bind ?_ (fun _ => ?_)
set_option maxHeartbeats 8000000 in
set_option maxRecDepth 100000 in
theorem tautochronelaw19_EmitOf.calls (k : Nat) (A0 : Option Addr) (c0 : Nat) (l0 : List (S37)) (A1 : Option Addr) (c1 : Nat) (l1 : List Int) (a2 : Int) (r : Bool) (w : World) (hr0 : Kd.C k37 w A0 l0.length l0) (hc0 : l0.length ≤ c0) (hr1 : Kd.C (Kd.int .i8) w A1 l1.length l1) (hc1 : l1.length ≤ c1) (h : tautochronelaw19_EmitOf.f k l0 l1 a2 = some r) :
  Calls Tryd.prog 3 #[.slice A0 l0.length c0, .slice A1 l1.length c1, .int .u64 a2] w fun e w' => e = .returned (.bool r) ∧ Below w.heap.size w w' := by
 have hu33 := Tryd.underlying33
 have hu37 := Tryd.underlying37
 have HR0 := Aside0.mk hr0
 have HC0 := Aside0.mk hc0
 clear hr0 hc0
 have HR1 := Aside0.mk hr1
 have HC1 := Aside0.mk hc1
 clear hr1 hc1
 have HB := Aside0.mk (Below.refl w.heap.size w)
 have H : ((tautochronelaw19_awake.f k).bind fun t216 => (if t216 = true then ((tautochronelaw19_good.f k l0).bind fun t217 => ((code_Values.f k t217).bind fun t220 => (tautochronelaw19_EmitOf.l0 k l1 a2 t217 t220 ([] : List Int) 0))) else (none))) = some r := h
 clear h
 replace H := Option.bind_eq_some_iff.mp H
 obtain ⟨t216, A40, H⟩ := H
 replace H : (if t216 = true then ((tautochronelaw19_good.f k l0).bind fun t217 => ((code_Values.f k t217).bind fun t220 => (tautochronelaw19_EmitOf.l0 k l1 a2 t217 t220 ([] : List Int) 0))) else (none)) = some r := H
 have A4 := Aside0.mk A40
 clear A40
 by_cases c5 : t216 = true
 ·subst c5
  have H1 : ((tautochronelaw19_good.f k l0).bind fun t217 => ((code_Values.f k t217).bind fun t220 => (tautochronelaw19_EmitOf.l0 k l1 a2 t217 t220 ([] : List Int) 0))) = some r := by rw [if_pos rfl] at H; exact H
  clear H
  have H := H1
  clear H1
  replace H := Option.bind_eq_some_iff.mp H
  obtain ⟨t217, A60, H⟩ := H
  replace H : ((code_Values.f k t217).bind fun t220 => (tautochronelaw19_EmitOf.l0 k l1 a2 t217 t220 ([] : List Int) 0)) = some r := H
  have A6 := Aside0.mk A60
  clear A60
  replace H := Option.bind_eq_some_iff.mp H
  obtain ⟨t220, A70, H⟩ := H
  replace H : (tautochronelaw19_EmitOf.l0 k l1 a2 t217 t220 ([] : List Int) 0) = some r := H
  have A7 := Aside0.mk A70
  clear A70
  have H' := Aside0.mk H
  clear H
  go_enter Tryd.func3, Tryd.ntmps3
  go_wp2_with (first | ((with_reducible refine gate_callee (f := 8) rfl ?_); refine goesL_ (some 18) rfl rfl Tryd.func8 (by kernel_rfl) rfl #[] rfl (by (try simp only [List.map_toArray, List.map_cons, List.map_nil]); first | done | rfl | (simp only [List.length_drop, List.length_take]; rfl)) ?_; (with_reducible refine (tautochronelaw19_awake.calls k  true _ A4.out).mono ?_); rintro e w8 ⟨rfl, hb⟩; refine ⟨_, rfl, ?_⟩; have n0_ := Aside0.mk (below_step (by repeat (first | (with_reducible first | exact HB.out | apply below_alloc | apply pw_below_drewN | apply below_drew1) | exact HB.out)) hb); clear HB; have HB := n0_; clear n0_; (try clear hb); (try clear hb2); (try clear hk); (try clear hi)) | ((with_reducible refine gate_callee (f := 9) rfl ?_); refine goesL_ (some 21) rfl rfl Tryd.func9 (by kernel_rfl) rfl #[.slice A0 l0.length c0] rfl (by (try simp only [List.map_toArray, List.map_cons, List.map_nil]); first | done | rfl | (simp only [List.length_drop, List.length_take]; rfl)) ?_; (with_reducible refine (tautochronelaw19_good.calls k _ _ l0 t217 _ ?side1 ?side2 A6.out).mono ?_); (case side1 => repeat (first | exact (Kd.C_below HR0.out HB.out) | (with_reducible refine Kd.C_alloc ?_ _) | (with_reducible refine Kd.C_drewN ?_ _) | (with_reducible refine Kd.C_drew ?_))); (case side2 => exact HC0.out); rintro e w9 ⟨v218, rfl, ho0, hb⟩; refine ⟨_, rfl, ?_⟩; have n0_ := Aside0.mk (Kd.R_lower ho0 (below_size (by repeat (first | (with_reducible first | exact HB.out | apply below_alloc | apply pw_below_drewN | apply below_drew1) | exact HB.out)))); have n1_ := Aside0.mk (below_step (by repeat (first | (with_reducible first | exact HB.out | apply below_alloc | apply pw_below_drewN | apply below_drew1) | exact HB.out)) hb); clear HB; have HO219 := n0_; have HB := n1_; clear n0_ n1_; (try clear hb); (try clear hb2); (try clear hk); (try clear hi); (try clear ho0); obtain ⟨Ao10, co10, eo10⟩ := Kd.R_slice HO219.out; subst eo10) | ((with_reducible refine gate_callee (f := 10) rfl ?_); refine goesL_ (some 23) rfl rfl Tryd.func10 (by kernel_rfl) rfl #[.slice Ao10 t217.length co10] rfl (by (try simp only [List.map_toArray, List.map_cons, List.map_nil]); first | done | rfl | (simp only [List.length_drop, List.length_take]; rfl)) ?_; (with_reducible refine (code_Values.calls k _ _ t217 t220 _ ?side1 ?side2 A7.out).mono ?_); (case side1 => repeat (first | exact (Kd.R_reads' HO219.out).2.2 | (with_reducible refine Kd.C_alloc ?_ _) | (with_reducible refine Kd.C_drewN ?_ _) | (with_reducible refine Kd.C_drew ?_))); (case side2 => exact (Kd.R_reads' HO219.out).2.1); rintro e w11 ⟨rfl, hb⟩; refine ⟨_, rfl, ?_⟩; have n0_ := Aside0.mk (Kd.R_below (by (with_reducible repeat (first | apply Kd.R_alloc | apply Kd.R_drewN | apply Kd.R_drew)); exact HO219.out) hb); have n1_ := Aside0.mk (below_step (by repeat (first | (with_reducible first | exact HB.out | apply below_alloc | apply pw_below_drewN | apply below_drew1) | exact HB.out)) hb); clear HO219; clear HB; have HO219 := n0_; have HB := n1_; clear n0_ n1_; (try clear hb); (try clear hb2); (try clear hk); (try clear hi)))
  go_loopg [9, 10] k (fun kq v9 v10 w' => ∃ (x9_1 : List Int) (x10_1 : Int), v10 = .int .i64 x10_1 ∧ Aside0 (tautochronelaw19_EmitOf.l0 kq l1 a2 t217 t220 x9_1 x10_1 = some r) ∧ Aside0 (kq ≤ k) ∧ Aside0 (Kd.R k37 37 w' w.heap.size (fun _ => True) (.slice Ao10 t217.length co10) t217) ∧ Aside0 (Kd.R (Kd.int .i64) 3 w' w.heap.size (fun _ => True) v9 x9_1) ∧ Aside0 (Below w.heap.size w w'))
  case atStart => exact ⟨(([] : List Int)), (0), (by first | rfl | (simp; done) | (simp [*]; done)), H', ⟨Nat.le_refl _⟩, ⟨by (with_reducible repeat (first | apply Kd.R_alloc | apply Kd.R_drewN | apply Kd.R_drew)); exact HO219.out⟩, ⟨by first | exact Kd.R_nil _ _ _ _ _ | exact Kd.N_nil _ _ _ _ _ | exact Kd.V_nil _ _ _ _ _ | exact Kd.Q_nil _ _ _ _ _ | exact Kd.S_nil _ _ _ _ _⟩, ⟨by repeat (first | (with_reducible first | exact HB.out | apply below_alloc | apply pw_below_drewN | apply below_drew1) | exact HB.out)⟩⟩
  case round =>
   clear H'
   try clear c1
   try clear p2
   try clear c3
   try clear c5
   try clear c8
   try clear c9
   try clear c10
   obtain ⟨x9_1, x10_1, rfl, HA, HK1, HO_7, HO_9, HB⟩ := hrel
   cases gk with
   | zero => exact absurd HA.out (by simp [tautochronelaw19_EmitOf.l0])
   | succ k1 =>
    have H := HA.out
    clear HA
    simp only [tautochronelaw19_EmitOf.l0] at H
    by_cases c12 : x10_1 < t220
    ·rw [if_pos c12] at H
     have c12b0 : decide (x10_1 < t220) = true := decide_eq_true c12
     clear c12
     by_cases c13 : x10_1 < (l1.length : Int)
     ·rw [if_pos c13] at H
      have c13b0 : decide (x10_1 < (l1.length : Int)) = true := decide_eq_true c13
      clear c13
      by_cases c14 : 0 ≤ x10_1
      rotate_left
      ·rw [if_neg c14] at H; exact absurd H (by simp)
      rw [if_pos c14] at H
      have c14b0 : decide (0 ≤ x10_1) = true := decide_eq_true c14
      clear c14
      by_cases c15 : x9_1.length < 17592186044416
      rotate_left
      ·rw [if_neg c15] at H; exact absurd H (by simp)
      rw [if_pos c15] at H
      have LMc15 := Aside0.mk c15
      clear c15
      obtain ⟨y222, hy222⟩ : ∃ y_ : List Int, y_ = (x9_1 ++ [wrap64 (rd l1 x10_1)]) := ⟨_, rfl⟩
      replace H : (tautochronelaw19_EmitOf.l0 k1 l1 a2 t217 t220 y222 (wrap64 (x10_1 + 1))) = some r := by first | (rw [hy222]; with_reducible exact H) | (have H2_ := (Option.bind_some _ _).symm.trans H; rw [hy222]; with_reducible exact H2_) | (have H2_ := (Option.bind_some _ _).symm.trans H; with_reducible exact H2_) | with_reducible exact H | (rw [hy222]; exact H) | exact H
      have Ny222 := Aside0.mk hy222
      clear hy222
      have H' := Aside0.mk H
      clear H
      have p221 : 0 ≤ (x10_1 : Int) := of_decide_eq_true (by first | (with_reducible assumption) | assumption)
      have q221 : x10_1 < (l1.length : Int) := of_decide_eq_true (by first | (with_reducible assumption) | assumption)
      obtain ⟨ad221, e221, hx221_0⟩ := Kd.at_int HR1.out x10_1 p221 q221
      cases e221
      replace hx221_0 := (HB.out.cell (World.block_lt_of_cell? w _ hx221_0)).trans hx221_0
      replace p221 := eq_true p221
      replace q221 := eq_true q221
      go_wp2_with (first | ((with_reducible refine gate_builtin (b := .append) (xs := #[.tmp 40, .tmp 42]) rfl ?_); (try (refine gate_guard (by rfl) ?_; dsimp only)); at_builtin; refine Kd.R_append (Kd.int .i64) (w0 := w) w.heap.size rfl (.tmp 40) (.tmp 42) 28 3 (.int .i64 0) 8 rfl Tryd.underlying28 info3 rfl (by decide) (by omega) u9 x9_1 (wrap64 (rd l1 x10_1)) [.int .i64 (wrap64 (rd l1 x10_1))] (fun _ => True) (fun _ => False) rfl rfl ?aP (fun _ hk => hk.elim) ?aF ?aO ?aB ?aS ?aL ?_; (case aP => exact rfl); (case aB => exact (by repeat (first | (with_reducible first | exact HB.out | apply below_alloc | apply pw_below_drewN | apply below_drew1) | exact HB.out))); (case aF => exact (fun _ _ => trivial)); (case aO => exact (by (with_reducible repeat (first | apply Kd.R_alloc | apply Kd.R_drewN | apply Kd.R_drew)); exact HO_9.out)); (case aS => exact (below_size (by repeat (first | (with_reducible first | exact HB.out | apply below_alloc | apply pw_below_drewN | apply below_drew1) | exact HB.out)))); (case aL => have := LMc15.out; omega); intro v223 w16 ho hb hg hat; rw [← Ny222.out] at ho; have n0_ := Aside0.mk (Kd.R_over' (by (with_reducible repeat (first | apply Kd.R_alloc | apply Kd.R_drewN | apply Kd.R_drew)); exact HO_7.out) (Kd.R_typed (by (with_reducible repeat (first | apply Kd.R_alloc | apply Kd.R_drewN | apply Kd.R_drew)); exact HO_9.out)) (by decide) hg); have n1_ := Aside0.mk (hb); have n2_ := Aside0.mk (ho); clear HO_7; clear HB; clear HO_9; have HO_7 := n0_; have HB := n1_; have HO224 := n2_; clear n0_ n1_ n2_; clear ho hb hg hat))
      go_roundg k1
      case measure => have := HK1.out; omega
      case rel => exact ⟨(y222), (wrap64 (x10_1 + 1)), (by first | rfl | (simp; done) | (simp [*]; done)), H', ⟨by have := HK1.out; omega⟩, ⟨by (with_reducible repeat (first | apply Kd.R_alloc | apply Kd.R_drewN | apply Kd.R_drew)); exact HO_7.out⟩, ⟨by (with_reducible repeat (first | apply Kd.R_alloc | apply Kd.R_drewN | apply Kd.R_drew)); exact HO224.out⟩, ⟨by repeat (first | (with_reducible first | exact HB.out | apply below_alloc | apply pw_below_drewN | apply below_drew1) | exact HB.out)⟩⟩
     ·rw [if_neg c13] at H
      have c13b0 : decide (x10_1 < (l1.length : Int)) = false := decide_eq_false c13
      clear c13
      by_cases c17 : x9_1.length < 17592186044416
      rotate_left
      ·rw [if_neg c17] at H; exact absurd H (by simp)
      rw [if_pos c17] at H
      have LMc17 := Aside0.mk c17
      clear c17
      obtain ⟨y225, hy225⟩ : ∃ y_ : List Int, y_ = (x9_1 ++ [Int.tmod x10_1 5]) := ⟨_, rfl⟩
      replace H : (tautochronelaw19_EmitOf.l0 k1 l1 a2 t217 t220 y225 (wrap64 (x10_1 + 1))) = some r := by first | (rw [hy225]; with_reducible exact H) | (have H2_ := (Option.bind_some _ _).symm.trans H; rw [hy225]; with_reducible exact H2_) | (have H2_ := (Option.bind_some _ _).symm.trans H; with_reducible exact H2_) | with_reducible exact H | (rw [hy225]; exact H) | exact H
      have Ny225 := Aside0.mk hy225
      clear hy225
      have H' := Aside0.mk H
      clear H
      go_wp2_with (first | ((with_reducible refine gate_builtin (b := .append) (xs := #[.tmp 40, .tmp 42]) rfl ?_); (try (refine gate_guard (by rfl) ?_; dsimp only)); at_builtin; refine Kd.R_append (Kd.int .i64) (w0 := w) w.heap.size rfl (.tmp 40) (.tmp 42) 28 3 (.int .i64 0) 8 rfl Tryd.underlying28 info3 rfl (by decide) (by omega) u9 x9_1 (Int.tmod x10_1 5) [.int .i64 (Int.tmod x10_1 5)] (fun _ => True) (fun _ => False) rfl rfl ?aP (fun _ hk => hk.elim) ?aF ?aO ?aB ?aS ?aL ?_; (case aP => exact rfl); (case aB => exact (by repeat (first | (with_reducible first | exact HB.out | apply below_alloc | apply pw_below_drewN | apply below_drew1) | exact HB.out))); (case aF => exact (fun _ _ => trivial)); (case aO => exact (by (with_reducible repeat (first | apply Kd.R_alloc | apply Kd.R_drewN | apply Kd.R_drew)); exact HO_9.out)); (case aS => exact (below_size (by repeat (first | (with_reducible first | exact HB.out | apply below_alloc | apply pw_below_drewN | apply below_drew1) | exact HB.out)))); (case aL => have := LMc17.out; omega); intro v226 w18 ho hb hg hat; rw [← Ny225.out] at ho; have n0_ := Aside0.mk (Kd.R_over' (by (with_reducible repeat (first | apply Kd.R_alloc | apply Kd.R_drewN | apply Kd.R_drew)); exact HO_7.out) (Kd.R_typed (by (with_reducible repeat (first | apply Kd.R_alloc | apply Kd.R_drewN | apply Kd.R_drew)); exact HO_9.out)) (by decide) hg); have n1_ := Aside0.mk (hb); have n2_ := Aside0.mk (ho); clear HO_7; clear HB; clear HO_9; have HO_7 := n0_; have HB := n1_; have HO227 := n2_; clear n0_ n1_ n2_; clear ho hb hg hat))
      go_roundg k1
      case measure => have := HK1.out; omega
      case rel => exact ⟨(y225), (wrap64 (x10_1 + 1)), (by first | rfl | (simp; done) | (simp [*]; done)), H', ⟨by have := HK1.out; omega⟩, ⟨by (with_reducible repeat (first | apply Kd.R_alloc | apply Kd.R_drewN | apply Kd.R_drew)); exact HO_7.out⟩, ⟨by (with_reducible repeat (first | apply Kd.R_alloc | apply Kd.R_drewN | apply Kd.R_drew)); exact HO227.out⟩, ⟨by repeat (first | (with_reducible first | exact HB.out | apply below_alloc | apply pw_below_drewN | apply below_drew1) | exact HB.out)⟩⟩
    ·rw [if_neg c12] at H
     have c12b0 : decide (x10_1 < t220) = false := decide_eq_false c12
     clear c12
     replace H := Option.bind_eq_some_iff.mp H
     obtain ⟨⟨t228, t231⟩, A190, H⟩ := H
     replace H : (if ([] : List Int).length + x9_1.length < 17592186044416 then ((some (([] : List Int) ++ x9_1 : List Int)).bind fun y232 => (if y232.length < 17592186044416 then ((emit_Of.f k1 t217 (y232 ++ [0]) 0 a2).bind fun bt238 => (if ([] : List (S37)).length + t217.length < 2199023255552 then ((some (([] : List (S37)) ++ t217 : List (S37))).bind fun y242 => (if y242.length < 2199023255552 then ((emit_Of.f k1 (y242 ++ [(⟨12, 0, 0, (-1), 0, 0, 0, 0⟩ : S37)]) x9_1 0 a2).bind fun bt248 => (if t231 = true then ((tautochronelaw19_want.f k1 t217 x9_1 a2).bind fun t252 => ((tautochronelaw15_Equal.f k1 t228 t252).bind fun t255 => (if t255 = true then (if bt238.2 = true then (none) else (if (bt238.1.length : Int) = 0 then (if bt248.2 = true then (none) else (some ((bt248.1.length : Int) == 0))) else (none))) else (none)))) else (none))) else (none))) else (none))) else (none))) else (none)) = some r := H
     have A19 := Aside0.mk A190
     clear A190
     by_cases c20 : ([] : List Int).length + x9_1.length < 17592186044416
     rotate_left
     ·rw [if_neg c20] at H; exact absurd H (by simp)
     rw [if_pos c20] at H
     have LMc20 := Aside0.mk c20
     clear c20
     obtain ⟨y232, hy232⟩ : ∃ y_ : List Int, y_ = (([] : List Int) ++ x9_1) := ⟨_, rfl⟩
     replace H : (if y232.length < 17592186044416 then ((emit_Of.f k1 t217 (y232 ++ [0]) 0 a2).bind fun bt238 => (if ([] : List (S37)).length + t217.length < 2199023255552 then ((some (([] : List (S37)) ++ t217 : List (S37))).bind fun y242 => (if y242.length < 2199023255552 then ((emit_Of.f k1 (y242 ++ [(⟨12, 0, 0, (-1), 0, 0, 0, 0⟩ : S37)]) x9_1 0 a2).bind fun bt248 => (if t231 = true then ((tautochronelaw19_want.f k1 t217 x9_1 a2).bind fun t252 => ((tautochronelaw15_Equal.f k1 t228 t252).bind fun t255 => (if t255 = true then (if bt238.2 = true then (none) else (if (bt238.1.length : Int) = 0 then (if bt248.2 = true then (none) else (some ((bt248.1.length : Int) == 0))) else (none))) else (none)))) else (none))) else (none))) else (none))) else (none)) = some r := by first | (rw [hy232]; with_reducible exact H) | (have H2_ := (Option.bind_some _ _).symm.trans H; rw [hy232]; with_reducible exact H2_) | (have H2_ := (Option.bind_some _ _).symm.trans H; with_reducible exact H2_) | with_reducible exact H | (rw [hy232]; exact H) | exact H
     have Ny232 := Aside0.mk hy232
     clear hy232
     by_cases c21 : y232.length < 17592186044416
     rotate_left
     ·rw [if_neg c21] at H; exact absurd H (by simp)
     rw [if_pos c21] at H
     have LMc21 := Aside0.mk c21
     clear c21
     obtain ⟨y235, hy235⟩ : ∃ y_ : List Int, y_ = (y232 ++ [0]) := ⟨_, rfl⟩
     replace H : ((emit_Of.f k1 t217 y235 0 a2).bind fun bt238 => (if ([] : List (S37)).length + t217.length < 2199023255552 then ((some (([] : List (S37)) ++ t217 : List (S37))).bind fun y242 => (if y242.length < 2199023255552 then ((emit_Of.f k1 (y242 ++ [(⟨12, 0, 0, (-1), 0, 0, 0, 0⟩ : S37)]) x9_1 0 a2).bind fun bt248 => (if t231 = true then ((tautochronelaw19_want.f k1 t217 x9_1 a2).bind fun t252 => ((tautochronelaw15_Equal.f k1 t228 t252).bind fun t255 => (if t255 = true then (if bt238.2 = true then (none) else (if (bt238.1.length : Int) = 0 then (if bt248.2 = true then (none) else (some ((bt248.1.length : Int) == 0))) else (none))) else (none)))) else (none))) else (none))) else (none))) = some r := by first | (rw [hy235]; with_reducible exact H) | (have H2_ := (Option.bind_some _ _).symm.trans H; rw [hy235]; with_reducible exact H2_) | (have H2_ := (Option.bind_some _ _).symm.trans H; with_reducible exact H2_) | with_reducible exact H | (rw [hy235]; exact H) | exact H
     have Ny235 := Aside0.mk hy235
     clear hy235
     replace H := Option.bind_eq_some_iff.mp H
     obtain ⟨⟨t238, t241⟩, A220, H⟩ := H
     replace H : (if ([] : List (S37)).length + t217.length < 2199023255552 then ((some (([] : List (S37)) ++ t217 : List (S37))).bind fun y242 => (if y242.length < 2199023255552 then ((emit_Of.f k1 (y242 ++ [(⟨12, 0, 0, (-1), 0, 0, 0, 0⟩ : S37)]) x9_1 0 a2).bind fun bt248 => (if t231 = true then ((tautochronelaw19_want.f k1 t217 x9_1 a2).bind fun t252 => ((tautochronelaw15_Equal.f k1 t228 t252).bind fun t255 => (if t255 = true then (if t241 = true then (none) else (if (t238.length : Int) = 0 then (if bt248.2 = true then (none) else (some ((bt248.1.length : Int) == 0))) else (none))) else (none)))) else (none))) else (none))) else (none)) = some r := H
     have A22 := Aside0.mk A220
     clear A220
     by_cases c23 : ([] : List (S37)).length + t217.length < 2199023255552
     rotate_left
     ·rw [if_neg c23] at H; exact absurd H (by simp)
     rw [if_pos c23] at H
     have LMc23 := Aside0.mk c23
     clear c23
     obtain ⟨y242, hy242⟩ : ∃ y_ : List (S37), y_ = (([] : List (S37)) ++ t217) := ⟨_, rfl⟩
     replace H : (if y242.length < 2199023255552 then ((emit_Of.f k1 (y242 ++ [(⟨12, 0, 0, (-1), 0, 0, 0, 0⟩ : S37)]) x9_1 0 a2).bind fun bt248 => (if t231 = true then ((tautochronelaw19_want.f k1 t217 x9_1 a2).bind fun t252 => ((tautochronelaw15_Equal.f k1 t228 t252).bind fun t255 => (if t255 = true then (if t241 = true then (none) else (if (t238.length : Int) = 0 then (if bt248.2 = true then (none) else (some ((bt248.1.length : Int) == 0))) else (none))) else (none)))) else (none))) else (none)) = some r := by first | (rw [hy242]; with_reducible exact H) | (have H2_ := (Option.bind_some _ _).symm.trans H; rw [hy242]; with_reducible exact H2_) | (have H2_ := (Option.bind_some _ _).symm.trans H; with_reducible exact H2_) | with_reducible exact H | (rw [hy242]; exact H) | exact H
     have Ny242 := Aside0.mk hy242
     clear hy242
     by_cases c24 : y242.length < 2199023255552
     rotate_left
     ·rw [if_neg c24] at H; exact absurd H (by simp)
     rw [if_pos c24] at H
     have LMc24 := Aside0.mk c24
     clear c24
     obtain ⟨y245, hy245⟩ : ∃ y_ : List (S37), y_ = (y242 ++ [(⟨12, 0, 0, (-1), 0, 0, 0, 0⟩ : S37)]) := ⟨_, rfl⟩
     replace H : ((emit_Of.f k1 y245 x9_1 0 a2).bind fun bt248 => (if t231 = true then ((tautochronelaw19_want.f k1 t217 x9_1 a2).bind fun t252 => ((tautochronelaw15_Equal.f k1 t228 t252).bind fun t255 => (if t255 = true then (if t241 = true then (none) else (if (t238.length : Int) = 0 then (if bt248.2 = true then (none) else (some ((bt248.1.length : Int) == 0))) else (none))) else (none)))) else (none))) = some r := by first | (rw [hy245]; with_reducible exact H) | (have H2_ := (Option.bind_some _ _).symm.trans H; rw [hy245]; with_reducible exact H2_) | (have H2_ := (Option.bind_some _ _).symm.trans H; with_reducible exact H2_) | with_reducible exact H | (rw [hy245]; exact H) | exact H
     have Ny245 := Aside0.mk hy245
     clear hy245
     replace H := Option.bind_eq_some_iff.mp H
     obtain ⟨⟨t248, t251⟩, A250, H⟩ := H
     replace H : (if t231 = true then ((tautochronelaw19_want.f k1 t217 x9_1 a2).bind fun t252 => ((tautochronelaw15_Equal.f k1 t228 t252).bind fun t255 => (if t255 = true then (if t241 = true then (none) else (if (t238.length : Int) = 0 then (if t251 = true then (none) else (some ((t248.length : Int) == 0))) else (none))) else (none)))) else (none)) = some r := H
     have A25 := Aside0.mk A250
     clear A250
     by_cases c26 : t231 = true
     ·subst c26
      have H1 : ((tautochronelaw19_want.f k1 t217 x9_1 a2).bind fun t252 => ((tautochronelaw15_Equal.f k1 t228 t252).bind fun t255 => (if t255 = true then (if t241 = true then (none) else (if (t238.length : Int) = 0 then (if t251 = true then (none) else (some ((t248.length : Int) == 0))) else (none))) else (none)))) = some r := by rw [if_pos rfl] at H; exact H
      clear H
      have H := H1
      clear H1
      replace H := Option.bind_eq_some_iff.mp H
      obtain ⟨t252, A270, H⟩ := H
      replace H : ((tautochronelaw15_Equal.f k1 t228 t252).bind fun t255 => (if t255 = true then (if t241 = true then (none) else (if (t238.length : Int) = 0 then (if t251 = true then (none) else (some ((t248.length : Int) == 0))) else (none))) else (none))) = some r := H
      have A27 := Aside0.mk A270
      clear A270
      replace H := Option.bind_eq_some_iff.mp H
      obtain ⟨t255, A280, H⟩ := H
      replace H : (if t255 = true then (if t241 = true then (none) else (if (t238.length : Int) = 0 then (if t251 = true then (none) else (some ((t248.length : Int) == 0))) else (none))) else (none)) = some r := H
      have A28 := Aside0.mk A280
      clear A280
      by_cases c29 : t255 = true
      ·subst c29
       have H1 : (if t241 = true then (none) else (if (t238.length : Int) = 0 then (if t251 = true then (none) else (some ((t248.length : Int) == 0))) else (none))) = some r := by rw [if_pos rfl] at H; exact H
       clear H
       have H := H1
       clear H1
       by_cases c30 : t241 = true
       ·subst c30
        have H1 : (none) = some r := by rw [if_pos rfl] at H; exact H
        clear H
        have H := H1
        clear H1
        exact absurd H (by simp)
       ·replace c30 := Bool.eq_false_iff.mpr c30
        subst c30
        have H1 : (if (t238.length : Int) = 0 then (if t251 = true then (none) else (some ((t248.length : Int) == 0))) else (none)) = some r := by rw [if_neg (show ¬ (false = true) by decide)] at H; exact H
        clear H
        have H := H1
        clear H1
        by_cases c31 : (t238.length : Int) = 0
        rotate_left
        ·rw [if_neg c31] at H; exact absurd H (by simp)
        rw [if_pos c31] at H
        have c31b0 : ((t238.length : Int) == 0) = true := beq_iff_eq.mpr c31
        have c31b1 : ((t238.length : Int) != 0) = false := bne_eq_false_iff_eq.mpr c31
        clear c31
        by_cases c32 : t251 = true
        ·subst c32
         have H1 : (none) = some r := by rw [if_pos rfl] at H; exact H
         clear H
         have H := H1
         clear H1
         exact absurd H (by simp)
        ·replace c32 := Bool.eq_false_iff.mpr c32
         subst c32
         have H1 : (some ((t248.length : Int) == 0)) = some r := by rw [if_neg (show ¬ (false = true) by decide)] at H; exact H
         clear H
         have H := H1
         clear H1
         obtain rfl := Option.some.inj H
         obtain ⟨Ao33, co33, eo33⟩ := Kd.R_slice HO_9.out
         subst eo33
         go_wp2_with (first | ((with_reducible refine gate_callee (f := 11) rfl ?_); refine goesL_ (some 49) rfl rfl Tryd.func11 (by kernel_rfl) rfl #[.slice Ao10 t217.length co10, .agg #[.slice Ao33 x9_1.length co33, .int .i64 128], .int .u64 a2] rfl (by (try simp only [List.map_toArray, List.map_cons, List.map_nil]); first | done | rfl | (simp only [List.length_drop, List.length_take]; rfl)) ?_; (with_reducible refine (emit_Of.calls k1 _ _ t217 _ _ x9_1 128 a2 t228 true _ ?side1 ?side2 ?side3 ?side4 A19.out).mono ?_); (case side1 => repeat (first | exact (Kd.R_reads' HO_7.out).2.2 | (with_reducible refine Kd.C_alloc ?_ _) | (with_reducible refine Kd.C_drewN ?_ _) | (with_reducible refine Kd.C_drew ?_))); (case side2 => exact (Kd.R_reads' HO_7.out).2.1); (case side3 => repeat (first | exact (Kd.R_reads' HO_9.out).2.2 | (with_reducible refine Kd.C_alloc ?_ _) | (with_reducible refine Kd.C_drewN ?_ _) | (with_reducible refine Kd.C_drew ?_))); (case side4 => exact (Kd.R_reads' HO_9.out).2.1); rintro e w34 ⟨v229, rfl, ho0, hb⟩; refine ⟨_, rfl, ?_⟩; have n0_ := Aside0.mk (Kd.R_elder' (by (with_reducible repeat (first | apply Kd.R_alloc | apply Kd.R_drewN | apply Kd.R_drew)); exact HO_7.out) (Kd.R_base ho0) hb); have n1_ := Aside0.mk (Kd.R_below (by (with_reducible repeat (first | apply Kd.R_alloc | apply Kd.R_drewN | apply Kd.R_drew)); exact HO_9.out) hb); have n2_ := Aside0.mk (Kd.R_lower (Kd.R_new' ho0 (Kd.R_lt (by (with_reducible repeat (first | apply Kd.R_alloc | apply Kd.R_drewN | apply Kd.R_drew)); exact HO_7.out))) (below_size (by repeat (first | (with_reducible first | exact HB.out | apply below_alloc | apply pw_below_drewN | apply below_drew1) | exact HB.out)))); have n3_ := Aside0.mk (below_step (by repeat (first | (with_reducible first | exact HB.out | apply below_alloc | apply pw_below_drewN | apply below_drew1) | exact HB.out)) hb); clear HO_7; clear HO_9; clear HB; have HO_7 := n0_; have HO_9 := n1_; have HO230 := n2_; have HB := n3_; clear n0_ n1_ n2_ n3_; (try clear hb); (try clear hb2); (try clear hk); (try clear hi); (try clear ho0)) | ((with_reducible refine gate_builtin (b := .append) (xs := #[.const (.slice none 0 0), .tmp 54]) rfl ?_); (try (refine gate_guard (by rfl) ?_; dsimp only)); at_builtin; refine Kd.R_append_rows (Kd.int .i64) (w0 := w) w.heap.size rfl (.const (.slice none 0 0)) (.tmp 54) 28 3 (.int .i64 0) 8 rfl Tryd.underlying28 info3 rfl (by decide) (by omega) (.slice none 0 0) ([] : List Int) x9_1 _ _ _ (fun k_ => some k_ ≠ (.slice Ao33 x9_1.length co33 : Value).ownBlock) (fun _ => False) rfl rfl ?aO ?aR (fun _ _ h => h) (fun _ h => h.elim) ?aF ?aB ?aS ?aL ?_; (case aR => repeat (first | exact (Kd.R_reads' HO_9.out).2.2 | (with_reducible refine Kd.C_alloc ?_ _) | (with_reducible refine Kd.C_drewN ?_ _) | (with_reducible refine Kd.C_drew ?_))); (case aB => exact (by repeat (first | (with_reducible first | exact HB.out | apply below_alloc | apply pw_below_drewN | apply below_drew1) | exact HB.out))); (case aF => exact (fun k_ hk => Kd.fresh' (Kd.R_lt (by (with_reducible repeat (first | apply Kd.R_alloc | apply Kd.R_drewN | apply Kd.R_drew)); exact HO_9.out)) k_ hk)); (case aO => exact ((Kd.R_nil _ _ _ _ (fun k_ => some k_ ≠ (.slice Ao33 x9_1.length co33 : Value).ownBlock)))); (case aS => exact (below_size (by repeat (first | (with_reducible first | exact HB.out | apply below_alloc | apply pw_below_drewN | apply below_drew1) | exact HB.out)))); (case aL => have := LMc20.out; omega); intro v233 w35 ho hb hg hat; rw [← Ny232.out] at ho; have n0_ := Aside0.mk (Kd.R_grown (by (with_reducible repeat (first | apply Kd.R_alloc | apply Kd.R_drewN | apply Kd.R_drew)); exact HO_7.out) hg (fun _ _ => by simp [Value.ownBlock])); have n1_ := Aside0.mk (Kd.R_after (Kd.R_apart_nil (by (with_reducible repeat (first | apply Kd.R_alloc | apply Kd.R_drewN | apply Kd.R_drew)); exact HO_9.out)) hg hat); have n2_ := Aside0.mk (Kd.R_grown (by (with_reducible repeat (first | apply Kd.R_alloc | apply Kd.R_drewN | apply Kd.R_drew)); exact HO230.out) hg (fun _ _ => by simp [Value.ownBlock])); have n3_ := Aside0.mk (hb); have n4_ := Aside0.mk (ho); clear HO_7; clear HO_9; clear HO230; clear HB; have HO_7 := n0_; have HO_9 := n1_; have HO230 := n2_; have HB := n3_; have HO234 := n4_; clear n0_ n1_ n2_ n3_ n4_; clear ho hb hg hat) | ((with_reducible refine gate_builtin (b := .append) (xs := #[.tmp 55, .tmp 56]) rfl ?_); (try (refine gate_guard (by rfl) ?_; dsimp only)); at_builtin; refine Kd.R_append (Kd.int .i64) (w0 := w) w.heap.size rfl (.tmp 55) (.tmp 56) 28 3 (.int .i64 0) 8 rfl Tryd.underlying28 info3 rfl (by decide) (by omega) v233 y232 0 [.int .i64 0] (fun k_ => some k_ ≠ (.slice Ao33 x9_1.length co33 : Value).ownBlock) (fun _ => False) rfl rfl ?aP (fun _ hk => hk.elim) ?aF ?aO ?aB ?aS ?aL ?_; (case aP => exact rfl); (case aB => exact (by repeat (first | (with_reducible first | exact HB.out | apply below_alloc | apply pw_below_drewN | apply below_drew1) | exact HB.out))); (case aF => exact (fun k_ hk => Kd.fresh' (Kd.R_lt (by (with_reducible repeat (first | apply Kd.R_alloc | apply Kd.R_drewN | apply Kd.R_drew)); exact HO_9.out)) k_ hk)); (case aO => exact (by (with_reducible repeat (first | apply Kd.R_alloc | apply Kd.R_drewN | apply Kd.R_drew)); exact HO234.out)); (case aS => exact (below_size (by repeat (first | (with_reducible first | exact HB.out | apply below_alloc | apply pw_below_drewN | apply below_drew1) | exact HB.out)))); (case aL => have := LMc21.out; omega); intro v236 w36 ho hb hg hat; rw [← Ny235.out] at ho; have n0_ := Aside0.mk (Kd.R_over' (by (with_reducible repeat (first | apply Kd.R_alloc | apply Kd.R_drewN | apply Kd.R_drew)); exact HO_7.out) (Kd.R_typed (by (with_reducible repeat (first | apply Kd.R_alloc | apply Kd.R_drewN | apply Kd.R_drew)); exact HO234.out)) (by decide) hg); have n1_ := Aside0.mk (Kd.R_after (ok := (fun _ => True)) (by (with_reducible repeat (first | apply Kd.R_alloc | apply Kd.R_drewN | apply Kd.R_drew)); exact HO_9.out) hg hat); have n2_ := Aside0.mk (Kd.R_over' (by (with_reducible repeat (first | apply Kd.R_alloc | apply Kd.R_drewN | apply Kd.R_drew)); exact HO230.out) (Kd.R_typed (by (with_reducible repeat (first | apply Kd.R_alloc | apply Kd.R_drewN | apply Kd.R_drew)); exact HO234.out)) (by decide) hg); have n3_ := Aside0.mk (hb); have n4_ := Aside0.mk (ho); clear HO_7; clear HO_9; clear HO230; clear HB; clear HO234; have HO_7 := n0_; have HO_9 := n1_; have HO230 := n2_; have HB := n3_; have HO237 := n4_; clear n0_ n1_ n2_ n3_ n4_; clear ho hb hg hat; obtain ⟨Ao37, co37, eo37⟩ := Kd.R_slice HO237.out; subst eo37) | ((with_reducible refine gate_callee (f := 11) rfl ?_); refine goesL_ (some 60) rfl rfl Tryd.func11 (by kernel_rfl) rfl #[.slice Ao10 t217.length co10, .agg #[.slice Ao37 y235.length co37, .int .i64 0], .int .u64 a2] rfl (by (try simp only [List.map_toArray, List.map_cons, List.map_nil]); first | done | rfl | (simp only [List.length_drop, List.length_take]; rfl)) ?_; (with_reducible refine (emit_Of.calls k1 _ _ t217 _ _ y235 0 a2 t238 false _ ?side1 ?side2 ?side3 ?side4 A22.out).mono ?_); (case side1 => repeat (first | exact (Kd.R_reads' HO_7.out).2.2 | (with_reducible refine Kd.C_alloc ?_ _) | (with_reducible refine Kd.C_drewN ?_ _) | (with_reducible refine Kd.C_drew ?_))); (case side2 => exact (Kd.R_reads' HO_7.out).2.1); (case side3 => repeat (first | exact (Kd.R_reads' HO237.out).2.2 | (with_reducible refine Kd.C_alloc ?_ _) | (with_reducible refine Kd.C_drewN ?_ _) | (with_reducible refine Kd.C_drew ?_))); (case side4 => exact (Kd.R_reads' HO237.out).2.1); rintro e w38 ⟨v239, rfl, ho0, hb⟩; refine ⟨_, rfl, ?_⟩; have n0_ := Aside0.mk (Kd.R_elder' (by (with_reducible repeat (first | apply Kd.R_alloc | apply Kd.R_drewN | apply Kd.R_drew)); exact HO_7.out) (Kd.R_base ho0) hb); have n1_ := Aside0.mk (Kd.R_below (by (with_reducible repeat (first | apply Kd.R_alloc | apply Kd.R_drewN | apply Kd.R_drew)); exact HO_9.out) hb); have n2_ := Aside0.mk (Kd.R_elder' (by (with_reducible repeat (first | apply Kd.R_alloc | apply Kd.R_drewN | apply Kd.R_drew)); exact HO230.out) (Kd.R_base ho0) hb); have n3_ := Aside0.mk (Kd.R_below (by (with_reducible repeat (first | apply Kd.R_alloc | apply Kd.R_drewN | apply Kd.R_drew)); exact HO237.out) hb); have n4_ := Aside0.mk (Kd.R_lower (Kd.R_new' (Kd.R_new' ho0 (Kd.R_lt (by (with_reducible repeat (first | apply Kd.R_alloc | apply Kd.R_drewN | apply Kd.R_drew)); exact HO_7.out))) (Kd.R_lt (by (with_reducible repeat (first | apply Kd.R_alloc | apply Kd.R_drewN | apply Kd.R_drew)); exact HO230.out))) (below_size (by repeat (first | (with_reducible first | exact HB.out | apply below_alloc | apply pw_below_drewN | apply below_drew1) | exact HB.out)))); have n5_ := Aside0.mk (below_step (by repeat (first | (with_reducible first | exact HB.out | apply below_alloc | apply pw_below_drewN | apply below_drew1) | exact HB.out)) hb); clear HO_7; clear HO_9; clear HO230; clear HO237; clear HB; have HO_7 := n0_; have HO_9 := n1_; have HO230 := n2_; have HO237 := n3_; have HO240 := n4_; have HB := n5_; clear n0_ n1_ n2_ n3_ n4_ n5_; (try clear hb); (try clear hb2); (try clear hk); (try clear hi); (try clear ho0)) | ((with_reducible refine gate_builtin (b := .append) (xs := #[.const (.slice none 0 0), .tmp 64]) rfl ?_); (try (refine gate_guard (by rfl) ?_; dsimp only)); at_builtin; refine Kd.R_append_rows k37 (w0 := w) w.heap.size rfl (.const (.slice none 0 0)) (.tmp 64) 22 37 (.agg #[(.int .i64 0), (.int .i64 0), (.int .i64 0), (.int .i64 0), (.int .i64 0), (.int .i64 0), (.int .u64 0), (.int .i64 0)]) 64 rfl Tryd.underlying22 info37 rfl (by decide) (by omega) (.slice none 0 0) ([] : List (S37)) t217 _ _ _ (fun k_ => some k_ ≠ (.slice Ao10 t217.length co10 : Value).ownBlock ∧ some k_ ≠ (v229 : Value).ownBlock ∧ some k_ ≠ (v239 : Value).ownBlock) (fun _ => False) rfl rfl ?aO ?aR (fun _ _ h => h) (fun _ h => h.elim) ?aF ?aB ?aS ?aL ?_; (case aR => repeat (first | exact (Kd.R_reads' HO_7.out).2.2 | (with_reducible refine Kd.C_alloc ?_ _) | (with_reducible refine Kd.C_drewN ?_ _) | (with_reducible refine Kd.C_drew ?_))); (case aB => exact (by repeat (first | (with_reducible first | exact HB.out | apply below_alloc | apply pw_below_drewN | apply below_drew1) | exact HB.out))); (case aF => exact (fun k_ hk => ⟨Kd.fresh' (Kd.R_lt (by (with_reducible repeat (first | apply Kd.R_alloc | apply Kd.R_drewN | apply Kd.R_drew)); exact HO_7.out)) k_ hk, Kd.fresh' (Kd.R_lt (by (with_reducible repeat (first | apply Kd.R_alloc | apply Kd.R_drewN | apply Kd.R_drew)); exact HO230.out)) k_ hk, Kd.fresh' (Kd.R_lt (by (with_reducible repeat (first | apply Kd.R_alloc | apply Kd.R_drewN | apply Kd.R_drew)); exact HO240.out)) k_ hk⟩)); (case aO => exact ((Kd.R_nil _ _ _ _ (fun k_ => some k_ ≠ (.slice Ao10 t217.length co10 : Value).ownBlock ∧ some k_ ≠ (v229 : Value).ownBlock ∧ some k_ ≠ (v239 : Value).ownBlock)))); (case aS => exact (below_size (by repeat (first | (with_reducible first | exact HB.out | apply below_alloc | apply pw_below_drewN | apply below_drew1) | exact HB.out)))); (case aL => have := LMc23.out; omega); intro v243 w39 ho hb hg hat; rw [← Ny242.out] at ho; have n0_ := Aside0.mk (Kd.R_after (Kd.R_apart_nil (by (with_reducible repeat (first | apply Kd.R_alloc | apply Kd.R_drewN | apply Kd.R_drew)); exact HO_7.out)) hg hat); have n1_ := Aside0.mk (Kd.R_grown (by (with_reducible repeat (first | apply Kd.R_alloc | apply Kd.R_drewN | apply Kd.R_drew)); exact HO_9.out) hg (fun _ _ => by simp [Value.ownBlock])); have n2_ := Aside0.mk (Kd.R_after (Kd.R_apart_nil (by (with_reducible repeat (first | apply Kd.R_alloc | apply Kd.R_drewN | apply Kd.R_drew)); exact HO230.out)) hg hat); have n3_ := Aside0.mk (Kd.R_grown (by (with_reducible repeat (first | apply Kd.R_alloc | apply Kd.R_drewN | apply Kd.R_drew)); exact HO237.out) hg (fun _ _ => by simp [Value.ownBlock])); have n4_ := Aside0.mk (Kd.R_after (Kd.R_apart_nil (by (with_reducible repeat (first | apply Kd.R_alloc | apply Kd.R_drewN | apply Kd.R_drew)); exact HO240.out)) hg hat); have n5_ := Aside0.mk (hb); have n6_ := Aside0.mk (ho); clear HO_7; clear HO_9; clear HO230; clear HO237; clear HO240; clear HB; have HO_7 := n0_; have HO_9 := n1_; have HO230 := n2_; have HO237 := n3_; have HO240 := n4_; have HB := n5_; have HO244 := n6_; clear n0_ n1_ n2_ n3_ n4_ n5_ n6_; clear ho hb hg hat) | ((with_reducible refine gate_builtin (b := .append) (xs := #[.tmp 65, .tmp 67]) rfl ?_); (try (refine gate_guard (by rfl) ?_; dsimp only)); at_builtin; refine Kd.R_append k37 (w0 := w) w.heap.size rfl (.tmp 65) (.tmp 67) 22 37 (.agg #[(.int .i64 0), (.int .i64 0), (.int .i64 0), (.int .i64 0), (.int .i64 0), (.int .i64 0), (.int .u64 0), (.int .i64 0)]) 64 rfl Tryd.underlying22 info37 rfl (by decide) (by omega) v243 y242 (⟨12, 0, 0, (-1), 0, 0, 0, 0⟩ : S37) [.int .i64 12, .int .i64 0, .int .i64 0, .int .i64 (-1), .int .i64 0, .int .i64 0, .int .u64 0, .int .i64 0] (fun k_ => some k_ ≠ (.slice Ao10 t217.length co10 : Value).ownBlock ∧ some k_ ≠ (v229 : Value).ownBlock ∧ some k_ ≠ (v239 : Value).ownBlock) (fun _ => False) rfl rfl ?aP (fun _ hk => hk.elim) ?aF ?aO ?aB ?aS ?aL ?_; (case aP => exact k37_mkM _ _ _ (⟨12, 0, 0, (-1), 0, 0, 0, 0⟩ : S37)); (case aB => exact (by repeat (first | (with_reducible first | exact HB.out | apply below_alloc | apply pw_below_drewN | apply below_drew1) | exact HB.out))); (case aF => exact (fun k_ hk => ⟨Kd.fresh' (Kd.R_lt (by (with_reducible repeat (first | apply Kd.R_alloc | apply Kd.R_drewN | apply Kd.R_drew)); exact HO_7.out)) k_ hk, Kd.fresh' (Kd.R_lt (by (with_reducible repeat (first | apply Kd.R_alloc | apply Kd.R_drewN | apply Kd.R_drew)); exact HO230.out)) k_ hk, Kd.fresh' (Kd.R_lt (by (with_reducible repeat (first | apply Kd.R_alloc | apply Kd.R_drewN | apply Kd.R_drew)); exact HO240.out)) k_ hk⟩)); (case aO => exact (by (with_reducible repeat (first | apply Kd.R_alloc | apply Kd.R_drewN | apply Kd.R_drew)); exact HO244.out)); (case aS => exact (below_size (by repeat (first | (with_reducible first | exact HB.out | apply below_alloc | apply pw_below_drewN | apply below_drew1) | exact HB.out)))); (case aL => have := LMc24.out; omega); intro v246 w40 ho hb hg hat; rw [← Ny245.out] at ho; have n0_ := Aside0.mk (Kd.R_after (ok := (fun k_ => some k_ ≠ (v229 : Value).ownBlock ∧ some k_ ≠ (v239 : Value).ownBlock)) (by (with_reducible repeat (first | apply Kd.R_alloc | apply Kd.R_drewN | apply Kd.R_drew)); exact Kd.R_mono HO_7.out (fun _ hk => ⟨⟨hk.1.1.2, hk.1.2⟩, hk.2⟩)) hg hat); have n1_ := Aside0.mk (Kd.R_over' (by (with_reducible repeat (first | apply Kd.R_alloc | apply Kd.R_drewN | apply Kd.R_drew)); exact HO_9.out) (Kd.R_typed (by (with_reducible repeat (first | apply Kd.R_alloc | apply Kd.R_drewN | apply Kd.R_drew)); exact HO244.out)) (by decide) hg); have n2_ := Aside0.mk (Kd.R_after (ok := (fun k_ => some k_ ≠ (.slice Ao10 t217.length co10 : Value).ownBlock ∧ some k_ ≠ (v239 : Value).ownBlock)) (by (with_reducible repeat (first | apply Kd.R_alloc | apply Kd.R_drewN | apply Kd.R_drew)); exact Kd.R_mono HO230.out (fun _ hk => ⟨⟨hk.1.1.2, hk.1.2⟩, hk.2⟩)) hg hat); have n3_ := Aside0.mk (Kd.R_over' (by (with_reducible repeat (first | apply Kd.R_alloc | apply Kd.R_drewN | apply Kd.R_drew)); exact HO237.out) (Kd.R_typed (by (with_reducible repeat (first | apply Kd.R_alloc | apply Kd.R_drewN | apply Kd.R_drew)); exact HO244.out)) (by decide) hg); have n4_ := Aside0.mk (Kd.R_after (ok := (fun k_ => some k_ ≠ (.slice Ao10 t217.length co10 : Value).ownBlock ∧ some k_ ≠ (v229 : Value).ownBlock)) (by (with_reducible repeat (first | apply Kd.R_alloc | apply Kd.R_drewN | apply Kd.R_drew)); exact Kd.R_mono HO240.out (fun _ hk => ⟨⟨hk.1.1.2, hk.1.2⟩, hk.2⟩)) hg hat); have n5_ := Aside0.mk (hb); have n6_ := Aside0.mk (ho); clear HO_7; clear HO_9; clear HO230; clear HO237; clear HO240; clear HB; clear HO244; have HO_7 := n0_; have HO_9 := n1_; have HO230 := n2_; have HO237 := n3_; have HO240 := n4_; have HB := n5_; have HO247 := n6_; clear n0_ n1_ n2_ n3_ n4_ n5_ n6_; clear ho hb hg hat; obtain ⟨Ao41, co41, eo41⟩ := Kd.R_slice HO247.out; subst eo41) | ((with_reducible refine gate_callee (f := 11) rfl ?_); refine goesL_ (some 72) rfl rfl Tryd.func11 (by kernel_rfl) rfl #[.slice Ao41 y245.length co41, .agg #[.slice Ao33 x9_1.length co33, .int .i64 0], .int .u64 a2] rfl (by (try simp only [List.map_toArray, List.map_cons, List.map_nil]); first | done | rfl | (simp only [List.length_drop, List.length_take]; rfl)) ?_; (with_reducible refine (emit_Of.calls k1 _ _ y245 _ _ x9_1 0 a2 t248 false _ ?side1 ?side2 ?side3 ?side4 A25.out).mono ?_); (case side1 => repeat (first | exact (Kd.R_reads' HO247.out).2.2 | (with_reducible refine Kd.C_alloc ?_ _) | (with_reducible refine Kd.C_drewN ?_ _) | (with_reducible refine Kd.C_drew ?_))); (case side2 => exact (Kd.R_reads' HO247.out).2.1); (case side3 => repeat (first | exact (Kd.R_reads' HO_9.out).2.2 | (with_reducible refine Kd.C_alloc ?_ _) | (with_reducible refine Kd.C_drewN ?_ _) | (with_reducible refine Kd.C_drew ?_))); (case side4 => exact (Kd.R_reads' HO_9.out).2.1); rintro e w42 ⟨v249, rfl, ho0, hb⟩; refine ⟨_, rfl, ?_⟩; have n0_ := Aside0.mk (Kd.R_elder' (by (with_reducible repeat (first | apply Kd.R_alloc | apply Kd.R_drewN | apply Kd.R_drew)); exact HO_7.out) (Kd.R_base ho0) hb); have n1_ := Aside0.mk (Kd.R_below (by (with_reducible repeat (first | apply Kd.R_alloc | apply Kd.R_drewN | apply Kd.R_drew)); exact HO_9.out) hb); have n2_ := Aside0.mk (Kd.R_elder' (by (with_reducible repeat (first | apply Kd.R_alloc | apply Kd.R_drewN | apply Kd.R_drew)); exact HO230.out) (Kd.R_base ho0) hb); have n3_ := Aside0.mk (Kd.R_below (by (with_reducible repeat (first | apply Kd.R_alloc | apply Kd.R_drewN | apply Kd.R_drew)); exact HO237.out) hb); have n4_ := Aside0.mk (Kd.R_elder' (by (with_reducible repeat (first | apply Kd.R_alloc | apply Kd.R_drewN | apply Kd.R_drew)); exact HO240.out) (Kd.R_base ho0) hb); have n5_ := Aside0.mk (Kd.R_elder' (by (with_reducible repeat (first | apply Kd.R_alloc | apply Kd.R_drewN | apply Kd.R_drew)); exact HO247.out) (Kd.R_base ho0) hb); have n6_ := Aside0.mk (Kd.R_lower (Kd.R_new' (Kd.R_new' (Kd.R_new' (Kd.R_new' ho0 (Kd.R_lt (by (with_reducible repeat (first | apply Kd.R_alloc | apply Kd.R_drewN | apply Kd.R_drew)); exact HO_7.out))) (Kd.R_lt (by (with_reducible repeat (first | apply Kd.R_alloc | apply Kd.R_drewN | apply Kd.R_drew)); exact HO230.out))) (Kd.R_lt (by (with_reducible repeat (first | apply Kd.R_alloc | apply Kd.R_drewN | apply Kd.R_drew)); exact HO240.out))) (Kd.R_lt (by (with_reducible repeat (first | apply Kd.R_alloc | apply Kd.R_drewN | apply Kd.R_drew)); exact HO247.out))) (below_size (by repeat (first | (with_reducible first | exact HB.out | apply below_alloc | apply pw_below_drewN | apply below_drew1) | exact HB.out)))); have n7_ := Aside0.mk (below_step (by repeat (first | (with_reducible first | exact HB.out | apply below_alloc | apply pw_below_drewN | apply below_drew1) | exact HB.out)) hb); clear HO_7; clear HO_9; clear HO230; clear HO237; clear HO240; clear HO247; clear HB; have HO_7 := n0_; have HO_9 := n1_; have HO230 := n2_; have HO237 := n3_; have HO240 := n4_; have HO247 := n5_; have HO250 := n6_; have HB := n7_; clear n0_ n1_ n2_ n3_ n4_ n5_ n6_ n7_; (try clear hb); (try clear hb2); (try clear hk); (try clear hi); (try clear ho0)) | (go_at_call 13; (with_reducible refine (tautochronelaw19_want.calls k1 _ _ t217 _ _ x9_1 a2 t252 _ ?side1 ?side2 ?side3 ?side4 A27.out).mono ?_); (case side1 => repeat (first | exact (Kd.R_reads' HO_7.out).2.2 | (with_reducible refine Kd.C_alloc ?_ _) | (with_reducible refine Kd.C_drewN ?_ _) | (with_reducible refine Kd.C_drew ?_))); (case side2 => exact (Kd.R_reads' HO_7.out).2.1); (case side3 => repeat (first | exact (Kd.R_reads' HO_9.out).2.2 | (with_reducible refine Kd.C_alloc ?_ _) | (with_reducible refine Kd.C_drewN ?_ _) | (with_reducible refine Kd.C_drew ?_))); (case side4 => exact (Kd.R_reads' HO_9.out).2.1); rintro e w43 ⟨v253, rfl, ho0, hb⟩; have n0_ := Aside0.mk (Kd.R_elder' (by (with_reducible repeat (first | apply Kd.R_alloc | apply Kd.R_drewN | apply Kd.R_drew)); exact HO_7.out) (Kd.R_base ho0) hb); have n1_ := Aside0.mk (Kd.R_below (by (with_reducible repeat (first | apply Kd.R_alloc | apply Kd.R_drewN | apply Kd.R_drew)); exact HO_9.out) hb); have n2_ := Aside0.mk (Kd.R_elder' (by (with_reducible repeat (first | apply Kd.R_alloc | apply Kd.R_drewN | apply Kd.R_drew)); exact HO230.out) (Kd.R_base ho0) hb); have n3_ := Aside0.mk (Kd.R_below (by (with_reducible repeat (first | apply Kd.R_alloc | apply Kd.R_drewN | apply Kd.R_drew)); exact HO237.out) hb); have n4_ := Aside0.mk (Kd.R_elder' (by (with_reducible repeat (first | apply Kd.R_alloc | apply Kd.R_drewN | apply Kd.R_drew)); exact HO240.out) (Kd.R_base ho0) hb); have n5_ := Aside0.mk (Kd.R_elder' (by (with_reducible repeat (first | apply Kd.R_alloc | apply Kd.R_drewN | apply Kd.R_drew)); exact HO247.out) (Kd.R_base ho0) hb); have n6_ := Aside0.mk (Kd.R_elder' (by (with_reducible repeat (first | apply Kd.R_alloc | apply Kd.R_drewN | apply Kd.R_drew)); exact HO250.out) (Kd.R_base ho0) hb); have n7_ := Aside0.mk (Kd.R_lower (Kd.R_new' (Kd.R_new' (Kd.R_new' (Kd.R_new' (Kd.R_new' ho0 (Kd.R_lt (by (with_reducible repeat (first | apply Kd.R_alloc | apply Kd.R_drewN | apply Kd.R_drew)); exact HO_7.out))) (Kd.R_lt (by (with_reducible repeat (first | apply Kd.R_alloc | apply Kd.R_drewN | apply Kd.R_drew)); exact HO230.out))) (Kd.R_lt (by (with_reducible repeat (first | apply Kd.R_alloc | apply Kd.R_drewN | apply Kd.R_drew)); exact HO240.out))) (Kd.R_lt (by (with_reducible repeat (first | apply Kd.R_alloc | apply Kd.R_drewN | apply Kd.R_drew)); exact HO247.out))) (Kd.R_lt (by (with_reducible repeat (first | apply Kd.R_alloc | apply Kd.R_drewN | apply Kd.R_drew)); exact HO250.out))) (below_size (by repeat (first | (with_reducible first | exact HB.out | apply below_alloc | apply pw_below_drewN | apply below_drew1) | exact HB.out)))); have n8_ := Aside0.mk (below_step (by repeat (first | (with_reducible first | exact HB.out | apply below_alloc | apply pw_below_drewN | apply below_drew1) | exact HB.out)) hb); clear HO_7; clear HO_9; clear HO230; clear HO237; clear HO240; clear HO247; clear HO250; clear HB; have HO_7 := n0_; have HO_9 := n1_; have HO230 := n2_; have HO237 := n3_; have HO240 := n4_; have HO247 := n5_; have HO250 := n6_; have HO254 := n7_; have HB := n8_; clear n0_ n1_ n2_ n3_ n4_ n5_ n6_ n7_ n8_; (try clear hb); (try clear hb2); (try clear hk); (try clear hi); (try clear ho0); obtain ⟨Ao44, co44, eo44⟩ := Kd.R_slice HO230.out; subst eo44; obtain ⟨Ao45, co45, eo45⟩ := Kd.R_slice HO254.out; subst eo45) | (go_at_call 12; (with_reducible refine (tautochronelaw15_Equal.calls k1 _ _ t228 _ _ t252 true _ ?side1 ?side2 ?side3 ?side4 A28.out).mono ?_); (case side1 => repeat (first | exact (Kd.R_reads' HO230.out).2.2 | (with_reducible refine Kd.C_alloc ?_ _) | (with_reducible refine Kd.C_drewN ?_ _) | (with_reducible refine Kd.C_drew ?_))); (case side2 => exact (Kd.R_reads' HO230.out).2.1); (case side3 => repeat (first | exact (Kd.R_reads' HO254.out).2.2 | (with_reducible refine Kd.C_alloc ?_ _) | (with_reducible refine Kd.C_drewN ?_ _) | (with_reducible refine Kd.C_drew ?_))); (case side4 => exact (Kd.R_reads' HO254.out).2.1); rintro e w' ⟨rfl, ⟨nd, rfl⟩⟩; obtain ⟨Ao46, co46, eo46⟩ := Kd.R_slice HO240.out; subst eo46; obtain ⟨Ao47, co47, eo47⟩ := Kd.R_slice HO250.out; subst eo47))
         go_ret
         exact ⟨by first | rfl | (simp [errW_none, errW_some] <;> rfl) | (simp [*, errW_none, errW_some] <;> rfl), by repeat (first | (with_reducible first | exact HB.out | apply below_alloc | apply pw_below_drewN | apply below_drew1) | exact HB.out)⟩
      ·replace c29 := Bool.eq_false_iff.mpr c29
       subst c29
       have H1 : (none) = some r := by rw [if_neg (show ¬ (false = true) by decide)] at H; exact H
       clear H
       have H := H1
       clear H1
       exact absurd H (by simp)
     ·replace c26 := Bool.eq_false_iff.mpr c26
      subst c26
      have H1 : (none) = some r := by rw [if_neg (show ¬ (false = true) by decide)] at H; exact H
      clear H
      have H := H1
      clear H1
      exact absurd H (by simp)
 ·replace c5 := Bool.eq_false_iff.mpr c5
  subst c5
  have H1 : (none) = some r := by rw [if_neg (show ¬ (false = true) by decide)] at H; exact H
  clear H
  have H := H1
  clear H1
  exact absurd H (by simp)

end
end Go.Proofs.YtepgpapljoelhaaDoor.PE
