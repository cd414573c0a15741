-- Written by a program of this session (wip/tools/extprint.py, pr.sh).
import Derived.Test.YtcgnbknbnbgcmaaDoorPQx0
import Derived.Test.YtcgnbknbnbgcmaaDoorPQx3
import Derived.Test.YtcgnbknbnbgcmaaDoorPQx4
import Derived.Test.YtcgnbknbnbgcmaaDoorPQx5
import Derived.Test.YtcgnbknbnbgcmaaDoorPQx6
namespace Go.Proofs.YtcgnbknbnbgcmaaDoor.PQ
open Go.RowKit Go.Proofs.YtcgnbknbnbgcmaaDoorW.PrintWords Go.Proofs.YtcgnbknbnbgcmaaDoorW.PrintLast Go.Proofs.YtcgnbknbnbgcmaaDoorW.PrintMore
attribute [local go_sem] max2_int min2_int max_two min_two max_three min_three max_four min_four   -- for this text's walks alone
set_option linter.unusedVariables false
set_option linter.unusedSimpArgs false

/-! ### tautochronelaw12_CodeEnds: function 7 -/
mutual
def tautochronelaw12_CodeEnds.j0 : Nat → List (S26) → Bool → Option (Bool)
  | 0, _, _ => none
  | k + 1, x0, x20 => if x20 = true then (some false) else ((code_Good.f k x0).bind fun t300 => (if t300 = true then (tautochronelaw12_CodeEnds.l0 k x0 1) else (some true)))
def tautochronelaw12_CodeEnds.l0 : Nat → List (S26) → Int → Option (Bool)
  | 0, _, _ => none
  | k + 1, x0, x3 => if x3 < (x0.length : Int) then (if 0 ≤ (wrap64 (x3 - 1)) then (if (wrap64 (x3 - 1)) < (x0.length : Int) then (if ((rd_T26 x0 (wrap64 (x3 - 1))).f0) = 13 then (tautochronelaw12_CodeEnds.j2 k x0 x3 true) else (tautochronelaw12_CodeEnds.j2 k x0 x3 (((rd_T26 x0 (wrap64 (x3 - 1))).f0) == 6))) else (none)) else (none)) else (some true)
def tautochronelaw12_CodeEnds.j2 : Nat → List (S26) → Int → Bool → Option (Bool)
  | 0, _, _, _ => none
  | k + 1, x0, x3, x4 => if 0 ≤ x3 then (if x3 ≤ (x0.length : Int) then ((some (x0.take (x3 : Int).toNat : List (S26))).bind fun y303 => (tautochronelaw12_CodeEnds.l1 k x0 x3 x4 y303 (y303.length : Int) 0)) else (none)) else (none)
def tautochronelaw12_CodeEnds.l1 : Nat → List (S26) → Int → Bool → List (S26) → Int → Int → Option (Bool)
  | 0, _, _, _, _, _, _ => none
  | k + 1, x0, x3, x4, x48, x49, x50 => if x50 < x49 then (if 0 ≤ x50 then (if x50 < (x48.length : Int) then ((code_Jumps.f ((rd_T26 x48 x50).f0) ((rd_T26 x48 x50).f1) ((rd_T26 x48 x50).f2) ((rd_T26 x48 x50).f3) ((rd_T26 x48 x50).f4) ((rd_T26 x48 x50).f5) ((rd_T26 x48 x50).f6) ((rd_T26 x48 x50).f7)).bind fun bt309 => (if bt309.1 = true then (if ((rd_T26 x48 x50).f7) ≥ x3 then (tautochronelaw12_CodeEnds.l1 k x0 x3 false x48 x49 (wrap64 (x50 + 1))) else (tautochronelaw12_CodeEnds.l1 k x0 x3 x4 x48 x49 (wrap64 (x50 + 1)))) else (tautochronelaw12_CodeEnds.l1 k x0 x3 x4 x48 x49 (wrap64 (x50 + 1))))) else (none)) else (none)) else (if 0 ≤ x3 then (if x3 ≤ (x0.length : Int) then ((code_Good.f k (x0.take (x3 : Int).toNat)).bind fun t315 => (if (t315 != x4) = true then (some false) else (tautochronelaw12_CodeEnds.l0 k x0 (wrap64 (x3 + 1))))) else (none)) else (none))
end
def tautochronelaw12_CodeEnds.f (k : Nat) (l0 : List (S26)) : Option (Bool) := (tautochronelaw12_awake.f k).bind fun t295 => (if t295 = true then (if (l0.length : Int) > 60 then (some true) else ((code_Next.f k 13 0 0 0 0 0 0 1 0 9).bind fun t296 => (if (t296.length : Int) = 0 then ((code_Good.f k ([] : List (S26))).bind fun t299 => (tautochronelaw12_CodeEnds.j0 k l0 t299)) else (tautochronelaw12_CodeEnds.j0 k l0 true)))) else (some false))
theorem tautochronelaw12_CodeEnds.mono_l : ∀ k, (∀ y0 y1, LeO (tautochronelaw12_CodeEnds.j0 k y0 y1) (tautochronelaw12_CodeEnds.j0 (k + 1) y0 y1)) ∧ (∀ y0 y1, LeO (tautochronelaw12_CodeEnds.l0 k y0 y1) (tautochronelaw12_CodeEnds.l0 (k + 1) y0 y1)) ∧ (∀ y0 y1 y2, LeO (tautochronelaw12_CodeEnds.j2 k y0 y1 y2) (tautochronelaw12_CodeEnds.j2 (k + 1) y0 y1 y2)) ∧ (∀ y0 y1 y2 y3 y4 y5, LeO (tautochronelaw12_CodeEnds.l1 k y0 y1 y2 y3 y4 y5) (tautochronelaw12_CodeEnds.l1 (k + 1) y0 y1 y2 y3 y4 y5))
  | 0 => ⟨fun _ _ r h => by simp [tautochronelaw12_CodeEnds.j0] at h, fun _ _ r h => by simp [tautochronelaw12_CodeEnds.l0] at h, fun _ _ _ r h => by simp [tautochronelaw12_CodeEnds.j2] at h, fun _ _ _ _ _ _ r h => by simp [tautochronelaw12_CodeEnds.l1] at h⟩
  | k + 1 => by
    obtain ⟨ih0, ih1, ih2, ih3⟩ := tautochronelaw12_CodeEnds.mono_l k
    refine ⟨?_, ?_, ?_, ?_⟩
    · intro y0 y1
      unfold tautochronelaw12_CodeEnds.j0
      repeat' first
      | (with_reducible exact ih0 _ _)
      | (with_reducible exact ih1 _ _)
      | (with_reducible exact ih2 _ _ _)
      | (with_reducible exact ih3 _ _ _ _ _ _)
      | (with_reducible exact code_Good.mono _ _)
      | (with_reducible exact code_Next.mono _ _ _ _ _ _ _ _ _ _ _)
      | (with_reducible exact tautochronelaw12_awake.mono _)
      | (with_reducible exact LeO.refl _)
      | (with_reducible exact LeO.none _)
      | (with_reducible refine LeO.ite ?_ ?_)
      | (with_reducible refine LeO.bind ?_ (fun _ => ?_))
      | exact ih0 _ _
      | exact ih1 _ _
      | exact ih2 _ _ _
      | exact ih3 _ _ _ _ _ _
      | exact code_Good.mono _ _
      | exact code_Next.mono _ _ _ _ _ _ _ _ _ _ _
      | exact tautochronelaw12_awake.mono _
      | exact LeO.none _
      | refine LeO.ite ?_ ?_
      | refine LeO.bind ?_ (fun _ => ?_)
    · intro y0 y1
      unfold tautochronelaw12_CodeEnds.l0
      repeat' first
      | (with_reducible exact ih0 _ _)
      | (with_reducible exact ih1 _ _)
      | (with_reducible exact ih2 _ _ _)
      | (with_reducible exact ih3 _ _ _ _ _ _)
      | (with_reducible exact code_Good.mono _ _)
      | (with_reducible exact code_Next.mono _ _ _ _ _ _ _ _ _ _ _)
      | (with_reducible exact tautochronelaw12_awake.mono _)
      | (with_reducible exact LeO.refl _)
      | (with_reducible exact LeO.none _)
      | (with_reducible refine LeO.ite ?_ ?_)
      | (with_reducible refine LeO.bind ?_ (fun _ => ?_))
      | exact ih0 _ _
      | exact ih1 _ _
      | exact ih2 _ _ _
      | exact ih3 _ _ _ _ _ _
      | exact code_Good.mono _ _
      | exact code_Next.mono _ _ _ _ _ _ _ _ _ _ _
      | exact tautochronelaw12_awake.mono _
      | exact LeO.none _
      | refine LeO.ite ?_ ?_
      | refine LeO.bind ?_ (fun _ => ?_)
    · intro y0 y1 y2
      unfold tautochronelaw12_CodeEnds.j2
      repeat' first
      | (with_reducible exact ih0 _ _)
      | (with_reducible exact ih1 _ _)
      | (with_reducible exact ih2 _ _ _)
      | (with_reducible exact ih3 _ _ _ _ _ _)
      | (with_reducible exact code_Good.mono _ _)
      | (with_reducible exact code_Next.mono _ _ _ _ _ _ _ _ _ _ _)
      | (with_reducible exact tautochronelaw12_awake.mono _)
      | (with_reducible exact LeO.refl _)
      | (with_reducible exact LeO.none _)
      | (with_reducible refine LeO.ite ?_ ?_)
      | (with_reducible refine LeO.bind ?_ (fun _ => ?_))
      | exact ih0 _ _
      | exact ih1 _ _
      | exact ih2 _ _ _
      | exact ih3 _ _ _ _ _ _
      | exact code_Good.mono _ _
      | exact code_Next.mono _ _ _ _ _ _ _ _ _ _ _
      | exact tautochronelaw12_awake.mono _
      | exact LeO.none _
      | refine LeO.ite ?_ ?_
      | refine LeO.bind ?_ (fun _ => ?_)
    · intro y0 y1 y2 y3 y4 y5
      unfold tautochronelaw12_CodeEnds.l1
      repeat' first
      | (with_reducible exact ih0 _ _)
      | (with_reducible exact ih1 _ _)
      | (with_reducible exact ih2 _ _ _)
      | (with_reducible exact ih3 _ _ _ _ _ _)
      | (with_reducible exact code_Good.mono _ _)
      | (with_reducible exact code_Next.mono _ _ _ _ _ _ _ _ _ _ _)
      | (with_reducible exact tautochronelaw12_awake.mono _)
      | (with_reducible exact LeO.refl _)
      | (with_reducible exact LeO.none _)
      | (with_reducible refine LeO.ite ?_ ?_)
      | (with_reducible refine LeO.bind ?_ (fun _ => ?_))
      | exact ih0 _ _
      | exact ih1 _ _
      | exact ih2 _ _ _
      | exact ih3 _ _ _ _ _ _
      | exact code_Good.mono _ _
      | exact code_Next.mono _ _ _ _ _ _ _ _ _ _ _
      | exact tautochronelaw12_awake.mono _
      | exact LeO.none _
      | refine LeO.ite ?_ ?_
      | refine LeO.bind ?_ (fun _ => ?_)
theorem tautochronelaw12_CodeEnds.mono : ∀ a0 k, LeO (tautochronelaw12_CodeEnds.f k a0) (tautochronelaw12_CodeEnds.f (k + 1) a0) := by
  intro a0 k
  obtain ⟨ih0, ih1, ih2, ih3⟩ := tautochronelaw12_CodeEnds.mono_l k
  unfold tautochronelaw12_CodeEnds.f
  repeat' first
      | (with_reducible exact ih0 _ _)
      | (with_reducible exact ih1 _ _)
      | (with_reducible exact ih2 _ _ _)
      | (with_reducible exact ih3 _ _ _ _ _ _)
      | (with_reducible exact code_Good.mono _ _)
      | (with_reducible exact code_Next.mono _ _ _ _ _ _ _ _ _ _ _)
      | (with_reducible exact tautochronelaw12_awake.mono _)
      | (with_reducible exact LeO.refl _)
      | (with_reducible exact LeO.none _)
      | (with_reducible refine LeO.ite ?_ ?_)
      | (with_reducible refine LeO.bind ?_ (fun _ => ?_))
      | exact ih0 _ _
      | exact ih1 _ _
      | exact ih2 _ _ _
      | exact ih3 _ _ _ _ _ _
      | exact code_Good.mono _ _
      | exact code_Next.mono _ _ _ _ _ _ _ _ _ _ _
      | exact tautochronelaw12_awake.mono _
      | exact LeO.none _
      | refine LeO.ite ?_ ?_
      | refine LeO.bind ?_ (fun _ => ?_)
set_option maxHeartbeats 8000000 in
set_option maxRecDepth 100000 in
theorem tautochronelaw12_CodeEnds.calls (k : Nat) (A0 : Option Addr) (c0 : Nat) (l0 : List (S26)) (r : Bool) (w : World) (hr0 : Kd.C k26 w A0 l0.length l0) (hc0 : l0.length ≤ c0) (h : tautochronelaw12_CodeEnds.f k l0 = some r) :
    Calls Tryd.prog 7 #[.slice A0 l0.length c0] w fun e w' => e = .returned (.bool r) ∧ Below w.heap.size w w' := by
  have hu26 := Tryd.underlying26
  have HR0 := Aside0.mk hr0
  have HC0 := Aside0.mk hc0
  clear hr0 hc0
  have HB := Aside0.mk (Below.refl w.heap.size w)
  have H : ((tautochronelaw12_awake.f k).bind fun t295 => (if t295 = true then (if (l0.length : Int) > 60 then (some true) else ((code_Next.f k 13 0 0 0 0 0 0 1 0 9).bind fun t296 => (if (t296.length : Int) = 0 then ((code_Good.f k ([] : List (S26))).bind fun t299 => (tautochronelaw12_CodeEnds.j0 k l0 t299)) else (tautochronelaw12_CodeEnds.j0 k l0 true)))) else (some false))) = some r := h
  clear h
  replace H := Option.bind_eq_some_iff.mp H
  obtain ⟨t295, A20, H⟩ := H
  replace H : (if t295 = true then (if (l0.length : Int) > 60 then (some true) else ((code_Next.f k 13 0 0 0 0 0 0 1 0 9).bind fun t296 => (if (t296.length : Int) = 0 then ((code_Good.f k ([] : List (S26))).bind fun t299 => (tautochronelaw12_CodeEnds.j0 k l0 t299)) else (tautochronelaw12_CodeEnds.j0 k l0 true)))) else (some false)) = some r := H
  have A2 := Aside0.mk A20
  clear A20
  by_cases c3 : t295 = true
  · subst c3
    have H1 : (if (l0.length : Int) > 60 then (some true) else ((code_Next.f k 13 0 0 0 0 0 0 1 0 9).bind fun t296 => (if (t296.length : Int) = 0 then ((code_Good.f k ([] : List (S26))).bind fun t299 => (tautochronelaw12_CodeEnds.j0 k l0 t299)) else (tautochronelaw12_CodeEnds.j0 k l0 true)))) = some r := by rw [if_pos rfl] at H; exact H
    clear H
    have H := H1
    clear H1
    by_cases c4 : (l0.length : Int) > 60
    · rw [if_pos c4] at H
      have c4b0 : decide (60 < (l0.length : Int)) = true := decide_eq_true c4
      have c4b1 : decide (60 < l0.length) = true := decide_eq_true (by omega)
      clear c4
      obtain rfl := Option.some.inj H
      go_enter Tryd.func7, Tryd.ntmps7
      go_wp2_with (first | ((with_reducible refine gate_callee (f := 8) rfl ?_); refine goesL_ (some 9) rfl rfl Tryd.func8 (by kernel_rfl) rfl #[] rfl (by (try simp only [List.map_toArray, List.map_cons, List.map_nil]); first | done | rfl | (simp only [List.length_drop, List.length_take]; rfl)) ?_; (with_reducible refine (tautochronelaw12_awake.calls k  true _ A2.out).mono ?_); rintro e w5 ⟨rfl, hb⟩; refine ⟨_, rfl, ?_⟩; have n0_ := Aside0.mk (below_step (by repeat (first | (with_reducible first | exact HB.out | apply below_alloc | apply pw_below_drewN | apply below_drew1) | exact HB.out)) hb); clear HB; have HB := n0_; clear n0_; (try clear hb); (try clear hb2); (try clear hk); (try clear hi)))
      go_ret
      exact ⟨by first | rfl | (simp [errW_none, errW_some] <;> rfl) | (simp [*, errW_none, errW_some] <;> rfl), by repeat (first | (with_reducible first | exact HB.out | apply below_alloc | apply pw_below_drewN | apply below_drew1) | exact HB.out)⟩
    · rw [if_neg c4] at H
      have c4b0 : decide (60 < (l0.length : Int)) = false := decide_eq_false c4
      have c4b1 : decide (60 < l0.length) = false := decide_eq_false (by omega)
      clear c4
      have HC6 := Aside0.mk H
      clear H
      go_enter Tryd.func7, Tryd.ntmps7
      go_upto_region 5 with (first | ((with_reducible refine gate_callee (f := 8) rfl ?_); refine goesL_ (some 9) rfl rfl Tryd.func8 (by kernel_rfl) rfl #[] rfl (by (try simp only [List.map_toArray, List.map_cons, List.map_nil]); first | done | rfl | (simp only [List.length_drop, List.length_take]; rfl)) ?_; (with_reducible refine (tautochronelaw12_awake.calls k  true _ A2.out).mono ?_); rintro e w7 ⟨rfl, hb⟩; refine ⟨_, rfl, ?_⟩; have n0_ := Aside0.mk (below_step (by repeat (first | (with_reducible first | exact HB.out | apply below_alloc | apply pw_below_drewN | apply below_drew1) | exact HB.out)) hb); clear HB; have HB := n0_; clear n0_; (try clear hb); (try clear hb2); (try clear hk); (try clear hi)))
      (try simp only [Act.put, List.setIfInBounds_toArray, List.set_cons_zero, List.set_cons_succ])
      go_cut [20] (fun v20 wc => ∃ (kq : Nat) (x20_5 : Bool), v20 = .bool x20_5 ∧ Aside0 (tautochronelaw12_CodeEnds.j0 kq l0 x20_5 = some r) ∧ Aside0 (kq ≤ k) ∧ Aside0 (Below w.heap.size w wc))
      case first =>
        have H := HC6.out
        clear HC6
        replace H := Option.bind_eq_some_iff.mp H
        obtain ⟨t296, A80, H⟩ := H
        replace H : (if (t296.length : Int) = 0 then ((code_Good.f k ([] : List (S26))).bind fun t299 => (tautochronelaw12_CodeEnds.j0 k l0 t299)) else (tautochronelaw12_CodeEnds.j0 k l0 true)) = some r := H
        have A8 := Aside0.mk A80
        clear A80
        by_cases c9 : (t296.length : Int) = 0
        · rw [if_pos c9] at H
          have c9b0 : ((t296.length : Int) == 0) = true := beq_iff_eq.mpr c9
          have c9b1 : ((t296.length : Int) != 0) = false := bne_eq_false_iff_eq.mpr c9
          clear c9
          (first | rw [c9b0] | (simp only [i64_w, i32_w]; rw [c9b0]) | skip)
          replace H := Option.bind_eq_some_iff.mp H
          obtain ⟨t299, A100, H⟩ := H
          replace H : (tautochronelaw12_CodeEnds.j0 k l0 t299) = some r := H
          have A10 := Aside0.mk A100
          clear A100
          have H' := Aside0.mk H
          clear H
          go_wp2_with (first | ((with_reducible refine gate_callee (f := 21) rfl ?_); refine goesL_ (some 15) rfl rfl Tryd.func21 (by kernel_rfl) rfl #[.agg #[.int .i64 13, .int .i64 0, .int .i64 0, .int .i64 0, .int .i64 0, .int .i64 0, .int .u64 0, .int .i64 1], .int .i64 0, .int .i64 9] rfl (by (try simp only [List.map_toArray, List.map_cons, List.map_nil]); first | done | rfl | (simp only [List.length_drop, List.length_take]; rfl)) ?_; (with_reducible refine (code_Next.calls k 13 0 0 0 0 0 0 1 0 9 t296 _ A8.out).mono ?_); rintro e w11 ⟨v297, rfl, ho0, hb⟩; refine ⟨_, rfl, ?_⟩; have n0_ := Aside0.mk (Kd.R_lower ho0 (below_size (by repeat (first | (with_reducible first | exact HB.out | apply below_alloc | apply pw_below_drewN | apply below_drew1) | exact HB.out)))); have n1_ := Aside0.mk (below_step (by repeat (first | (with_reducible first | exact HB.out | apply below_alloc | apply pw_below_drewN | apply below_drew1) | exact HB.out)) hb); clear HB; have HO298 := n0_; have HB := n1_; clear n0_ n1_; (try clear hb); (try clear hb2); (try clear hk); (try clear hi); (try clear ho0); obtain ⟨Ao12, co12, eo12⟩ := Kd.R_slice HO298.out; subst eo12) | (go_at_call 19; (refine (code_Good.calls k _ _ ([] : List (S26)) t299 _ ?side1 ?side2 A10.out).mono ?_); (case side1 => exact Kd.C_nil _ _); (case side2 => exact Nat.le_refl _); rintro e w13 ⟨rfl, hb⟩; have n0_ := Aside0.mk (Kd.R_below (by (with_reducible repeat (first | apply Kd.R_alloc | apply Kd.R_drewN | apply Kd.R_drew)); exact HO298.out) hb); have n1_ := Aside0.mk (below_step (by repeat (first | (with_reducible first | exact HB.out | apply below_alloc | apply pw_below_drewN | apply below_drew1) | exact HB.out)) hb); clear HO298; clear HB; have HO298 := n0_; have HB := n1_; clear n0_ n1_; (try clear hb); (try clear hb2); (try clear hk); (try clear hi)))
          go_meet
          case rel => exact ⟨_, (t299), (by first | rfl | (simp; done) | (simp [*]; done)), H', ⟨by first | omega | exact Nat.le_refl _⟩, ⟨by repeat (first | (with_reducible first | exact HB.out | apply below_alloc | apply pw_below_drewN | apply below_drew1) | exact HB.out)⟩⟩
        · rw [if_neg c9] at H
          have c9b0 : ((t296.length : Int) == 0) = false := beq_eq_false_iff_ne.mpr c9
          have c9b1 : ((t296.length : Int) != 0) = true := bne_iff_ne.mpr c9
          have c9b2 : ¬ (t296 = []) := fun h_ => c9 (by rw [h_]; rfl)
          (first | rw [c9b0] | (simp only [i64_w, i32_w]; rw [c9b0]) | skip)
          have H' := Aside0.mk H
          clear H
          go_wp2_with (first | ((with_reducible refine gate_callee (f := 21) rfl ?_); refine goesL_ (some 15) rfl rfl Tryd.func21 (by kernel_rfl) rfl #[.agg #[.int .i64 13, .int .i64 0, .int .i64 0, .int .i64 0, .int .i64 0, .int .i64 0, .int .u64 0, .int .i64 1], .int .i64 0, .int .i64 9] rfl (by (try simp only [List.map_toArray, List.map_cons, List.map_nil]); first | done | rfl | (simp only [List.length_drop, List.length_take]; rfl)) ?_; (with_reducible refine (code_Next.calls k 13 0 0 0 0 0 0 1 0 9 t296 _ A8.out).mono ?_); rintro e w14 ⟨v297, rfl, ho0, hb⟩; refine ⟨_, rfl, ?_⟩; have n0_ := Aside0.mk (Kd.R_lower ho0 (below_size (by repeat (first | (with_reducible first | exact HB.out | apply below_alloc | apply pw_below_drewN | apply below_drew1) | exact HB.out)))); have n1_ := Aside0.mk (below_step (by repeat (first | (with_reducible first | exact HB.out | apply below_alloc | apply pw_below_drewN | apply below_drew1) | exact HB.out)) hb); clear HB; have HO298 := n0_; have HB := n1_; clear n0_ n1_; (try clear hb); (try clear hb2); (try clear hk); (try clear hi); (try clear ho0); obtain ⟨Ao15, co15, eo15⟩ := Kd.R_slice HO298.out; subst eo15))
          go_meet
          case rel => exact ⟨_, (true), (by first | rfl | (simp; done) | (simp [*]; done)), H', ⟨by first | omega | exact Nat.le_refl _⟩, ⟨by repeat (first | (with_reducible first | exact HB.out | apply below_alloc | apply pw_below_drewN | apply below_drew1) | exact HB.out)⟩⟩
      case rest =>
        clear HC6
        try clear c2
        try clear p2
        try clear c3
        try clear c4
        try clear c4b0
        try clear c4b1
        try clear c7
        try clear c8
        try clear c9
        try clear c9b0
        try clear c9b1
        try clear c9b2
        obtain ⟨kq, x20_5, rfl, HA, HJ5, HB⟩ := hcut
        cases kq with
        | zero => exact absurd HA.out (by simp [tautochronelaw12_CodeEnds.j0])
        | succ kj5 =>
          have H := HA.out
          clear HA
          simp only [tautochronelaw12_CodeEnds.j0] at H
          by_cases c16 : x20_5 = true
          · subst c16
            have H1 : (some false) = some r := by rw [if_pos rfl] at H; exact H
            clear H
            have H := H1
            clear H1
            obtain rfl := Option.some.inj H
            go_wp2
            go_ret
            exact ⟨by first | rfl | (simp [errW_none, errW_some] <;> rfl) | (simp [*, errW_none, errW_some] <;> rfl), by repeat (first | (with_reducible first | exact HB.out | apply below_alloc | apply pw_below_drewN | apply below_drew1) | exact HB.out)⟩
          · replace c16 := Bool.eq_false_iff.mpr c16
            subst c16
            have H1 : ((code_Good.f kj5 l0).bind fun t300 => (if t300 = true then (tautochronelaw12_CodeEnds.l0 kj5 l0 1) else (some true))) = some r := by rw [if_neg (show ¬ (false = true) by decide)] at H; exact H
            clear H
            have H := H1
            clear H1
            replace H := Option.bind_eq_some_iff.mp H
            obtain ⟨t300, A170, H⟩ := H
            replace H : (if t300 = true then (tautochronelaw12_CodeEnds.l0 kj5 l0 1) else (some true)) = some r := H
            have A17 := Aside0.mk A170
            clear A170
            by_cases c18 : t300 = true
            · subst c18
              have H1 : (tautochronelaw12_CodeEnds.l0 kj5 l0 1) = some r := by rw [if_pos rfl] at H; exact H
              clear H
              have H := H1
              clear H1
              have H' := Aside0.mk H
              clear H
              go_wp2_with (first | ((with_reducible refine gate_callee (f := 19) rfl ?_); refine goesL_ (some 22) rfl rfl Tryd.func19 (by kernel_rfl) rfl #[.slice A0 l0.length c0] rfl (by (try simp only [List.map_toArray, List.map_cons, List.map_nil]); first | done | rfl | (simp only [List.length_drop, List.length_take]; rfl)) ?_; (with_reducible refine (code_Good.calls kj5 _ _ l0 true _ ?side1 ?side2 A17.out).mono ?_); (case side1 => repeat (first | exact (Kd.C_below HR0.out HB.out) | (with_reducible refine Kd.C_alloc ?_ _) | (with_reducible refine Kd.C_drewN ?_ _) | (with_reducible refine Kd.C_drew ?_))); (case side2 => exact HC0.out); rintro e w19 ⟨rfl, hb⟩; refine ⟨_, rfl, ?_⟩; have n0_ := Aside0.mk (below_step (by repeat (first | (with_reducible first | exact HB.out | apply below_alloc | apply pw_below_drewN | apply below_drew1) | exact HB.out)) hb); clear HB; have HB := n0_; clear n0_; (try clear hb); (try clear hb2); (try clear hk); (try clear hi)))
              go_loopg [3] kj5 (fun kq v3 w' => ∃ (x3_2 : Int), v3 = .int .i64 x3_2 ∧ Aside0 (tautochronelaw12_CodeEnds.l0 kq l0 x3_2 = some r) ∧ Aside0 (kq ≤ kj5) ∧ Aside0 (Below w.heap.size w w'))
              case atStart => exact ⟨(1), (by first | rfl | (simp; done) | (simp [*]; done)), H', ⟨Nat.le_refl _⟩, ⟨by repeat (first | (with_reducible first | exact HB.out | apply below_alloc | apply pw_below_drewN | apply below_drew1) | exact HB.out)⟩⟩
              case round =>
                clear H'
                try clear c1
                try clear c2
                try clear p2
                try clear c3
                try clear c4
                try clear c4b0
                try clear c4b1
                try clear c7
                try clear c8
                try clear c9
                try clear c9b0
                try clear c9b1
                try clear c9b2
                try clear c16
                try clear c18
                try clear c19
                try clear p2
                obtain ⟨x3_2, rfl, HA, HK2, HB⟩ := hrel
                cases gk with
                | zero => exact absurd HA.out (by simp [tautochronelaw12_CodeEnds.l0])
                | succ k2 =>
                  have H := HA.out
                  clear HA
                  simp only [tautochronelaw12_CodeEnds.l0] at H
                  by_cases c20 : x3_2 < (l0.length : Int)
                  · rw [if_pos c20] at H
                    have c20b0 : decide (x3_2 < (l0.length : Int)) = true := decide_eq_true c20
                    clear c20
                    have HC21 := Aside0.mk H
                    clear H
                    go_upto_region 12 with (fail)
                    go_cut [4] (fun v4 wc => ∃ (kq : Nat) (x4_20 : Bool), v4 = .bool x4_20 ∧ Aside0 (tautochronelaw12_CodeEnds.j2 kq l0 x3_2 x4_20 = some r) ∧ Aside0 (kq ≤ k2) ∧ Aside0 (Below w.heap.size w wc))
                    case first =>
                      have H := HC21.out
                      clear HC21
                      obtain ⟨ji22, hji22⟩ : ∃ j_ : Int, (wrap64 (x3_2 - 1)) = j_ := ⟨_, rfl⟩
                      replace H : (if 0 ≤ (ji22) then (if (ji22) < (l0.length : Int) then (if ((rd_T26 l0 (ji22)).f0) = 13 then (tautochronelaw12_CodeEnds.j2 k2 l0 x3_2 true) else (tautochronelaw12_CodeEnds.j2 k2 l0 x3_2 (((rd_T26 l0 (ji22)).f0) == 6))) else (none)) else (none)) = some r := by first | (rw [hji22] at H; exact H) | (simp only [hji22] at H ⊢; exact H)
                      have hji22w : (IntKind.i64.wrap (x3_2 - 1)) = ji22 := (i64_w _).trans hji22
                      by_cases c23 : 0 ≤ (ji22)
                      · rw [if_pos c23] at H
                        have c23b0 : decide (0 ≤ (ji22)) = true := decide_eq_true c23
                        clear c23
                        (first | rw [c23b0] | (simp only [i64_w, i32_w]; rw [c23b0]) | skip)
                        by_cases c24 : (ji22) < (l0.length : Int)
                        · rw [if_pos c24] at H
                          have c24b0 : decide ((ji22) < (l0.length : Int)) = true := decide_eq_true c24
                          clear c24
                          by_cases c25 : ((rd_T26 l0 (ji22)).f0) = 13
                          · rw [if_pos c25] at H
                            have c25b0 : (((rd_T26 l0 (ji22)).f0) == 13) = true := beq_iff_eq.mpr c25
                            have c25b1 : (((rd_T26 l0 (ji22)).f0) != 13) = false := bne_eq_false_iff_eq.mpr c25
                            clear c25
                            have H' := Aside0.mk H
                            clear H
                            have p301 : 0 ≤ ((ji22) : Int) := of_decide_eq_true (by first | (with_reducible assumption) | assumption)
                            have q301 : (ji22) < (l0.length : Int) := of_decide_eq_true (by first | (with_reducible assumption) | assumption)
                            obtain ⟨ad301, e301, hx301_0, hx301_1, hx301_2, hx301_3, hx301_4, hx301_5, hx301_6, hx301_7⟩ := at_T26 HR0.out (ji22) p301 q301
                            cases e301
                            replace hx301_0 := (HB.out.cell (World.block_lt_of_cell? w _ hx301_0)).trans hx301_0
                            replace hx301_1 := (HB.out.cell (World.block_lt_of_cell? w _ hx301_1)).trans hx301_1
                            replace hx301_2 := (HB.out.cell (World.block_lt_of_cell? w _ hx301_2)).trans hx301_2
                            replace hx301_3 := (HB.out.cell (World.block_lt_of_cell? w _ hx301_3)).trans hx301_3
                            replace hx301_4 := (HB.out.cell (World.block_lt_of_cell? w _ hx301_4)).trans hx301_4
                            replace hx301_5 := (HB.out.cell (World.block_lt_of_cell? w _ hx301_5)).trans hx301_5
                            replace hx301_6 := (HB.out.cell (World.block_lt_of_cell? w _ hx301_6)).trans hx301_6
                            replace hx301_7 := (HB.out.cell (World.block_lt_of_cell? w _ hx301_7)).trans hx301_7
                            replace p301 := eq_true p301
                            replace q301 := eq_true q301
                            go_wp2
                            go_meet
                            case rel => exact ⟨_, (true), (by first | rfl | (simp; done) | (simp [*]; done)), H', ⟨by have := HJ5.out; have := HK2.out; first | omega | exact Nat.le_refl _⟩, ⟨by repeat (first | (with_reducible first | exact HB.out | apply below_alloc | apply pw_below_drewN | apply below_drew1) | exact HB.out)⟩⟩
                          · rw [if_neg c25] at H
                            have c25b0 : (((rd_T26 l0 (ji22)).f0) == 13) = false := beq_eq_false_iff_ne.mpr c25
                            have c25b1 : (((rd_T26 l0 (ji22)).f0) != 13) = true := bne_iff_ne.mpr c25
                            have H' := Aside0.mk H
                            clear H
                            have p301 : 0 ≤ ((ji22) : Int) := of_decide_eq_true (by first | (with_reducible assumption) | assumption)
                            have q301 : (ji22) < (l0.length : Int) := of_decide_eq_true (by first | (with_reducible assumption) | assumption)
                            obtain ⟨ad301, e301, hx301_0, hx301_1, hx301_2, hx301_3, hx301_4, hx301_5, hx301_6, hx301_7⟩ := at_T26 HR0.out (ji22) p301 q301
                            cases e301
                            replace hx301_0 := (HB.out.cell (World.block_lt_of_cell? w _ hx301_0)).trans hx301_0
                            replace hx301_1 := (HB.out.cell (World.block_lt_of_cell? w _ hx301_1)).trans hx301_1
                            replace hx301_2 := (HB.out.cell (World.block_lt_of_cell? w _ hx301_2)).trans hx301_2
                            replace hx301_3 := (HB.out.cell (World.block_lt_of_cell? w _ hx301_3)).trans hx301_3
                            replace hx301_4 := (HB.out.cell (World.block_lt_of_cell? w _ hx301_4)).trans hx301_4
                            replace hx301_5 := (HB.out.cell (World.block_lt_of_cell? w _ hx301_5)).trans hx301_5
                            replace hx301_6 := (HB.out.cell (World.block_lt_of_cell? w _ hx301_6)).trans hx301_6
                            replace hx301_7 := (HB.out.cell (World.block_lt_of_cell? w _ hx301_7)).trans hx301_7
                            replace p301 := eq_true p301
                            replace q301 := eq_true q301
                            have p302 : 0 ≤ ((ji22) : Int) := of_decide_eq_true (by first | (with_reducible assumption) | assumption)
                            have q302 : (ji22) < (l0.length : Int) := of_decide_eq_true (by first | (with_reducible assumption) | assumption)
                            obtain ⟨ad302, e302, hx302_0, hx302_1, hx302_2, hx302_3, hx302_4, hx302_5, hx302_6, hx302_7⟩ := at_T26 HR0.out (ji22) p302 q302
                            obtain rfl : ad301 = ad302 := (by injection e302)
                            replace hx302_0 := (HB.out.cell (World.block_lt_of_cell? w _ hx302_0)).trans hx302_0
                            replace hx302_1 := (HB.out.cell (World.block_lt_of_cell? w _ hx302_1)).trans hx302_1
                            replace hx302_2 := (HB.out.cell (World.block_lt_of_cell? w _ hx302_2)).trans hx302_2
                            replace hx302_3 := (HB.out.cell (World.block_lt_of_cell? w _ hx302_3)).trans hx302_3
                            replace hx302_4 := (HB.out.cell (World.block_lt_of_cell? w _ hx302_4)).trans hx302_4
                            replace hx302_5 := (HB.out.cell (World.block_lt_of_cell? w _ hx302_5)).trans hx302_5
                            replace hx302_6 := (HB.out.cell (World.block_lt_of_cell? w _ hx302_6)).trans hx302_6
                            replace hx302_7 := (HB.out.cell (World.block_lt_of_cell? w _ hx302_7)).trans hx302_7
                            replace p302 := eq_true p302
                            replace q302 := eq_true q302
                            go_wp2
                            go_meet
                            case rel => exact ⟨_, ((((rd_T26 l0 (ji22)).f0) == 6)), (by first | rfl | (simp; done) | (simp only [← hji22] <;> (first | rfl | simp)) | (simp [*]; done)), H', ⟨by have := HJ5.out; have := HK2.out; first | omega | exact Nat.le_refl _⟩, ⟨by repeat (first | (with_reducible first | exact HB.out | apply below_alloc | apply pw_below_drewN | apply below_drew1) | exact HB.out)⟩⟩
                        · rw [if_neg c24] at H
                          exact absurd H (by simp)
                      · rw [if_neg c23] at H
                        exact absurd H (by simp)
                    case rest =>
                      clear HC21
                      try clear c1
                      try clear c2
                      try clear p2
                      try clear c3
                      try clear p3
                      try clear q3
                      try clear hx3
                      try clear c4
                      try clear c4b0
                      try clear c4b1
                      try clear p6
                      try clear c7
                      try clear c8
                      try clear c9
                      try clear c9b0
                      try clear c9b1
                      try clear c9b2
                      try clear c16
                      try clear c18
                      try clear c19
                      try clear c20
                      try clear c20b0
                      try clear c21
                      try clear c23
                      try clear c23b0
                      try clear c24
                      try clear c24b0
                      try clear c25
                      try clear c25b0
                      try clear c25b1
                      try clear hx301_0
                      try clear hx301_1
                      try clear hx301_2
                      try clear hx301_3
                      try clear hx301_4
                      try clear hx301_5
                      try clear hx301_6
                      try clear hx301_7
                      try clear hx302_0
                      try clear hx302_1
                      try clear hx302_2
                      try clear hx302_3
                      try clear hx302_4
                      try clear hx302_5
                      try clear hx302_6
                      try clear hx302_7
                      try clear p2
                      try clear p301
                      try clear p302
                      try clear q301
                      try clear q302
                      obtain ⟨kq, x4_20, rfl, HA, HJ20, HB⟩ := hcut
                      cases kq with
                      | zero => exact absurd HA.out (by simp [tautochronelaw12_CodeEnds.j2])
                      | succ kj20 =>
                        have H := HA.out
                        clear HA
                        simp only [tautochronelaw12_CodeEnds.j2] at H
                        by_cases c26 : 0 ≤ x3_2
                        · rw [if_pos c26] at H
                          have c26b0 := eq_true c26
                          have c26b1 : decide (0 ≤ x3_2) = true := decide_eq_true c26
                          clear c26
                          by_cases c27 : x3_2 ≤ (l0.length : Int)
                          · rw [if_pos c27] at H
                            have c27b0 := eq_true c27
                            have c27b1 : decide (x3_2 ≤ (l0.length : Int)) = true := decide_eq_true c27
                            clear c27
                            obtain ⟨y303, hy303⟩ : ∃ y_ : List (S26), y_ = (l0.take (x3_2 : Int).toNat) := ⟨_, rfl⟩
                            replace H : (tautochronelaw12_CodeEnds.l1 kj20 l0 x3_2 x4_20 y303 (y303.length : Int) 0) = some r := by first | (rw [hy303]; with_reducible exact H) | (have H2_ := (Option.bind_some _ _).symm.trans H; rw [hy303]; with_reducible exact H2_) | (have H2_ := (Option.bind_some _ _).symm.trans H; with_reducible exact H2_) | with_reducible exact H | (rw [hy303]; exact H) | exact H
                            have Ny303 := Aside0.mk hy303
                            clear hy303
                            have H' := Aside0.mk H
                            clear H
                            have q28 : (x3_2 : Int) ≤ ((l0.length : Int) : Int) := of_decide_eq_true (by first | (with_reducible assumption) | assumption)
                            obtain ⟨i028, hi028, _, hsz28, _⟩ := info_parts info26
                            have hroom28 : l0.length ≤ c0 := HC0.out
                            have hC28 : Kd.C k26 _ A0 l0.length l0 := HR0.out
                            have hcut28 := cut_to (P := Tryd.prog) 41 26 .i64 Tryd.underlying41 hi028 A0 l0.length c0 x3_2 (of_decide_eq_true (by first | (with_reducible assumption) | assumption)) q28 hroom28
                            have hr28 := Kd.C_take (m := (x3_2 : Int).toNat) hC28 (by omega)
                            have hy28 : y303.length = (x3_2 : Int).toNat := (by rw [Ny303.out, List.length_take]; omega)
                            rw [← Ny303.out] at hr28
                            rw [← hy28] at hcut28
                            have HR306 := Aside0.mk hr28
                            have HC306 := Aside0.mk (show y303.length ≤ c0 from by omega)
                            clear hr28 hC28 hroom28 hi028 hsz28
                            have KY28 := Aside0.mk hy28
                            clear hy28
                            replace q28 := eq_true q28
                            go_wp2
                            go_loopg [4, 50] kj20 (fun kq v4 v50 w' => ∃ (x4_4 : Bool) (x50_4 : Int), v4 = .bool x4_4 ∧ v50 = .int .i64 x50_4 ∧ Aside0 (tautochronelaw12_CodeEnds.l1 kq l0 x3_2 x4_4 y303 (y303.length : Int) x50_4 = some r) ∧ Aside0 (kq ≤ kj20) ∧ Aside0 (Below w.heap.size w w'))
                            case atStart => exact ⟨(x4_20), (0), (by first | rfl | (simp; done) | (simp [*]; done)), (by first | rfl | (simp; done) | (simp [*]; done)), H', ⟨Nat.le_refl _⟩, ⟨by repeat (first | (with_reducible first | exact HB.out | apply below_alloc | apply pw_below_drewN | apply below_drew1) | exact HB.out)⟩⟩
                            case round =>
                              clear H'
                              try clear c1
                              try clear c2
                              try clear p2
                              try clear q2
                              try clear c3
                              try clear p3
                              try clear q3
                              try clear hx3
                              try clear c4
                              try clear c4b0
                              try clear c4b1
                              try clear p6
                              try clear c7
                              try clear c8
                              try clear c9
                              try clear c9b0
                              try clear c9b1
                              try clear c9b2
                              try clear c16
                              try clear c18
                              try clear c19
                              try clear c20
                              try clear c20b0
                              try clear c21
                              try clear c23
                              try clear c23b0
                              try clear c24
                              try clear c24b0
                              try clear c25
                              try clear c25b0
                              try clear c25b1
                              try clear c26
                              try clear c26b0
                              try clear c26b1
                              try clear c27
                              try clear c27b0
                              try clear c27b1
                              try clear q28
                              try clear hx301_0
                              try clear hx301_1
                              try clear hx301_2
                              try clear hx301_3
                              try clear hx301_4
                              try clear hx301_5
                              try clear hx301_6
                              try clear hx301_7
                              try clear hx302_0
                              try clear hx302_1
                              try clear hx302_2
                              try clear hx302_3
                              try clear hx302_4
                              try clear hx302_5
                              try clear hx302_6
                              try clear hx302_7
                              try clear p2
                              try clear p3
                              try clear p301
                              try clear p302
                              try clear p6
                              try clear q28
                              try clear q3
                              try clear q301
                              try clear q302
                              obtain ⟨x4_4, x50_4, rfl, rfl, HA, HK4, HB⟩ := hrel
                              cases gk with
                              | zero => exact absurd HA.out (by simp [tautochronelaw12_CodeEnds.l1])
                              | succ k4 =>
                                have H := HA.out
                                clear HA
                                simp only [tautochronelaw12_CodeEnds.l1] at H
                                by_cases c29 : x50_4 < (y303.length : Int)
                                · rw [if_pos c29] at H
                                  have c29b0 : decide (x50_4 < (y303.length : Int)) = true := decide_eq_true c29
                                  clear c29
                                  by_cases c30 : 0 ≤ x50_4
                                  · rw [if_pos c30] at H
                                    have c30b0 : decide (0 ≤ x50_4) = true := decide_eq_true c30
                                    clear c30
                                    by_cases c31 : x50_4 < (y303.length : Int)
                                    · rw [if_pos c31] at H
                                      have c31b0 : decide (x50_4 < (y303.length : Int)) = true := decide_eq_true c31
                                      clear c31
                                      replace H := Option.bind_eq_some_iff.mp H
                                      obtain ⟨⟨t309, t310⟩, A320, H⟩ := H
                                      replace H : (if t309 = true then (if ((rd_T26 y303 x50_4).f7) ≥ x3_2 then (tautochronelaw12_CodeEnds.l1 k4 l0 x3_2 false y303 (y303.length : Int) (wrap64 (x50_4 + 1))) else (tautochronelaw12_CodeEnds.l1 k4 l0 x3_2 x4_4 y303 (y303.length : Int) (wrap64 (x50_4 + 1)))) else (tautochronelaw12_CodeEnds.l1 k4 l0 x3_2 x4_4 y303 (y303.length : Int) (wrap64 (x50_4 + 1)))) = some r := H
                                      have A32 := Aside0.mk A320
                                      clear A320
                                      by_cases c33 : t309 = true
                                      · subst c33
                                        have H1 : (if ((rd_T26 y303 x50_4).f7) ≥ x3_2 then (tautochronelaw12_CodeEnds.l1 k4 l0 x3_2 false y303 (y303.length : Int) (wrap64 (x50_4 + 1))) else (tautochronelaw12_CodeEnds.l1 k4 l0 x3_2 x4_4 y303 (y303.length : Int) (wrap64 (x50_4 + 1)))) = some r := by rw [if_pos rfl] at H; exact H
                                        clear H
                                        have H := H1
                                        clear H1
                                        by_cases c34 : ((rd_T26 y303 x50_4).f7) ≥ x3_2
                                        · rw [if_pos c34] at H
                                          have c34b0 : decide (x3_2 ≤ ((rd_T26 y303 x50_4).f7)) = true := decide_eq_true c34
                                          clear c34
                                          have H' := Aside0.mk H
                                          clear H
                                          have p307 : 0 ≤ (x50_4 : Int) := of_decide_eq_true (by first | (with_reducible assumption) | assumption)
                                          have q307 : x50_4 < (y303.length : Int) := of_decide_eq_true (by first | (with_reducible assumption) | assumption)
                                          obtain ⟨ad307, e307, hx307_0, hx307_1, hx307_2, hx307_3, hx307_4, hx307_5, hx307_6, hx307_7⟩ := at_T26 HR306.out x50_4 p307 q307
                                          cases e307
                                          replace hx307_0 := (HB.out.cell (World.block_lt_of_cell? w _ hx307_0)).trans hx307_0
                                          replace hx307_1 := (HB.out.cell (World.block_lt_of_cell? w _ hx307_1)).trans hx307_1
                                          replace hx307_2 := (HB.out.cell (World.block_lt_of_cell? w _ hx307_2)).trans hx307_2
                                          replace hx307_3 := (HB.out.cell (World.block_lt_of_cell? w _ hx307_3)).trans hx307_3
                                          replace hx307_4 := (HB.out.cell (World.block_lt_of_cell? w _ hx307_4)).trans hx307_4
                                          replace hx307_5 := (HB.out.cell (World.block_lt_of_cell? w _ hx307_5)).trans hx307_5
                                          replace hx307_6 := (HB.out.cell (World.block_lt_of_cell? w _ hx307_6)).trans hx307_6
                                          replace hx307_7 := (HB.out.cell (World.block_lt_of_cell? w _ hx307_7)).trans hx307_7
                                          replace p307 := eq_true p307
                                          replace q307 := eq_true q307
                                          go_wp2_with (first | ((with_reducible refine gate_dst (N := 6) rfl ?_); refine box_event ?hg (N := 6) ?hd (cs := #[.int .i64 0, .int .i64 0, .int .i64 0, .int .i64 0, .int .i64 0, .int .i64 0, .int .u64 0, .int .i64 0]) (t := 26) ?hr ?_; (case hd => rfl); (case hg => rfl); (case hr => first | (go_simp; done) | (go_simp; rfl)); intro gb308 hg w35 hbox hb; have n0_ := Aside0.mk (below_step (by repeat (first | (with_reducible first | exact HB.out | apply below_alloc | apply pw_below_drewN | apply below_drew1) | exact HB.out)) hb); have n1_ := Aside0.mk (hbox); have n2_ := Aside0.mk ((by rw [hg]; exact (below_size (by repeat (first | (with_reducible first | exact HB.out | apply below_alloc | apply pw_below_drewN | apply below_drew1) | exact HB.out))) : w.heap.size ≤ gb308)); have n3_ := Aside0.mk ((by rw [hg]; exact (below_size (by repeat (first | (with_reducible first | exact HB.out | apply below_alloc | apply pw_below_drewN | apply below_drew1) | exact HB.out))) : w.heap.size ≤ gb308)); clear HB; have HB := n0_; have BK308 := n1_; have GW308 := n2_; have GE308 := n3_; clear n0_ n1_ n2_ n3_; clear hb hbox hg; have hcz36_0 : w35.cell? ⟨gb308, 0, none⟩ = some (.int .i64 0) := (blk_cell BK308.out 0).trans rfl; have hcz36_1 : w35.cell? ⟨gb308, 1, none⟩ = some (.int .i64 0) := (blk_cell BK308.out 1).trans rfl; have hcz36_2 : w35.cell? ⟨gb308, 2, none⟩ = some (.int .i64 0) := (blk_cell BK308.out 2).trans rfl; have hcz36_3 : w35.cell? ⟨gb308, 3, none⟩ = some (.int .i64 0) := (blk_cell BK308.out 3).trans rfl; have hcz36_4 : w35.cell? ⟨gb308, 4, none⟩ = some (.int .i64 0) := (blk_cell BK308.out 4).trans rfl; have hcz36_5 : w35.cell? ⟨gb308, 5, none⟩ = some (.int .i64 0) := (blk_cell BK308.out 5).trans rfl; have hcz36_6 : w35.cell? ⟨gb308, 6, none⟩ = some (.int .u64 0) := (blk_cell BK308.out 6).trans rfl; have hcz36_7 : w35.cell? ⟨gb308, 7, none⟩ = some (.int .i64 0) := (blk_cell BK308.out 7).trans rfl; have hfz36_0 := blk_frozen BK308.out 0; have hfz36_1 := blk_frozen BK308.out 1; have hfz36_2 := blk_frozen BK308.out 2; have hfz36_3 := blk_frozen BK308.out 3; have hfz36_4 := blk_frozen BK308.out 4; have hfz36_5 := blk_frozen BK308.out 5; have hfz36_6 := blk_frozen BK308.out 6; have hfz36_7 := blk_frozen BK308.out 7) | ((with_reducible refine gate_callee (f := 10) rfl ?_); refine goesL_ (some 56) rfl rfl Tryd.func10 (by kernel_rfl) rfl #[.agg #[.int .i64 ((rd_T26 y303 x50_4).f0), .int .i64 ((rd_T26 y303 x50_4).f1), .int .i64 ((rd_T26 y303 x50_4).f2), .int .i64 ((rd_T26 y303 x50_4).f3), .int .i64 ((rd_T26 y303 x50_4).f4), .int .i64 ((rd_T26 y303 x50_4).f5), .int .u64 ((rd_T26 y303 x50_4).f6), .int .i64 ((rd_T26 y303 x50_4).f7)]] rfl (by (try simp only [List.map_toArray, List.map_cons, List.map_nil]); first | done | rfl | (simp only [List.length_drop, List.length_take]; rfl)) ?_; (with_reducible refine (code_Jumps.calls ((rd_T26 y303 x50_4).f0) ((rd_T26 y303 x50_4).f1) ((rd_T26 y303 x50_4).f2) ((rd_T26 y303 x50_4).f3) ((rd_T26 y303 x50_4).f4) ((rd_T26 y303 x50_4).f5) ((rd_T26 y303 x50_4).f6) ((rd_T26 y303 x50_4).f7) true t310 _ A32.out).mono ?_); rintro e w37 ⟨rfl, hb⟩; refine ⟨_, rfl, ?_⟩; have n0_ := Aside0.mk (blk_below (g := gb308) (o := .cells #[.int .i64 ((rd_T26 y303 x50_4).f0), .int .i64 ((rd_T26 y303 x50_4).f1), .int .i64 ((rd_T26 y303 x50_4).f2), .int .i64 ((rd_T26 y303 x50_4).f3), .int .i64 ((rd_T26 y303 x50_4).f4), .int .i64 ((rd_T26 y303 x50_4).f5), .int .u64 ((rd_T26 y303 x50_4).f6), .int .i64 ((rd_T26 y303 x50_4).f7)] 26 (0, 0)) (by (with_reducible repeat (first | refine blk_drewN ?_ _ | refine blk_drew ?_ | refine blk_alloc ?_ _)); refine blk_put (cs := #[.int .i64 ((rd_T26 y303 x50_4).f0), .int .i64 ((rd_T26 y303 x50_4).f1), .int .i64 ((rd_T26 y303 x50_4).f2), .int .i64 ((rd_T26 y303 x50_4).f3), .int .i64 ((rd_T26 y303 x50_4).f4), .int .i64 ((rd_T26 y303 x50_4).f5), .int .u64 ((rd_T26 y303 x50_4).f6), .int .i64 0]) ?_ 7 _ rfl; (with_reducible repeat (first | refine blk_drewN ?_ _ | refine blk_drew ?_ | refine blk_alloc ?_ _)); refine blk_put (cs := #[.int .i64 ((rd_T26 y303 x50_4).f0), .int .i64 ((rd_T26 y303 x50_4).f1), .int .i64 ((rd_T26 y303 x50_4).f2), .int .i64 ((rd_T26 y303 x50_4).f3), .int .i64 ((rd_T26 y303 x50_4).f4), .int .i64 ((rd_T26 y303 x50_4).f5), .int .u64 0, .int .i64 0]) ?_ 6 _ rfl; (with_reducible repeat (first | refine blk_drewN ?_ _ | refine blk_drew ?_ | refine blk_alloc ?_ _)); refine blk_put (cs := #[.int .i64 ((rd_T26 y303 x50_4).f0), .int .i64 ((rd_T26 y303 x50_4).f1), .int .i64 ((rd_T26 y303 x50_4).f2), .int .i64 ((rd_T26 y303 x50_4).f3), .int .i64 ((rd_T26 y303 x50_4).f4), .int .i64 0, .int .u64 0, .int .i64 0]) ?_ 5 _ rfl; (with_reducible repeat (first | refine blk_drewN ?_ _ | refine blk_drew ?_ | refine blk_alloc ?_ _)); refine blk_put (cs := #[.int .i64 ((rd_T26 y303 x50_4).f0), .int .i64 ((rd_T26 y303 x50_4).f1), .int .i64 ((rd_T26 y303 x50_4).f2), .int .i64 ((rd_T26 y303 x50_4).f3), .int .i64 0, .int .i64 0, .int .u64 0, .int .i64 0]) ?_ 4 _ rfl; (with_reducible repeat (first | refine blk_drewN ?_ _ | refine blk_drew ?_ | refine blk_alloc ?_ _)); refine blk_put (cs := #[.int .i64 ((rd_T26 y303 x50_4).f0), .int .i64 ((rd_T26 y303 x50_4).f1), .int .i64 ((rd_T26 y303 x50_4).f2), .int .i64 0, .int .i64 0, .int .i64 0, .int .u64 0, .int .i64 0]) ?_ 3 _ rfl; (with_reducible repeat (first | refine blk_drewN ?_ _ | refine blk_drew ?_ | refine blk_alloc ?_ _)); refine blk_put (cs := #[.int .i64 ((rd_T26 y303 x50_4).f0), .int .i64 ((rd_T26 y303 x50_4).f1), .int .i64 0, .int .i64 0, .int .i64 0, .int .i64 0, .int .u64 0, .int .i64 0]) ?_ 2 _ rfl; (with_reducible repeat (first | refine blk_drewN ?_ _ | refine blk_drew ?_ | refine blk_alloc ?_ _)); refine blk_put (cs := #[.int .i64 ((rd_T26 y303 x50_4).f0), .int .i64 0, .int .i64 0, .int .i64 0, .int .i64 0, .int .i64 0, .int .u64 0, .int .i64 0]) ?_ 1 _ rfl; (with_reducible repeat (first | refine blk_drewN ?_ _ | refine blk_drew ?_ | refine blk_alloc ?_ _)); refine blk_put (cs := #[.int .i64 0, .int .i64 0, .int .i64 0, .int .i64 0, .int .i64 0, .int .i64 0, .int .u64 0, .int .i64 0]) ?_ 0 _ rfl; (with_reducible repeat (first | refine blk_drewN ?_ _ | refine blk_drew ?_ | refine blk_alloc ?_ _)); exact BK308.out) hb); have n1_ := Aside0.mk (below_step (by repeat (first | (with_reducible first | exact HB.out | apply below_alloc | apply pw_below_drewN | apply below_drew1 | refine below_set ?_ GE308.out) | exact HB.out)) hb); clear BK308; clear HB; have BK308 := n0_; have HB := n1_; clear n0_ n1_; (try clear hb); (try clear hb2); (try clear hk); (try clear hi); have hcz38_0 : w37.cell? ⟨gb308, 0, none⟩ = some (.int .i64 ((rd_T26 y303 x50_4).f0)) := (blk_cell BK308.out 0).trans rfl; have hcz38_1 : w37.cell? ⟨gb308, 1, none⟩ = some (.int .i64 ((rd_T26 y303 x50_4).f1)) := (blk_cell BK308.out 1).trans rfl; have hcz38_2 : w37.cell? ⟨gb308, 2, none⟩ = some (.int .i64 ((rd_T26 y303 x50_4).f2)) := (blk_cell BK308.out 2).trans rfl; have hcz38_3 : w37.cell? ⟨gb308, 3, none⟩ = some (.int .i64 ((rd_T26 y303 x50_4).f3)) := (blk_cell BK308.out 3).trans rfl; have hcz38_4 : w37.cell? ⟨gb308, 4, none⟩ = some (.int .i64 ((rd_T26 y303 x50_4).f4)) := (blk_cell BK308.out 4).trans rfl; have hcz38_5 : w37.cell? ⟨gb308, 5, none⟩ = some (.int .i64 ((rd_T26 y303 x50_4).f5)) := (blk_cell BK308.out 5).trans rfl; have hcz38_6 : w37.cell? ⟨gb308, 6, none⟩ = some (.int .u64 ((rd_T26 y303 x50_4).f6)) := (blk_cell BK308.out 6).trans rfl; have hcz38_7 : w37.cell? ⟨gb308, 7, none⟩ = some (.int .i64 ((rd_T26 y303 x50_4).f7)) := (blk_cell BK308.out 7).trans rfl; have hfz38_0 := blk_frozen BK308.out 0; have hfz38_1 := blk_frozen BK308.out 1; have hfz38_2 := blk_frozen BK308.out 2; have hfz38_3 := blk_frozen BK308.out 3; have hfz38_4 := blk_frozen BK308.out 4; have hfz38_5 := blk_frozen BK308.out 5; have hfz38_6 := blk_frozen BK308.out 6; have hfz38_7 := blk_frozen BK308.out 7))
                                          go_roundg k4
                                          case measure => have := HJ5.out; have := HK2.out; have := HJ20.out; have := HK4.out; omega
                                          case rel => exact ⟨(false), (wrap64 (x50_4 + 1)), (by first | rfl | (simp; done) | (simp [*]; done)), (by first | rfl | (simp; done) | (simp [*]; done)), H', ⟨by have := HJ5.out; have := HK2.out; have := HJ20.out; have := HK4.out; omega⟩, ⟨by repeat (first | (with_reducible first | exact HB.out | apply below_alloc | apply pw_below_drewN | apply below_drew1 | refine below_set ?_ GE308.out) | exact HB.out)⟩⟩
                                        · rw [if_neg c34] at H
                                          have c34b0 : decide (x3_2 ≤ ((rd_T26 y303 x50_4).f7)) = false := decide_eq_false c34
                                          clear c34
                                          have H' := Aside0.mk H
                                          clear H
                                          have p307 : 0 ≤ (x50_4 : Int) := of_decide_eq_true (by first | (with_reducible assumption) | assumption)
                                          have q307 : x50_4 < (y303.length : Int) := of_decide_eq_true (by first | (with_reducible assumption) | assumption)
                                          obtain ⟨ad307, e307, hx307_0, hx307_1, hx307_2, hx307_3, hx307_4, hx307_5, hx307_6, hx307_7⟩ := at_T26 HR306.out x50_4 p307 q307
                                          cases e307
                                          replace hx307_0 := (HB.out.cell (World.block_lt_of_cell? w _ hx307_0)).trans hx307_0
                                          replace hx307_1 := (HB.out.cell (World.block_lt_of_cell? w _ hx307_1)).trans hx307_1
                                          replace hx307_2 := (HB.out.cell (World.block_lt_of_cell? w _ hx307_2)).trans hx307_2
                                          replace hx307_3 := (HB.out.cell (World.block_lt_of_cell? w _ hx307_3)).trans hx307_3
                                          replace hx307_4 := (HB.out.cell (World.block_lt_of_cell? w _ hx307_4)).trans hx307_4
                                          replace hx307_5 := (HB.out.cell (World.block_lt_of_cell? w _ hx307_5)).trans hx307_5
                                          replace hx307_6 := (HB.out.cell (World.block_lt_of_cell? w _ hx307_6)).trans hx307_6
                                          replace hx307_7 := (HB.out.cell (World.block_lt_of_cell? w _ hx307_7)).trans hx307_7
                                          replace p307 := eq_true p307
                                          replace q307 := eq_true q307
                                          go_wp2_with (first | ((with_reducible refine gate_dst (N := 6) rfl ?_); refine box_event ?hg (N := 6) ?hd (cs := #[.int .i64 0, .int .i64 0, .int .i64 0, .int .i64 0, .int .i64 0, .int .i64 0, .int .u64 0, .int .i64 0]) (t := 26) ?hr ?_; (case hd => rfl); (case hg => rfl); (case hr => first | (go_simp; done) | (go_simp; rfl)); intro gb308 hg w39 hbox hb; have n0_ := Aside0.mk (below_step (by repeat (first | (with_reducible first | exact HB.out | apply below_alloc | apply pw_below_drewN | apply below_drew1) | exact HB.out)) hb); have n1_ := Aside0.mk (hbox); have n2_ := Aside0.mk ((by rw [hg]; exact (below_size (by repeat (first | (with_reducible first | exact HB.out | apply below_alloc | apply pw_below_drewN | apply below_drew1) | exact HB.out))) : w.heap.size ≤ gb308)); have n3_ := Aside0.mk ((by rw [hg]; exact (below_size (by repeat (first | (with_reducible first | exact HB.out | apply below_alloc | apply pw_below_drewN | apply below_drew1) | exact HB.out))) : w.heap.size ≤ gb308)); clear HB; have HB := n0_; have BK308 := n1_; have GW308 := n2_; have GE308 := n3_; clear n0_ n1_ n2_ n3_; clear hb hbox hg; have hcz40_0 : w39.cell? ⟨gb308, 0, none⟩ = some (.int .i64 0) := (blk_cell BK308.out 0).trans rfl; have hcz40_1 : w39.cell? ⟨gb308, 1, none⟩ = some (.int .i64 0) := (blk_cell BK308.out 1).trans rfl; have hcz40_2 : w39.cell? ⟨gb308, 2, none⟩ = some (.int .i64 0) := (blk_cell BK308.out 2).trans rfl; have hcz40_3 : w39.cell? ⟨gb308, 3, none⟩ = some (.int .i64 0) := (blk_cell BK308.out 3).trans rfl; have hcz40_4 : w39.cell? ⟨gb308, 4, none⟩ = some (.int .i64 0) := (blk_cell BK308.out 4).trans rfl; have hcz40_5 : w39.cell? ⟨gb308, 5, none⟩ = some (.int .i64 0) := (blk_cell BK308.out 5).trans rfl; have hcz40_6 : w39.cell? ⟨gb308, 6, none⟩ = some (.int .u64 0) := (blk_cell BK308.out 6).trans rfl; have hcz40_7 : w39.cell? ⟨gb308, 7, none⟩ = some (.int .i64 0) := (blk_cell BK308.out 7).trans rfl; have hfz40_0 := blk_frozen BK308.out 0; have hfz40_1 := blk_frozen BK308.out 1; have hfz40_2 := blk_frozen BK308.out 2; have hfz40_3 := blk_frozen BK308.out 3; have hfz40_4 := blk_frozen BK308.out 4; have hfz40_5 := blk_frozen BK308.out 5; have hfz40_6 := blk_frozen BK308.out 6; have hfz40_7 := blk_frozen BK308.out 7) | ((with_reducible refine gate_callee (f := 10) rfl ?_); refine goesL_ (some 56) rfl rfl Tryd.func10 (by kernel_rfl) rfl #[.agg #[.int .i64 ((rd_T26 y303 x50_4).f0), .int .i64 ((rd_T26 y303 x50_4).f1), .int .i64 ((rd_T26 y303 x50_4).f2), .int .i64 ((rd_T26 y303 x50_4).f3), .int .i64 ((rd_T26 y303 x50_4).f4), .int .i64 ((rd_T26 y303 x50_4).f5), .int .u64 ((rd_T26 y303 x50_4).f6), .int .i64 ((rd_T26 y303 x50_4).f7)]] rfl (by (try simp only [List.map_toArray, List.map_cons, List.map_nil]); first | done | rfl | (simp only [List.length_drop, List.length_take]; rfl)) ?_; (with_reducible refine (code_Jumps.calls ((rd_T26 y303 x50_4).f0) ((rd_T26 y303 x50_4).f1) ((rd_T26 y303 x50_4).f2) ((rd_T26 y303 x50_4).f3) ((rd_T26 y303 x50_4).f4) ((rd_T26 y303 x50_4).f5) ((rd_T26 y303 x50_4).f6) ((rd_T26 y303 x50_4).f7) true t310 _ A32.out).mono ?_); rintro e w41 ⟨rfl, hb⟩; refine ⟨_, rfl, ?_⟩; have n0_ := Aside0.mk (blk_below (g := gb308) (o := .cells #[.int .i64 ((rd_T26 y303 x50_4).f0), .int .i64 ((rd_T26 y303 x50_4).f1), .int .i64 ((rd_T26 y303 x50_4).f2), .int .i64 ((rd_T26 y303 x50_4).f3), .int .i64 ((rd_T26 y303 x50_4).f4), .int .i64 ((rd_T26 y303 x50_4).f5), .int .u64 ((rd_T26 y303 x50_4).f6), .int .i64 ((rd_T26 y303 x50_4).f7)] 26 (0, 0)) (by (with_reducible repeat (first | refine blk_drewN ?_ _ | refine blk_drew ?_ | refine blk_alloc ?_ _)); refine blk_put (cs := #[.int .i64 ((rd_T26 y303 x50_4).f0), .int .i64 ((rd_T26 y303 x50_4).f1), .int .i64 ((rd_T26 y303 x50_4).f2), .int .i64 ((rd_T26 y303 x50_4).f3), .int .i64 ((rd_T26 y303 x50_4).f4), .int .i64 ((rd_T26 y303 x50_4).f5), .int .u64 ((rd_T26 y303 x50_4).f6), .int .i64 0]) ?_ 7 _ rfl; (with_reducible repeat (first | refine blk_drewN ?_ _ | refine blk_drew ?_ | refine blk_alloc ?_ _)); refine blk_put (cs := #[.int .i64 ((rd_T26 y303 x50_4).f0), .int .i64 ((rd_T26 y303 x50_4).f1), .int .i64 ((rd_T26 y303 x50_4).f2), .int .i64 ((rd_T26 y303 x50_4).f3), .int .i64 ((rd_T26 y303 x50_4).f4), .int .i64 ((rd_T26 y303 x50_4).f5), .int .u64 0, .int .i64 0]) ?_ 6 _ rfl; (with_reducible repeat (first | refine blk_drewN ?_ _ | refine blk_drew ?_ | refine blk_alloc ?_ _)); refine blk_put (cs := #[.int .i64 ((rd_T26 y303 x50_4).f0), .int .i64 ((rd_T26 y303 x50_4).f1), .int .i64 ((rd_T26 y303 x50_4).f2), .int .i64 ((rd_T26 y303 x50_4).f3), .int .i64 ((rd_T26 y303 x50_4).f4), .int .i64 0, .int .u64 0, .int .i64 0]) ?_ 5 _ rfl; (with_reducible repeat (first | refine blk_drewN ?_ _ | refine blk_drew ?_ | refine blk_alloc ?_ _)); refine blk_put (cs := #[.int .i64 ((rd_T26 y303 x50_4).f0), .int .i64 ((rd_T26 y303 x50_4).f1), .int .i64 ((rd_T26 y303 x50_4).f2), .int .i64 ((rd_T26 y303 x50_4).f3), .int .i64 0, .int .i64 0, .int .u64 0, .int .i64 0]) ?_ 4 _ rfl; (with_reducible repeat (first | refine blk_drewN ?_ _ | refine blk_drew ?_ | refine blk_alloc ?_ _)); refine blk_put (cs := #[.int .i64 ((rd_T26 y303 x50_4).f0), .int .i64 ((rd_T26 y303 x50_4).f1), .int .i64 ((rd_T26 y303 x50_4).f2), .int .i64 0, .int .i64 0, .int .i64 0, .int .u64 0, .int .i64 0]) ?_ 3 _ rfl; (with_reducible repeat (first | refine blk_drewN ?_ _ | refine blk_drew ?_ | refine blk_alloc ?_ _)); refine blk_put (cs := #[.int .i64 ((rd_T26 y303 x50_4).f0), .int .i64 ((rd_T26 y303 x50_4).f1), .int .i64 0, .int .i64 0, .int .i64 0, .int .i64 0, .int .u64 0, .int .i64 0]) ?_ 2 _ rfl; (with_reducible repeat (first | refine blk_drewN ?_ _ | refine blk_drew ?_ | refine blk_alloc ?_ _)); refine blk_put (cs := #[.int .i64 ((rd_T26 y303 x50_4).f0), .int .i64 0, .int .i64 0, .int .i64 0, .int .i64 0, .int .i64 0, .int .u64 0, .int .i64 0]) ?_ 1 _ rfl; (with_reducible repeat (first | refine blk_drewN ?_ _ | refine blk_drew ?_ | refine blk_alloc ?_ _)); refine blk_put (cs := #[.int .i64 0, .int .i64 0, .int .i64 0, .int .i64 0, .int .i64 0, .int .i64 0, .int .u64 0, .int .i64 0]) ?_ 0 _ rfl; (with_reducible repeat (first | refine blk_drewN ?_ _ | refine blk_drew ?_ | refine blk_alloc ?_ _)); exact BK308.out) hb); have n1_ := Aside0.mk (below_step (by repeat (first | (with_reducible first | exact HB.out | apply below_alloc | apply pw_below_drewN | apply below_drew1 | refine below_set ?_ GE308.out) | exact HB.out)) hb); clear BK308; clear HB; have BK308 := n0_; have HB := n1_; clear n0_ n1_; (try clear hb); (try clear hb2); (try clear hk); (try clear hi); have hcz42_0 : w41.cell? ⟨gb308, 0, none⟩ = some (.int .i64 ((rd_T26 y303 x50_4).f0)) := (blk_cell BK308.out 0).trans rfl; have hcz42_1 : w41.cell? ⟨gb308, 1, none⟩ = some (.int .i64 ((rd_T26 y303 x50_4).f1)) := (blk_cell BK308.out 1).trans rfl; have hcz42_2 : w41.cell? ⟨gb308, 2, none⟩ = some (.int .i64 ((rd_T26 y303 x50_4).f2)) := (blk_cell BK308.out 2).trans rfl; have hcz42_3 : w41.cell? ⟨gb308, 3, none⟩ = some (.int .i64 ((rd_T26 y303 x50_4).f3)) := (blk_cell BK308.out 3).trans rfl; have hcz42_4 : w41.cell? ⟨gb308, 4, none⟩ = some (.int .i64 ((rd_T26 y303 x50_4).f4)) := (blk_cell BK308.out 4).trans rfl; have hcz42_5 : w41.cell? ⟨gb308, 5, none⟩ = some (.int .i64 ((rd_T26 y303 x50_4).f5)) := (blk_cell BK308.out 5).trans rfl; have hcz42_6 : w41.cell? ⟨gb308, 6, none⟩ = some (.int .u64 ((rd_T26 y303 x50_4).f6)) := (blk_cell BK308.out 6).trans rfl; have hcz42_7 : w41.cell? ⟨gb308, 7, none⟩ = some (.int .i64 ((rd_T26 y303 x50_4).f7)) := (blk_cell BK308.out 7).trans rfl; have hfz42_0 := blk_frozen BK308.out 0; have hfz42_1 := blk_frozen BK308.out 1; have hfz42_2 := blk_frozen BK308.out 2; have hfz42_3 := blk_frozen BK308.out 3; have hfz42_4 := blk_frozen BK308.out 4; have hfz42_5 := blk_frozen BK308.out 5; have hfz42_6 := blk_frozen BK308.out 6; have hfz42_7 := blk_frozen BK308.out 7))
                                          go_roundg k4
                                          case measure => have := HJ5.out; have := HK2.out; have := HJ20.out; have := HK4.out; omega
                                          case rel => exact ⟨(x4_4), (wrap64 (x50_4 + 1)), (by first | rfl | (simp; done) | (simp [*]; done)), (by first | rfl | (simp; done) | (simp [*]; done)), H', ⟨by have := HJ5.out; have := HK2.out; have := HJ20.out; have := HK4.out; omega⟩, ⟨by repeat (first | (with_reducible first | exact HB.out | apply below_alloc | apply pw_below_drewN | apply below_drew1 | refine below_set ?_ GE308.out) | exact HB.out)⟩⟩
                                      · replace c33 := Bool.eq_false_iff.mpr c33
                                        subst c33
                                        have H1 : (tautochronelaw12_CodeEnds.l1 k4 l0 x3_2 x4_4 y303 (y303.length : Int) (wrap64 (x50_4 + 1))) = some r := by rw [if_neg (show ¬ (false = true) by decide)] at H; exact H
                                        clear H
                                        have H := H1
                                        clear H1
                                        have H' := Aside0.mk H
                                        clear H
                                        have p307 : 0 ≤ (x50_4 : Int) := of_decide_eq_true (by first | (with_reducible assumption) | assumption)
                                        have q307 : x50_4 < (y303.length : Int) := of_decide_eq_true (by first | (with_reducible assumption) | assumption)
                                        obtain ⟨ad307, e307, hx307_0, hx307_1, hx307_2, hx307_3, hx307_4, hx307_5, hx307_6, hx307_7⟩ := at_T26 HR306.out x50_4 p307 q307
                                        cases e307
                                        replace hx307_0 := (HB.out.cell (World.block_lt_of_cell? w _ hx307_0)).trans hx307_0
                                        replace hx307_1 := (HB.out.cell (World.block_lt_of_cell? w _ hx307_1)).trans hx307_1
                                        replace hx307_2 := (HB.out.cell (World.block_lt_of_cell? w _ hx307_2)).trans hx307_2
                                        replace hx307_3 := (HB.out.cell (World.block_lt_of_cell? w _ hx307_3)).trans hx307_3
                                        replace hx307_4 := (HB.out.cell (World.block_lt_of_cell? w _ hx307_4)).trans hx307_4
                                        replace hx307_5 := (HB.out.cell (World.block_lt_of_cell? w _ hx307_5)).trans hx307_5
                                        replace hx307_6 := (HB.out.cell (World.block_lt_of_cell? w _ hx307_6)).trans hx307_6
                                        replace hx307_7 := (HB.out.cell (World.block_lt_of_cell? w _ hx307_7)).trans hx307_7
                                        replace p307 := eq_true p307
                                        replace q307 := eq_true q307
                                        go_wp2_with (first | ((with_reducible refine gate_dst (N := 6) rfl ?_); refine box_event ?hg (N := 6) ?hd (cs := #[.int .i64 0, .int .i64 0, .int .i64 0, .int .i64 0, .int .i64 0, .int .i64 0, .int .u64 0, .int .i64 0]) (t := 26) ?hr ?_; (case hd => rfl); (case hg => rfl); (case hr => first | (go_simp; done) | (go_simp; rfl)); intro gb308 hg w43 hbox hb; have n0_ := Aside0.mk (below_step (by repeat (first | (with_reducible first | exact HB.out | apply below_alloc | apply pw_below_drewN | apply below_drew1) | exact HB.out)) hb); have n1_ := Aside0.mk (hbox); have n2_ := Aside0.mk ((by rw [hg]; exact (below_size (by repeat (first | (with_reducible first | exact HB.out | apply below_alloc | apply pw_below_drewN | apply below_drew1) | exact HB.out))) : w.heap.size ≤ gb308)); have n3_ := Aside0.mk ((by rw [hg]; exact (below_size (by repeat (first | (with_reducible first | exact HB.out | apply below_alloc | apply pw_below_drewN | apply below_drew1) | exact HB.out))) : w.heap.size ≤ gb308)); clear HB; have HB := n0_; have BK308 := n1_; have GW308 := n2_; have GE308 := n3_; clear n0_ n1_ n2_ n3_; clear hb hbox hg; have hcz44_0 : w43.cell? ⟨gb308, 0, none⟩ = some (.int .i64 0) := (blk_cell BK308.out 0).trans rfl; have hcz44_1 : w43.cell? ⟨gb308, 1, none⟩ = some (.int .i64 0) := (blk_cell BK308.out 1).trans rfl; have hcz44_2 : w43.cell? ⟨gb308, 2, none⟩ = some (.int .i64 0) := (blk_cell BK308.out 2).trans rfl; have hcz44_3 : w43.cell? ⟨gb308, 3, none⟩ = some (.int .i64 0) := (blk_cell BK308.out 3).trans rfl; have hcz44_4 : w43.cell? ⟨gb308, 4, none⟩ = some (.int .i64 0) := (blk_cell BK308.out 4).trans rfl; have hcz44_5 : w43.cell? ⟨gb308, 5, none⟩ = some (.int .i64 0) := (blk_cell BK308.out 5).trans rfl; have hcz44_6 : w43.cell? ⟨gb308, 6, none⟩ = some (.int .u64 0) := (blk_cell BK308.out 6).trans rfl; have hcz44_7 : w43.cell? ⟨gb308, 7, none⟩ = some (.int .i64 0) := (blk_cell BK308.out 7).trans rfl; have hfz44_0 := blk_frozen BK308.out 0; have hfz44_1 := blk_frozen BK308.out 1; have hfz44_2 := blk_frozen BK308.out 2; have hfz44_3 := blk_frozen BK308.out 3; have hfz44_4 := blk_frozen BK308.out 4; have hfz44_5 := blk_frozen BK308.out 5; have hfz44_6 := blk_frozen BK308.out 6; have hfz44_7 := blk_frozen BK308.out 7) | ((with_reducible refine gate_callee (f := 10) rfl ?_); refine goesL_ (some 56) rfl rfl Tryd.func10 (by kernel_rfl) rfl #[.agg #[.int .i64 ((rd_T26 y303 x50_4).f0), .int .i64 ((rd_T26 y303 x50_4).f1), .int .i64 ((rd_T26 y303 x50_4).f2), .int .i64 ((rd_T26 y303 x50_4).f3), .int .i64 ((rd_T26 y303 x50_4).f4), .int .i64 ((rd_T26 y303 x50_4).f5), .int .u64 ((rd_T26 y303 x50_4).f6), .int .i64 ((rd_T26 y303 x50_4).f7)]] rfl (by (try simp only [List.map_toArray, List.map_cons, List.map_nil]); first | done | rfl | (simp only [List.length_drop, List.length_take]; rfl)) ?_; (with_reducible refine (code_Jumps.calls ((rd_T26 y303 x50_4).f0) ((rd_T26 y303 x50_4).f1) ((rd_T26 y303 x50_4).f2) ((rd_T26 y303 x50_4).f3) ((rd_T26 y303 x50_4).f4) ((rd_T26 y303 x50_4).f5) ((rd_T26 y303 x50_4).f6) ((rd_T26 y303 x50_4).f7) false t310 _ A32.out).mono ?_); rintro e w45 ⟨rfl, hb⟩; refine ⟨_, rfl, ?_⟩; have n0_ := Aside0.mk (blk_below (g := gb308) (o := .cells #[.int .i64 ((rd_T26 y303 x50_4).f0), .int .i64 ((rd_T26 y303 x50_4).f1), .int .i64 ((rd_T26 y303 x50_4).f2), .int .i64 ((rd_T26 y303 x50_4).f3), .int .i64 ((rd_T26 y303 x50_4).f4), .int .i64 ((rd_T26 y303 x50_4).f5), .int .u64 ((rd_T26 y303 x50_4).f6), .int .i64 ((rd_T26 y303 x50_4).f7)] 26 (0, 0)) (by (with_reducible repeat (first | refine blk_drewN ?_ _ | refine blk_drew ?_ | refine blk_alloc ?_ _)); refine blk_put (cs := #[.int .i64 ((rd_T26 y303 x50_4).f0), .int .i64 ((rd_T26 y303 x50_4).f1), .int .i64 ((rd_T26 y303 x50_4).f2), .int .i64 ((rd_T26 y303 x50_4).f3), .int .i64 ((rd_T26 y303 x50_4).f4), .int .i64 ((rd_T26 y303 x50_4).f5), .int .u64 ((rd_T26 y303 x50_4).f6), .int .i64 0]) ?_ 7 _ rfl; (with_reducible repeat (first | refine blk_drewN ?_ _ | refine blk_drew ?_ | refine blk_alloc ?_ _)); refine blk_put (cs := #[.int .i64 ((rd_T26 y303 x50_4).f0), .int .i64 ((rd_T26 y303 x50_4).f1), .int .i64 ((rd_T26 y303 x50_4).f2), .int .i64 ((rd_T26 y303 x50_4).f3), .int .i64 ((rd_T26 y303 x50_4).f4), .int .i64 ((rd_T26 y303 x50_4).f5), .int .u64 0, .int .i64 0]) ?_ 6 _ rfl; (with_reducible repeat (first | refine blk_drewN ?_ _ | refine blk_drew ?_ | refine blk_alloc ?_ _)); refine blk_put (cs := #[.int .i64 ((rd_T26 y303 x50_4).f0), .int .i64 ((rd_T26 y303 x50_4).f1), .int .i64 ((rd_T26 y303 x50_4).f2), .int .i64 ((rd_T26 y303 x50_4).f3), .int .i64 ((rd_T26 y303 x50_4).f4), .int .i64 0, .int .u64 0, .int .i64 0]) ?_ 5 _ rfl; (with_reducible repeat (first | refine blk_drewN ?_ _ | refine blk_drew ?_ | refine blk_alloc ?_ _)); refine blk_put (cs := #[.int .i64 ((rd_T26 y303 x50_4).f0), .int .i64 ((rd_T26 y303 x50_4).f1), .int .i64 ((rd_T26 y303 x50_4).f2), .int .i64 ((rd_T26 y303 x50_4).f3), .int .i64 0, .int .i64 0, .int .u64 0, .int .i64 0]) ?_ 4 _ rfl; (with_reducible repeat (first | refine blk_drewN ?_ _ | refine blk_drew ?_ | refine blk_alloc ?_ _)); refine blk_put (cs := #[.int .i64 ((rd_T26 y303 x50_4).f0), .int .i64 ((rd_T26 y303 x50_4).f1), .int .i64 ((rd_T26 y303 x50_4).f2), .int .i64 0, .int .i64 0, .int .i64 0, .int .u64 0, .int .i64 0]) ?_ 3 _ rfl; (with_reducible repeat (first | refine blk_drewN ?_ _ | refine blk_drew ?_ | refine blk_alloc ?_ _)); refine blk_put (cs := #[.int .i64 ((rd_T26 y303 x50_4).f0), .int .i64 ((rd_T26 y303 x50_4).f1), .int .i64 0, .int .i64 0, .int .i64 0, .int .i64 0, .int .u64 0, .int .i64 0]) ?_ 2 _ rfl; (with_reducible repeat (first | refine blk_drewN ?_ _ | refine blk_drew ?_ | refine blk_alloc ?_ _)); refine blk_put (cs := #[.int .i64 ((rd_T26 y303 x50_4).f0), .int .i64 0, .int .i64 0, .int .i64 0, .int .i64 0, .int .i64 0, .int .u64 0, .int .i64 0]) ?_ 1 _ rfl; (with_reducible repeat (first | refine blk_drewN ?_ _ | refine blk_drew ?_ | refine blk_alloc ?_ _)); refine blk_put (cs := #[.int .i64 0, .int .i64 0, .int .i64 0, .int .i64 0, .int .i64 0, .int .i64 0, .int .u64 0, .int .i64 0]) ?_ 0 _ rfl; (with_reducible repeat (first | refine blk_drewN ?_ _ | refine blk_drew ?_ | refine blk_alloc ?_ _)); exact BK308.out) hb); have n1_ := Aside0.mk (below_step (by repeat (first | (with_reducible first | exact HB.out | apply below_alloc | apply pw_below_drewN | apply below_drew1 | refine below_set ?_ GE308.out) | exact HB.out)) hb); clear BK308; clear HB; have BK308 := n0_; have HB := n1_; clear n0_ n1_; (try clear hb); (try clear hb2); (try clear hk); (try clear hi)))
                                        go_roundg k4
                                        case measure => have := HJ5.out; have := HK2.out; have := HJ20.out; have := HK4.out; omega
                                        case rel => exact ⟨(x4_4), (wrap64 (x50_4 + 1)), (by first | rfl | (simp; done) | (simp [*]; done)), (by first | rfl | (simp; done) | (simp [*]; done)), H', ⟨by have := HJ5.out; have := HK2.out; have := HJ20.out; have := HK4.out; omega⟩, ⟨by repeat (first | (with_reducible first | exact HB.out | apply below_alloc | apply pw_below_drewN | apply below_drew1 | refine below_set ?_ GE308.out) | exact HB.out)⟩⟩
                                    · rw [if_neg c31] at H
                                      exact absurd H (by simp)
                                  · rw [if_neg c30] at H
                                    exact absurd H (by simp)
                                · rw [if_neg c29] at H
                                  have c29b0 : decide (x50_4 < (y303.length : Int)) = false := decide_eq_false c29
                                  clear c29
                                  by_cases c46 : 0 ≤ x3_2
                                  · rw [if_pos c46] at H
                                    have c46b0 := eq_true c46
                                    have c46b1 : decide (0 ≤ x3_2) = true := decide_eq_true c46
                                    clear c46
                                    by_cases c47 : x3_2 ≤ (l0.length : Int)
                                    · rw [if_pos c47] at H
                                      have c47b0 := eq_true c47
                                      have c47b1 : decide (x3_2 ≤ (l0.length : Int)) = true := decide_eq_true c47
                                      clear c47
                                      obtain ⟨y311, hy311⟩ : ∃ y_ : List (S26), y_ = (l0.take (x3_2 : Int).toNat) := ⟨_, rfl⟩
                                      replace H : ((code_Good.f k4 y311).bind fun t315 => (if (t315 != x4_4) = true then (some false) else (tautochronelaw12_CodeEnds.l0 k4 l0 (wrap64 (x3_2 + 1))))) = some r := by first | (rw [hy311]; with_reducible exact H) | (have H2_ := (Option.bind_some _ _).symm.trans H; rw [hy311]; with_reducible exact H2_) | (have H2_ := (Option.bind_some _ _).symm.trans H; with_reducible exact H2_) | with_reducible exact H | (rw [hy311]; exact H) | exact H
                                      have Ny311 := Aside0.mk hy311
                                      clear hy311
                                      replace H := Option.bind_eq_some_iff.mp H
                                      obtain ⟨t315, A480, H⟩ := H
                                      replace H : (if (t315 != x4_4) = true then (some false) else (tautochronelaw12_CodeEnds.l0 k4 l0 (wrap64 (x3_2 + 1)))) = some r := H
                                      have A48 := Aside0.mk A480
                                      clear A480
                                      by_cases c49 : (t315 != x4_4) = true
                                      · rw [if_pos c49] at H
                                        have c49b0 : (t315 != x4_4) = true := c49
                                        (try (have c49b1 : decide (t315 = x4_4) = false := by simpa using c49))
                                        (try (have c49b2 : (t315 == x4_4) = false := by simpa using c49))
                                        (try (have c49b3 : ¬ (t315 = x4_4) := by simpa using c49))
                                        clear c49
                                        obtain rfl := Option.some.inj H
                                        have q50 : (x3_2 : Int) ≤ ((l0.length : Int) : Int) := of_decide_eq_true (by first | (with_reducible assumption) | assumption)
                                        obtain ⟨i050, hi050, _, hsz50, _⟩ := info_parts info26
                                        have hroom50 : l0.length ≤ c0 := HC0.out
                                        have hC50 : Kd.C k26 _ A0 l0.length l0 := HR0.out
                                        have hcut50 := cut_to (P := Tryd.prog) 41 26 .i64 Tryd.underlying41 hi050 A0 l0.length c0 x3_2 (of_decide_eq_true (by first | (with_reducible assumption) | assumption)) q50 hroom50
                                        have hr50 := Kd.C_take (m := (x3_2 : Int).toNat) hC50 (by omega)
                                        have hy50 : y311.length = (x3_2 : Int).toNat := (by rw [Ny311.out, List.length_take]; omega)
                                        rw [← Ny311.out] at hr50
                                        rw [← hy50] at hcut50
                                        have HR314 := Aside0.mk hr50
                                        have HC314 := Aside0.mk (show y311.length ≤ c0 from by omega)
                                        clear hr50 hC50 hroom50 hi050 hsz50
                                        have KY50 := Aside0.mk hy50
                                        clear hy50
                                        replace q50 := eq_true q50
                                        have ey_ : y311 = y303 := Ny311.out.trans Ny303.out.symm
                                        subst ey_
                                        go_wp2_with (first | ((with_reducible refine gate_callee (f := 19) rfl ?_); refine goesL_ (some 70) rfl rfl Tryd.func19 (by kernel_rfl) rfl #[.slice A0 y311.length c0] rfl (by (try simp only [List.map_toArray, List.map_cons, List.map_nil]); first | done | rfl | (simp only [List.length_drop, List.length_take]; rfl)) ?_; (with_reducible refine (code_Good.calls k4 _ _ y311 t315 _ ?side1 ?side2 A48.out).mono ?_); (case side1 => repeat (first | exact (Kd.C_below HR314.out HB.out) | (with_reducible refine Kd.C_alloc ?_ _) | (with_reducible refine Kd.C_drewN ?_ _) | (with_reducible refine Kd.C_drew ?_))); (case side2 => exact HC314.out); rintro e w51 ⟨rfl, hb⟩; refine ⟨_, rfl, ?_⟩; have n0_ := Aside0.mk (below_step (by repeat (first | (with_reducible first | exact HB.out | apply below_alloc | apply pw_below_drewN | apply below_drew1) | exact HB.out)) hb); clear HB; have HB := n0_; clear n0_; (try clear hb); (try clear hb2); (try clear hk); (try clear hi)))
                                        go_ret
                                        exact ⟨by first | rfl | (simp [errW_none, errW_some] <;> rfl) | (simp [*, errW_none, errW_some] <;> rfl), by repeat (first | (with_reducible first | exact HB.out | apply below_alloc | apply pw_below_drewN | apply below_drew1) | exact HB.out)⟩
                                      · rw [if_neg c49] at H
                                        have c49b0 : (t315 != x4_4) = false := by simpa using c49
                                        (try (have c49b1 : decide (t315 = x4_4) = true := by simpa using c49))
                                        (try (have c49b2 : (t315 == x4_4) = true := by simpa using c49))
                                        clear c49
                                        have H' := Aside0.mk H
                                        clear H
                                        have q52 : (x3_2 : Int) ≤ ((l0.length : Int) : Int) := of_decide_eq_true (by first | (with_reducible assumption) | assumption)
                                        obtain ⟨i052, hi052, _, hsz52, _⟩ := info_parts info26
                                        have hroom52 : l0.length ≤ c0 := HC0.out
                                        have hC52 : Kd.C k26 _ A0 l0.length l0 := HR0.out
                                        have hcut52 := cut_to (P := Tryd.prog) 41 26 .i64 Tryd.underlying41 hi052 A0 l0.length c0 x3_2 (of_decide_eq_true (by first | (with_reducible assumption) | assumption)) q52 hroom52
                                        have hr52 := Kd.C_take (m := (x3_2 : Int).toNat) hC52 (by omega)
                                        have hy52 : y311.length = (x3_2 : Int).toNat := (by rw [Ny311.out, List.length_take]; omega)
                                        rw [← Ny311.out] at hr52
                                        rw [← hy52] at hcut52
                                        have HR314 := Aside0.mk hr52
                                        have HC314 := Aside0.mk (show y311.length ≤ c0 from by omega)
                                        clear hr52 hC52 hroom52 hi052 hsz52
                                        have KY52 := Aside0.mk hy52
                                        clear hy52
                                        replace q52 := eq_true q52
                                        have ey_ : y311 = y303 := Ny311.out.trans Ny303.out.symm
                                        subst ey_
                                        go_wp2_with (first | ((with_reducible refine gate_callee (f := 19) rfl ?_); refine goesL_ (some 70) rfl rfl Tryd.func19 (by kernel_rfl) rfl #[.slice A0 y311.length c0] rfl (by (try simp only [List.map_toArray, List.map_cons, List.map_nil]); first | done | rfl | (simp only [List.length_drop, List.length_take]; rfl)) ?_; (with_reducible refine (code_Good.calls k4 _ _ y311 t315 _ ?side1 ?side2 A48.out).mono ?_); (case side1 => repeat (first | exact (Kd.C_below HR314.out HB.out) | (with_reducible refine Kd.C_alloc ?_ _) | (with_reducible refine Kd.C_drewN ?_ _) | (with_reducible refine Kd.C_drew ?_))); (case side2 => exact HC314.out); rintro e w53 ⟨rfl, hb⟩; refine ⟨_, rfl, ?_⟩; have n0_ := Aside0.mk (below_step (by repeat (first | (with_reducible first | exact HB.out | apply below_alloc | apply pw_below_drewN | apply below_drew1) | exact HB.out)) hb); clear HB; have HB := n0_; clear n0_; (try clear hb); (try clear hb2); (try clear hk); (try clear hi)))
                                        go_roundg k4
                                        case measure => have := HJ5.out; have := HK2.out; have := HJ20.out; have := HK4.out; omega
                                        case rel => exact ⟨(wrap64 (x3_2 + 1)), (by first | rfl | (simp; done) | (simp [*]; done)), H', ⟨by have := HJ5.out; have := HK2.out; have := HJ20.out; have := HK4.out; omega⟩, ⟨by repeat (first | (with_reducible first | exact HB.out | apply below_alloc | apply pw_below_drewN | apply below_drew1) | exact HB.out)⟩⟩
                                    · rw [if_neg c47] at H
                                      exact absurd H (by simp)
                                  · rw [if_neg c46] at H
                                    exact absurd H (by simp)
                          · rw [if_neg c27] at H
                            exact absurd H (by simp)
                        · rw [if_neg c26] at H
                          exact absurd H (by simp)
                  · rw [if_neg c20] at H
                    have c20b0 : decide (x3_2 < (l0.length : Int)) = false := decide_eq_false c20
                    clear c20
                    obtain rfl := Option.some.inj H
                    go_wp2
                    go_ret
                    exact ⟨by first | rfl | (simp [errW_none, errW_some] <;> rfl) | (simp [*, errW_none, errW_some] <;> rfl), by repeat (first | (with_reducible first | exact HB.out | apply below_alloc | apply pw_below_drewN | apply below_drew1) | exact HB.out)⟩
            · replace c18 := Bool.eq_false_iff.mpr c18
              subst c18
              have H1 : (some true) = some r := by rw [if_neg (show ¬ (false = true) by decide)] at H; exact H
              clear H
              have H := H1
              clear H1
              obtain rfl := Option.some.inj H
              go_wp2_with (first | ((with_reducible refine gate_callee (f := 19) rfl ?_); refine goesL_ (some 22) rfl rfl Tryd.func19 (by kernel_rfl) rfl #[.slice A0 l0.length c0] rfl (by (try simp only [List.map_toArray, List.map_cons, List.map_nil]); first | done | rfl | (simp only [List.length_drop, List.length_take]; rfl)) ?_; (with_reducible refine (code_Good.calls kj5 _ _ l0 false _ ?side1 ?side2 A17.out).mono ?_); (case side1 => repeat (first | exact (Kd.C_below HR0.out HB.out) | (with_reducible refine Kd.C_alloc ?_ _) | (with_reducible refine Kd.C_drewN ?_ _) | (with_reducible refine Kd.C_drew ?_))); (case side2 => exact HC0.out); rintro e w54 ⟨rfl, hb⟩; refine ⟨_, rfl, ?_⟩; have n0_ := Aside0.mk (below_step (by repeat (first | (with_reducible first | exact HB.out | apply below_alloc | apply pw_below_drewN | apply below_drew1) | exact HB.out)) hb); clear HB; have HB := n0_; clear n0_; (try clear hb); (try clear hb2); (try clear hk); (try clear hi)))
              go_ret
              exact ⟨by first | rfl | (simp [errW_none, errW_some] <;> rfl) | (simp [*, errW_none, errW_some] <;> rfl), by repeat (first | (with_reducible first | exact HB.out | apply below_alloc | apply pw_below_drewN | apply below_drew1) | exact HB.out)⟩
  · replace c3 := Bool.eq_false_iff.mpr c3
    subst c3
    have H1 : (some false) = some r := by rw [if_neg (show ¬ (false = true) by decide)] at H; exact H
    clear H
    have H := H1
    clear H1
    obtain rfl := Option.some.inj H
    go_enter Tryd.func7, Tryd.ntmps7
    go_wp2_with (first | ((with_reducible refine gate_callee (f := 8) rfl ?_); refine goesL_ (some 9) rfl rfl Tryd.func8 (by kernel_rfl) rfl #[] rfl (by (try simp only [List.map_toArray, List.map_cons, List.map_nil]); first | done | rfl | (simp only [List.length_drop, List.length_take]; rfl)) ?_; (with_reducible refine (tautochronelaw12_awake.calls k  false _ A2.out).mono ?_); rintro e w55 ⟨rfl, hb⟩; refine ⟨_, rfl, ?_⟩; have n0_ := Aside0.mk (below_step (by repeat (first | (with_reducible first | exact HB.out | apply below_alloc | apply pw_below_drewN | apply below_drew1) | exact HB.out)) hb); clear HB; have HB := n0_; clear n0_; (try clear hb); (try clear hb2); (try clear hk); (try clear hi)))
    go_ret
    exact ⟨by first | rfl | (simp [errW_none, errW_some] <;> rfl) | (simp [*, errW_none, errW_some] <;> rfl), by repeat (first | (with_reducible first | exact HB.out | apply below_alloc | apply pw_below_drewN | apply below_drew1) | exact HB.out)⟩

-- NOT PRINTED: function 18 (tautochronelaw12_digits)

-- NOT PRINTED: function 16 (tautochronelaw12_number)

-- NOT PRINTED: function 4 (tautochronelaw12_CodeText)

end Go.Proofs.YtcgnbknbnbgcmaaDoor.PQ
