-- Written by a program of this session (wip/tools/extprint.py, pr.sh).
import Derived.Test.YtepgpapljoelhaaDoorPEx0
import Derived.Test.YtepgpapljoelhaaDoorPEx1
import Derived.Test.YtepgpapljoelhaaDoorPEx6
namespace Go.Proofs.YtepgpapljoelhaaDoor.PE
open Go.RowKit Go.Proofs.YtepgpapljoelhaaDoorW.PrintWords Go.Proofs.YtepgpapljoelhaaDoorW.PrintLast Go.Proofs.YtepgpapljoelhaaDoorW.PrintMore
attribute [local go_sem] max2_int min2_int max_two min_two max_three min_three max_four min_four   -- for this text's walks alone
set_option linter.unusedVariables false
set_option linter.unusedSimpArgs false

attribute [local go_sem high] eqA37
/-! ### tautochronelaw19_good: function 9 -/
def tautochronelaw19_good.l0 : Nat → List (S37) → Int → Int → Option ((List (S37)))
 | 0, _, _, _ => none
 | k + 1, x3, x8, x9 => if x9 < x8 then (if 0 ≤ x9 then (if x9 < (x3.length : Int) then (if (x3.length : Int) = 0 then (none) else (tautochronelaw19_good.l0 k (x3.set (x9 : Int).toNat (⟨(rd_T37 x3 x9).f0, (rd_T37 x3 x9).f1, (rd_T37 x3 x9).f2, (rd_T37 x3 x9).f3, (rd_T37 x3 x9).f4, (rd_T37 x3 x9).f5, (rd_T37 x3 x9).f6, Int.tmod ((rd_T37 x3 x9).f7) (x3.length : Int)⟩ : S37)) x8 (wrap64 (x9 + 1)))) else (none)) else (none)) else (some x3)
def tautochronelaw19_good.f (k : Nat) (l0 : List (S37)) : Option ((List (S37))) := (tautochronelaw13_Small.f k l0).bind fun t177 => (tautochronelaw19_good.l0 k t177 (t177.length : Int) 0)
theorem tautochronelaw19_good.mono_l : ∀ k, (∀ y0 y1 y2, LeO (tautochronelaw19_good.l0 k y0 y1 y2) (tautochronelaw19_good.l0 (k + 1) y0 y1 y2))
 | 0 => fun _ _ _ r h => by simp [tautochronelaw19_good.l0] at h
 | k + 1 => by
  have ih0 := tautochronelaw19_good.mono_l k
  ·intro y0 y1 y2
   unfold tautochronelaw19_good.l0
   repeat' first
   | (with_reducible exact ih0 _ _ _)
   | (with_reducible exact tautochronelaw13_Small.mono _ _)
   | (with_reducible exact LeO.refl _)
   | (with_reducible exact LeO.none _)
   | (with_reducible refine LeO.ite ?_ ?_)
   | (with_reducible refine LeO.bind ?_ (fun _ => ?_))
   | exact ih0 _ _ _
   | exact tautochronelaw13_Small.mono _ _
   | exact LeO.none _
   | refine LeO.ite ?_ ?_
   | refine LeO.bind ?_ (fun _ => ?_)
theorem tautochronelaw19_good.mono : ∀ a0 k, LeO (tautochronelaw19_good.f k a0) (tautochronelaw19_good.f (k + 1) a0) := by
 intro a0 k
 have ih0 := tautochronelaw19_good.mono_l k
 unfold tautochronelaw19_good.f
 repeat' first
   | (with_reducible exact ih0 _ _ _)
   | (with_reducible exact tautochronelaw13_Small.mono _ _)
   | (with_reducible exact LeO.refl _)
   | (with_reducible exact LeO.none _)
   | (with_reducible refine LeO.ite ?_ ?_)
   | (with_reducible refine LeO.bind ?_ (fun _ => ?_))
   | exact ih0 _ _ _
   | exact tautochronelaw13_Small.mono _ _
   | exact LeO.none _
   | refine LeO.ite ?_ ?_
   | refine LeO.bind ?_ (fun _ => ?_)
set_option maxHeartbeats 8000000 in
set_option maxRecDepth 100000 in
theorem tautochronelaw19_good.calls (k : Nat) (A0 : Option Addr) (c0 : Nat) (l0 : List (S37)) (r : List (S37)) (w : World) (hr0 : Kd.C k37 w A0 l0.length l0) (hc0 : l0.length ≤ c0) (h : tautochronelaw19_good.f k l0 = some r) :
  Calls Tryd.prog 9 #[.slice A0 l0.length c0] w fun e w' => ∃ v0_ : Value, e = .returned (v0_) ∧ Kd.R k37 37 w' w.heap.size (fun _ => True) v0_ r ∧ Below w.heap.size w w' := by
 have HR0 := Aside0.mk hr0
 have HC0 := Aside0.mk hc0
 clear hr0 hc0
 have HB := Aside0.mk (Below.refl w.heap.size w)
 have H : ((tautochronelaw13_Small.f k l0).bind fun t177 => (tautochronelaw19_good.l0 k t177 (t177.length : Int) 0)) = some r := h
 clear h
 replace H := Option.bind_eq_some_iff.mp H
 obtain ⟨t177, A20, H⟩ := H
 replace H : (tautochronelaw19_good.l0 k t177 (t177.length : Int) 0) = some r := H
 have A2 := Aside0.mk A20
 clear A20
 have H' := Aside0.mk H
 clear H
 go_enter Tryd.func9, Tryd.ntmps9
 go_wp2_with (first | ((with_reducible refine gate_callee (f := 23) rfl ?_); refine goesL_ (some 6) rfl rfl Tryd.func23 (by kernel_rfl) rfl #[.slice A0 l0.length c0] rfl (by (try simp only [List.map_toArray, List.map_cons, List.map_nil]); first | done | rfl | (simp only [List.length_drop, List.length_take]; rfl)) ?_; (with_reducible refine (tautochronelaw13_Small.calls k _ _ l0 t177 _ ?side1 ?side2 A2.out).mono ?_); (case side1 => repeat (first | exact HR0.out | (with_reducible refine Kd.C_alloc ?_ _) | (with_reducible refine Kd.C_drewN ?_ _) | (with_reducible refine Kd.C_drew ?_))); (case side2 => exact HC0.out); rintro e w3 ⟨v178, rfl, ho0, hb⟩; refine ⟨_, rfl, ?_⟩; have n0_ := Aside0.mk (Kd.R_lower ho0 (below_size (by repeat (first | (with_reducible first | exact HB.out | apply below_alloc | apply pw_below_drewN | apply below_drew1) | exact HB.out)))); have n1_ := Aside0.mk (below_step (by repeat (first | (with_reducible first | exact HB.out | apply below_alloc | apply pw_below_drewN | apply below_drew1) | exact HB.out)) hb); clear HB; have HO179 := n0_; have HB := n1_; clear n0_ n1_; (try clear hb); (try clear hb2); (try clear hk); (try clear hi); (try clear ho0); obtain ⟨Ao4, co4, eo4⟩ := Kd.R_slice HO179.out; subst eo4))
 go_loopg [9] k (fun kq v9 w' => ∃ (x3_1 : List (S37)) (x9_1 : Int), v9 = .int .i64 x9_1 ∧ Aside0 (tautochronelaw19_good.l0 kq x3_1 (t177.length : Int) x9_1 = some r) ∧ Aside0 (kq ≤ k) ∧ Aside0 (Kd.R k37 37 w' w.heap.size (fun _ => True) (.slice Ao4 t177.length co4) x3_1) ∧ Aside0 (Below w.heap.size w w'))
 case atStart => exact ⟨(t177), (0), (by first | rfl | (simp; done) | (simp [*]; done)), H', ⟨Nat.le_refl _⟩, ⟨by (with_reducible repeat (first | apply Kd.R_alloc | apply Kd.R_drewN | apply Kd.R_drew)); exact HO179.out⟩, ⟨by repeat (first | (with_reducible first | exact HB.out | apply below_alloc | apply pw_below_drewN | apply below_drew1) | exact HB.out)⟩⟩
 case round =>
  clear H'
  try clear c2
  try clear p2
  obtain ⟨x3_1, x9_1, rfl, HA, HK1, HO_3, HB⟩ := hrel
  have hl3_1 := (Kd.R_reads' HO_3.out).1
  rw [hl3_1] at HO_3
  (try simp only [hl3_1])
  cases gk with
  | zero => exact absurd HA.out (by simp [tautochronelaw19_good.l0])
  | succ k1 =>
   have H := HA.out
   clear HA
   simp only [tautochronelaw19_good.l0] at H
   by_cases c5 : x9_1 < (t177.length : Int)
   ·rw [if_pos c5] at H
    have c5b0 : decide (x9_1 < (t177.length : Int)) = true := decide_eq_true c5
    clear c5
    by_cases c6 : 0 ≤ x9_1
    rotate_left
    ·rw [if_neg c6] at H; exact absurd H (by simp)
    rw [if_pos c6] at H
    have c6b0 : decide (0 ≤ x9_1) = true := decide_eq_true c6
    clear c6
    by_cases c7 : x9_1 < (x3_1.length : Int)
    rotate_left
    ·rw [if_neg c7] at H; exact absurd H (by simp)
    rw [if_pos c7] at H
    have c7b0 : decide (x9_1 < (x3_1.length : Int)) = true := decide_eq_true c7
    clear c7
    by_cases c8 : (x3_1.length : Int) = 0
    ·rw [if_pos c8] at H
     exact absurd H (by simp)
    ·rw [if_neg c8] at H
     have c8b0 : ((x3_1.length : Int) == 0) = false := beq_eq_false_iff_ne.mpr c8
     have c8b1 : ((x3_1.length : Int) != 0) = true := bne_iff_ne.mpr c8
     have c8b2 : ¬ (x3_1 = []) := fun h_ => c8 (by rw [h_]; rfl)
     obtain ⟨y181, hy181⟩ : ∃ y_ : List (S37), y_ = (x3_1.set (x9_1 : Int).toNat (⟨(rd_T37 x3_1 x9_1).f0, (rd_T37 x3_1 x9_1).f1, (rd_T37 x3_1 x9_1).f2, (rd_T37 x3_1 x9_1).f3, (rd_T37 x3_1 x9_1).f4, (rd_T37 x3_1 x9_1).f5, (rd_T37 x3_1 x9_1).f6, Int.tmod ((rd_T37 x3_1 x9_1).f7) (x3_1.length : Int)⟩ : S37)) := ⟨_, rfl⟩
     replace H : (tautochronelaw19_good.l0 k1 y181 (t177.length : Int) (wrap64 (x9_1 + 1))) = some r := by first | (rw [hy181]; with_reducible exact H) | (have H2_ := (Option.bind_some _ _).symm.trans H; rw [hy181]; with_reducible exact H2_) | (have H2_ := (Option.bind_some _ _).symm.trans H; with_reducible exact H2_) | with_reducible exact H | (rw [hy181]; exact H) | exact H
     have Ny181 := Aside0.mk hy181
     clear hy181
     have H' := Aside0.mk H
     clear H
     have p180 : 0 ≤ (x9_1 : Int) := of_decide_eq_true (by first | (with_reducible assumption) | assumption)
     have q180 : x9_1 < (x3_1.length : Int) := of_decide_eq_true (by first | (with_reducible assumption) | assumption)
     obtain ⟨ad180, e180, hx180_0, hx180_1, hx180_2, hx180_3, hx180_4, hx180_5, hx180_6, hx180_7⟩ := at_T37 (Kd.R_reads' HO_3.out).2.2 x9_1 p180 q180
     cases e180
     replace p180 := eq_true p180
     replace q180 := eq_true q180
     have p9 : 0 ≤ (x9_1 : Int) := of_decide_eq_true (by first | (with_reducible assumption) | assumption)
     have q9 : (x9_1 : Int) < ((x3_1.length : Int) : Int) := of_decide_eq_true (by first | (with_reducible assumption) | assumption)
     obtain ⟨go9, co9, eo9, gb9, gl9, cl9, HG9⟩ := Kd.R_form HO_3.out (by omega)
     (first | cases eo9 | (injection eo9 with ea_ en_ ec_; (first | subst ea_ | (injection ea_ with ea_; subst ea_)); subst ec_; clear en_))
     have GB9 := Aside0.mk gb9
     have GG9 := Aside0.mk HG9
     clear gb9 gl9 HG9
     (first | simp only [add_plain] at hx180_0 | skip)
     (first | simp only [add_plain] at hx180_1 | skip)
     (first | simp only [add_plain] at hx180_2 | skip)
     (first | simp only [add_plain] at hx180_3 | skip)
     (first | simp only [add_plain] at hx180_4 | skip)
     (first | simp only [add_plain] at hx180_5 | skip)
     (first | simp only [add_plain] at hx180_6 | skip)
     (first | simp only [add_plain] at hx180_7 | skip)
     obtain ⟨ce9, hcl9, hM9, hcc9, hfr9⟩ := Kd.R_elem HO_3.out z37 (x9_1 : Int) p9 q9
     obtain rfl := k37_openM hM9
     have hx9_0 : wr.cell? ⟨go9, (x9_1 : Int).toNat * 8, none⟩ = some (.int .i64 ((rd_T37 x3_1 x9_1).f0)) := hcc9 0 _ rfl
     have hx9_1 : wr.cell? ⟨go9, (x9_1 : Int).toNat * 8 + 1, none⟩ = some (.int .i64 ((rd_T37 x3_1 x9_1).f1)) := hcc9 1 _ rfl
     have hx9_2 : wr.cell? ⟨go9, (x9_1 : Int).toNat * 8 + 2, none⟩ = some (.int .i64 ((rd_T37 x3_1 x9_1).f2)) := hcc9 2 _ rfl
     have hx9_3 : wr.cell? ⟨go9, (x9_1 : Int).toNat * 8 + 3, none⟩ = some (.int .i64 ((rd_T37 x3_1 x9_1).f3)) := hcc9 3 _ rfl
     have hx9_4 : wr.cell? ⟨go9, (x9_1 : Int).toNat * 8 + 4, none⟩ = some (.int .i64 ((rd_T37 x3_1 x9_1).f4)) := hcc9 4 _ rfl
     have hx9_5 : wr.cell? ⟨go9, (x9_1 : Int).toNat * 8 + 5, none⟩ = some (.int .i64 ((rd_T37 x3_1 x9_1).f5)) := hcc9 5 _ rfl
     have hx9_6 : wr.cell? ⟨go9, (x9_1 : Int).toNat * 8 + 6, none⟩ = some (.int .u64 ((rd_T37 x3_1 x9_1).f6)) := hcc9 6 _ rfl
     have hx9_7 : wr.cell? ⟨go9, (x9_1 : Int).toNat * 8 + 7, none⟩ = some (.int .i64 ((rd_T37 x3_1 x9_1).f7)) := hcc9 7 _ rfl
     have hf9_0 : wr.frozen? ⟨go9, (x9_1 : Int).toNat * 8, none⟩ = false := hfr9 0
     have hf9_1 : wr.frozen? ⟨go9, (x9_1 : Int).toNat * 8 + 1, none⟩ = false := hfr9 1
     have hf9_2 : wr.frozen? ⟨go9, (x9_1 : Int).toNat * 8 + 2, none⟩ = false := hfr9 2
     have hf9_3 : wr.frozen? ⟨go9, (x9_1 : Int).toNat * 8 + 3, none⟩ = false := hfr9 3
     have hf9_4 : wr.frozen? ⟨go9, (x9_1 : Int).toNat * 8 + 4, none⟩ = false := hfr9 4
     have hf9_5 : wr.frozen? ⟨go9, (x9_1 : Int).toNat * 8 + 5, none⟩ = false := hfr9 5
     have hf9_6 : wr.frozen? ⟨go9, (x9_1 : Int).toNat * 8 + 6, none⟩ = false := hfr9 6
     have hf9_7 : wr.frozen? ⟨go9, (x9_1 : Int).toNat * 8 + 7, none⟩ = false := hfr9 7
     clear hcl9 hcc9 hfr9 hM9
     replace p9 := eq_true p9
     replace q9 := eq_true q9
     have HX10 := Aside0.mk (show Kd.R k37 37 wr w.heap.size (fun _ => True) (.slice (some ⟨go9, 0, none⟩) x3_1.length co4) x3_1 from (by (with_reducible repeat (first | apply Kd.R_alloc | apply Kd.R_drewN | apply Kd.R_drew)); exact HO_3.out))
     obtain ⟨ce10, hcl10, hM10, hcc10, hfr10⟩ := Kd.R_elem HX10.out z37 (x9_1 : Int) (of_decide_eq_true (by first | (with_reducible assumption) | assumption)) (by have h_ : (x9_1 : Int) < ((x3_1.length : Int) : Int) := of_decide_eq_true (by first | (with_reducible assumption) | assumption); first | exact h_ | (have e_ := (Kd.R_reads' HO_3.out).1; omega) | simpa using h_)
     obtain rfl := k37_openM hM10
     have HP10 := Kd.R_seg HX10.out (x9_1 : Int) (of_decide_eq_true (by first | (with_reducible assumption) | assumption)) (by have h_ : (x9_1 : Int) < ((x3_1.length : Int) : Int) := of_decide_eq_true (by first | (with_reducible assumption) | assumption); first | exact h_ | (have e_ := (Kd.R_reads' HO_3.out).1; omega) | simpa using h_) (seg := [.int .i64 (Int.tmod ((rd_T37 x3_1 x9_1).f7) (x3_1.length : Int))]) (j := 7) hcl10 hcc10 (show 8 ≤ 8 from by decide) (x' := (⟨(rd_T37 x3_1 x9_1).f0, (rd_T37 x3_1 x9_1).f1, (rd_T37 x3_1 x9_1).f2, (rd_T37 x3_1 x9_1).f3, (rd_T37 x3_1 x9_1).f4, (rd_T37 x3_1 x9_1).f5, (rd_T37 x3_1 x9_1).f6, Int.tmod ((rd_T37 x3_1 x9_1).f7) (x3_1.length : Int)⟩ : S37)) (k37_mkM _ _ _ (⟨(rd_T37 x3_1 x9_1).f0, (rd_T37 x3_1 x9_1).f1, (rd_T37 x3_1 x9_1).f2, (rd_T37 x3_1 x9_1).f3, (rd_T37 x3_1 x9_1).f4, (rd_T37 x3_1 x9_1).f5, (rd_T37 x3_1 x9_1).f6, Int.tmod ((rd_T37 x3_1 x9_1).f7) (x3_1.length : Int)⟩ : S37) ) (fun _ hk => hk)
     have hx10_7 := hcc10 7 _ rfl
     (try simp only [show (k37).sz = 8 from rfl, Nat.mul_one, Nat.add_zero] at hx10_7)
     have hf10_7 := hfr10 7
     (try simp only [show (k37).sz = 8 from rfl, Nat.mul_one, Nat.add_zero] at hf10_7)
     clear hcl10 hcc10 hfr10 hM10
     go_wp2_with (first | ((with_reducible refine gate_store (t := 3) (p := 23) rfl ?_); refine store_event (t := 3) (p := 23) (v := ?vo_w11) (w1 := (wr.setCell ⟨go9, (x9_1 : Int).toNat * 8 + 7, none⟩ (.int .i64 (Int.tmod ((rd_T37 x3_1 x9_1).f7) (x3_1.length : Int))))) ?hg ?ho ?hn ?hr ?_; (case ho => rfl); (case hg => rfl); (case hn => rfl); (case hr => first | (go_simp; done) | (go_simp; rfl)); intro w11 hw; have hg : wr.grownBy w11 (some go9) := (by rw [hw]; exact HP10.2); have hp_ : Kd.R k37 37 w11 w.heap.size (fun _ => True) (.slice (some ⟨go9, 0, none⟩) x3_1.length co4) y181 := (by rw [hw, Ny181.out]; exact HP10.1); clear HP10; have n0_ := Aside0.mk (hp_); have n1_ := Aside0.mk ((by rw [hw]; exact below_set (HB.out) GB9.out : Below w.heap.size w w11)); clear HO_3; clear HB; have HO_3 := n0_; have HB := n1_; clear n0_ n1_; clear hg hw hp_))
     (try simp only [← hl3_1])
     go_roundg k1
     case measure => have := HK1.out; omega
     case rel => exact ⟨(y181), (wrap64 (x9_1 + 1)), (by first | rfl | (simp; done) | (simp [*]; done)), H', ⟨by have := HK1.out; omega⟩, ⟨by (try simp only [hl3_1]); (with_reducible repeat (first | apply Kd.R_alloc | apply Kd.R_drewN | apply Kd.R_drew)); exact HO_3.out⟩, ⟨by repeat (first | (with_reducible first | exact HB.out | apply below_alloc | apply pw_below_drewN | apply below_drew1) | exact HB.out)⟩⟩
   ·rw [if_neg c5] at H
    have c5b0 : decide (x9_1 < (t177.length : Int)) = false := decide_eq_false c5
    clear c5
    obtain rfl := Option.some.inj H
    have c5b1 : decide (x9_1 < (x3_1.length : Int)) = false := by rw [← hl3_1]; exact c5b0
    go_wp2
    go_ret
    exact ⟨_, by first | rfl | (simp [errW_none, errW_some] <;> rfl) | (simp [*, errW_none, errW_some] <;> rfl), by (with_reducible repeat (first | apply Kd.R_alloc | apply Kd.R_drewN | apply Kd.R_drew)); exact HO_3.out, by repeat (first | (with_reducible first | exact HB.out | apply below_alloc | apply pw_below_drewN | apply below_drew1) | exact HB.out)⟩

/-! ### tautochronelaw15_Equal: function 12 -/
def tautochronelaw15_Equal.l0 : Nat → List (S37) → List (S37) → Int → Int → Option (Bool)
 | 0, _, _, _, _ => none
 | k + 1, x0, x1, x12, x13 => if x13 < x12 then (if 0 ≤ x13 then (if x13 < (x0.length : Int) then (if x13 < (x1.length : Int) then (if (!(((rd_T37 x0 x13).f0) == ((rd_T37 x1 x13).f0)) || (!(((rd_T37 x0 x13).f1) == ((rd_T37 x1 x13).f1)) || (!(((rd_T37 x0 x13).f2) == ((rd_T37 x1 x13).f2)) || (!(((rd_T37 x0 x13).f3) == ((rd_T37 x1 x13).f3)) || (!(((rd_T37 x0 x13).f4) == ((rd_T37 x1 x13).f4)) || (!(((rd_T37 x0 x13).f5) == ((rd_T37 x1 x13).f5)) || (!(((rd_T37 x0 x13).f6) == ((rd_T37 x1 x13).f6)) || (!(((rd_T37 x0 x13).f7) == ((rd_T37 x1 x13).f7)))))))))) = true then (some false) else (tautochronelaw15_Equal.l0 k x0 x1 x12 (wrap64 (x13 + 1)))) else (none)) else (none)) else (none)) else (some true)
def tautochronelaw15_Equal.f (k : Nat) (l0 : List (S37)) (l1 : List (S37)) : Option (Bool) := if (l0.length : Int) = (l1.length : Int) then (tautochronelaw15_Equal.l0 k l0 l1 (l0.length : Int) 0) else (some false)
theorem tautochronelaw15_Equal.mono_l : ∀ k, (∀ y0 y1 y2 y3, LeO (tautochronelaw15_Equal.l0 k y0 y1 y2 y3) (tautochronelaw15_Equal.l0 (k + 1) y0 y1 y2 y3))
 | 0 => fun _ _ _ _ r h => by simp [tautochronelaw15_Equal.l0] at h
 | k + 1 => by
  have ih0 := tautochronelaw15_Equal.mono_l k
  ·intro y0 y1 y2 y3
   unfold tautochronelaw15_Equal.l0
   repeat' first
   | (with_reducible exact ih0 _ _ _ _)
   | (with_reducible exact LeO.refl _)
   | (with_reducible exact LeO.none _)
   | (with_reducible refine LeO.ite ?_ ?_)
   | (with_reducible refine LeO.bind ?_ (fun _ => ?_))
   | exact ih0 _ _ _ _
   | exact LeO.none _
   | refine LeO.ite ?_ ?_
   | refine LeO.bind ?_ (fun _ => ?_)
theorem tautochronelaw15_Equal.mono : ∀ a0 a1 k, LeO (tautochronelaw15_Equal.f k a0 a1) (tautochronelaw15_Equal.f (k + 1) a0 a1) := by
 intro a0 a1 k
 have ih0 := tautochronelaw15_Equal.mono_l k
 unfold tautochronelaw15_Equal.f
 repeat' first
   | (with_reducible exact ih0 _ _ _ _)
   | (with_reducible exact LeO.refl _)
   | (with_reducible exact LeO.none _)
   | (with_reducible refine LeO.ite ?_ ?_)
   | (with_reducible refine LeO.bind ?_ (fun _ => ?_))
   | exact ih0 _ _ _ _
   | exact LeO.none _
   | refine LeO.ite ?_ ?_
   | refine LeO.bind ?_ (fun _ => ?_)
set_option maxHeartbeats 8000000 in
set_option maxRecDepth 100000 in
theorem tautochronelaw15_Equal.calls (k : Nat) (A0 : Option Addr) (c0 : Nat) (l0 : List (S37)) (A1 : Option Addr) (c1 : Nat) (l1 : List (S37)) (r : Bool) (w : World) (hr0 : Kd.C k37 w A0 l0.length l0) (hc0 : l0.length ≤ c0) (hr1 : Kd.C k37 w A1 l1.length l1) (hc1 : l1.length ≤ c1) (h : tautochronelaw15_Equal.f k l0 l1 = some r) :
  Calls Tryd.prog 12 #[.slice A0 l0.length c0, .slice A1 l1.length c1] w fun e w' => e = .returned (.bool r) ∧ Drawn0 w w' := by
 have hu37 := Tryd.underlying37
 have HR0 := Aside0.mk hr0
 have HC0 := Aside0.mk hc0
 clear hr0 hc0
 have HR1 := Aside0.mk hr1
 have HC1 := Aside0.mk hc1
 clear hr1 hc1
 have H : (if (l0.length : Int) = (l1.length : Int) then (tautochronelaw15_Equal.l0 k l0 l1 (l0.length : Int) 0) else (some false)) = some r := h
 clear h
 by_cases c3 : (l0.length : Int) = (l1.length : Int)
 ·rw [if_pos c3] at H
  have c3b0 : ((l0.length : Int) == (l1.length : Int)) = true := beq_iff_eq.mpr c3
  have c3b1 : ((l0.length : Int) != (l1.length : Int)) = false := bne_eq_false_iff_eq.mpr c3
  have c3b2 : (l0.length == l1.length) = true := by first | simpa using c3 | (simp at c3 ⊢; omega)
  clear c3
  have H' := Aside0.mk H
  clear H
  go_enter Tryd.func12, Tryd.ntmps12
  go_wp2
  repeat (go_quiet (fail); try go_wp2)
  go_loopg [13] k (fun kq v13 w' => ∃ (x13_1 : Int), v13 = .int .i64 x13_1 ∧ Aside0 (tautochronelaw15_Equal.l0 kq l0 l1 (l0.length : Int) x13_1 = some r) ∧ Aside0 (kq ≤ k) ∧ Drawn0 w w')
  case atStart => exact ⟨(0), (by first | rfl | (simp; done) | (simp [*]; done)), H', ⟨Nat.le_refl _⟩, by repeat (first | exact Drawn0.refl _ | apply Drawn0.step)⟩
  case round =>
   clear H'
   try clear c1
   try clear p2
   try clear c3
   try clear c3b0
   try clear c3b1
   try clear c3b2
   obtain ⟨x13_1, rfl, HA, HK1, ⟨m1, rfl⟩⟩ := hrel
   cases gk with
   | zero => exact absurd HA.out (by simp [tautochronelaw15_Equal.l0])
   | succ k1 =>
    have H := HA.out
    clear HA
    simp only [tautochronelaw15_Equal.l0] at H
    by_cases c4 : x13_1 < (l0.length : Int)
    ·rw [if_pos c4] at H
     have c4b0 : decide (x13_1 < (l0.length : Int)) = true := decide_eq_true c4
     clear c4
     by_cases c5 : 0 ≤ x13_1
     rotate_left
     ·rw [if_neg c5] at H; exact absurd H (by simp)
     rw [if_pos c5] at H
     have c5b0 : decide (0 ≤ x13_1) = true := decide_eq_true c5
     clear c5
     by_cases c6 : x13_1 < (l0.length : Int)
     rotate_left
     ·rw [if_neg c6] at H; exact absurd H (by simp)
     rw [if_pos c6] at H
     have c6b0 : decide (x13_1 < (l0.length : Int)) = true := decide_eq_true c6
     clear c6
     by_cases c7 : x13_1 < (l1.length : Int)
     rotate_left
     ·rw [if_neg c7] at H; exact absurd H (by simp)
     rw [if_pos c7] at H
     have c7b0 : decide (x13_1 < (l1.length : Int)) = true := decide_eq_true c7
     clear c7
     by_cases c8 : (!(((rd_T37 l0 x13_1).f0) == ((rd_T37 l1 x13_1).f0)) || (!(((rd_T37 l0 x13_1).f1) == ((rd_T37 l1 x13_1).f1)) || (!(((rd_T37 l0 x13_1).f2) == ((rd_T37 l1 x13_1).f2)) || (!(((rd_T37 l0 x13_1).f3) == ((rd_T37 l1 x13_1).f3)) || (!(((rd_T37 l0 x13_1).f4) == ((rd_T37 l1 x13_1).f4)) || (!(((rd_T37 l0 x13_1).f5) == ((rd_T37 l1 x13_1).f5)) || (!(((rd_T37 l0 x13_1).f6) == ((rd_T37 l1 x13_1).f6)) || (!(((rd_T37 l0 x13_1).f7) == ((rd_T37 l1 x13_1).f7)))))))))) = true
     ·rw [if_pos c8] at H
      have c8b0 : (!(((rd_T37 l0 x13_1).f0) == ((rd_T37 l1 x13_1).f0)) || (!(((rd_T37 l0 x13_1).f1) == ((rd_T37 l1 x13_1).f1)) || (!(((rd_T37 l0 x13_1).f2) == ((rd_T37 l1 x13_1).f2)) || (!(((rd_T37 l0 x13_1).f3) == ((rd_T37 l1 x13_1).f3)) || (!(((rd_T37 l0 x13_1).f4) == ((rd_T37 l1 x13_1).f4)) || (!(((rd_T37 l0 x13_1).f5) == ((rd_T37 l1 x13_1).f5)) || (!(((rd_T37 l0 x13_1).f6) == ((rd_T37 l1 x13_1).f6)) || (!(((rd_T37 l0 x13_1).f7) == ((rd_T37 l1 x13_1).f7)))))))))) = true := c8
      clear c8
      obtain rfl := Option.some.inj H
      have p182 : 0 ≤ (x13_1 : Int) := of_decide_eq_true (by first | (with_reducible assumption) | assumption)
      have q182 : x13_1 < (l0.length : Int) := of_decide_eq_true (by first | (with_reducible assumption) | assumption)
      obtain ⟨ad182, e182, hx182_0, hx182_1, hx182_2, hx182_3, hx182_4, hx182_5, hx182_6, hx182_7⟩ := at_T37 HR0.out x13_1 p182 q182
      cases e182
      replace p182 := eq_true p182
      replace q182 := eq_true q182
      have p183 : 0 ≤ (x13_1 : Int) := of_decide_eq_true (by first | (with_reducible assumption) | assumption)
      have q183 : x13_1 < (l1.length : Int) := of_decide_eq_true (by first | (with_reducible assumption) | assumption)
      obtain ⟨ad183, e183, hx183_0, hx183_1, hx183_2, hx183_3, hx183_4, hx183_5, hx183_6, hx183_7⟩ := at_T37 HR1.out x13_1 p183 q183
      cases e183
      replace p183 := eq_true p183
      replace q183 := eq_true q183
      go_wp2
      repeat (go_quiet (fail); try go_wp2)
      go_ret
      exact ⟨by first | rfl | (simp; done) | (simp [*]; done), by repeat (first | exact Drawn0.refl _ | apply Drawn0.step)⟩
     ·rw [if_neg c8] at H
      have c8b0 : (!(((rd_T37 l0 x13_1).f0) == ((rd_T37 l1 x13_1).f0)) || (!(((rd_T37 l0 x13_1).f1) == ((rd_T37 l1 x13_1).f1)) || (!(((rd_T37 l0 x13_1).f2) == ((rd_T37 l1 x13_1).f2)) || (!(((rd_T37 l0 x13_1).f3) == ((rd_T37 l1 x13_1).f3)) || (!(((rd_T37 l0 x13_1).f4) == ((rd_T37 l1 x13_1).f4)) || (!(((rd_T37 l0 x13_1).f5) == ((rd_T37 l1 x13_1).f5)) || (!(((rd_T37 l0 x13_1).f6) == ((rd_T37 l1 x13_1).f6)) || (!(((rd_T37 l0 x13_1).f7) == ((rd_T37 l1 x13_1).f7)))))))))) = false := by simpa using c8
      clear c8
      have H' := Aside0.mk H
      clear H
      have p182 : 0 ≤ (x13_1 : Int) := of_decide_eq_true (by first | (with_reducible assumption) | assumption)
      have q182 : x13_1 < (l0.length : Int) := of_decide_eq_true (by first | (with_reducible assumption) | assumption)
      obtain ⟨ad182, e182, hx182_0, hx182_1, hx182_2, hx182_3, hx182_4, hx182_5, hx182_6, hx182_7⟩ := at_T37 HR0.out x13_1 p182 q182
      cases e182
      replace p182 := eq_true p182
      replace q182 := eq_true q182
      have p183 : 0 ≤ (x13_1 : Int) := of_decide_eq_true (by first | (with_reducible assumption) | assumption)
      have q183 : x13_1 < (l1.length : Int) := of_decide_eq_true (by first | (with_reducible assumption) | assumption)
      obtain ⟨ad183, e183, hx183_0, hx183_1, hx183_2, hx183_3, hx183_4, hx183_5, hx183_6, hx183_7⟩ := at_T37 HR1.out x13_1 p183 q183
      cases e183
      replace p183 := eq_true p183
      replace q183 := eq_true q183
      go_wp2
      repeat (go_quiet (fail); try go_wp2)
      go_roundg k1
      case measure => have := HK1.out; omega
      case rel => exact ⟨(wrap64 (x13_1 + 1)), (by first | rfl | (simp; done) | (simp [*]; done)), H', ⟨by have := HK1.out; omega⟩, by repeat (first | exact Drawn0.refl _ | apply Drawn0.step)⟩
    ·rw [if_neg c4] at H
     have c4b0 : decide (x13_1 < (l0.length : Int)) = false := decide_eq_false c4
     clear c4
     obtain rfl := Option.some.inj H
     go_wp2
     repeat (go_quiet (fail); try go_wp2)
     go_ret
     exact ⟨by first | rfl | (simp; done) | (simp [*]; done), by repeat (first | exact Drawn0.refl _ | apply Drawn0.step)⟩
 ·rw [if_neg c3] at H
  have c3b0 : ((l0.length : Int) == (l1.length : Int)) = false := beq_eq_false_iff_ne.mpr c3
  have c3b1 : ((l0.length : Int) != (l1.length : Int)) = true := bne_iff_ne.mpr c3
  have c3b2 : (l0.length == l1.length) = false := by first | simpa using c3 | (simp at c3 ⊢; omega)
  obtain rfl := Option.some.inj H
  go_enter Tryd.func12, Tryd.ntmps12
  go_wp2
  repeat (go_quiet (fail); try go_wp2)
  go_ret
  exact ⟨by first | rfl | (simp; done) | (simp [*]; done), by repeat (first | exact Drawn0.refl _ | apply Drawn0.step)⟩

end Go.Proofs.YtepgpapljoelhaaDoor.PE
