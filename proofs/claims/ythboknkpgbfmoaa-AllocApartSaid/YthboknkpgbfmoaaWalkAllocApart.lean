/- The walk of the law AllocApart. -/
import Derived.Test.YthboknkpgbfmoaaWalkAllocOf
import Derived.Test.YthboknkpgbfmoaaApart
import Derived.Deep.RegionHeld3
namespace Go.Proofs.Ythboknkpgbfmoaa.PA
open Go.RowKit Go.WideMaps Go.Maps Go.Shelf Go.Proofs.YthboknkpgbfmoaaW.PrintWords
set_option linter.unusedVariables false
set_option linter.unusedSimpArgs false

theorem hbu_block {w w' : World} {b : Nat} {o : Obj} (hb : Below w.heap.size w w') (h : w.heap[b]? = some o) : w'.heap[b]? = w.heap[b]? := hb.block b (Array.getElem?_eq_some_iff.1 h).1
set_option maxHeartbeats 4000000 in
set_option maxRecDepth 100000 in
theorem walkAllocApart (W : World) (A : Option Addr) (c : Nat) (l : List S60) (hr : Kd.C k60 W A l.length l) (hc : l.length ≤ c) (_hm : l.length ≤ maxLen) (_hw : ∀ y ∈ l, y.wf) :
    Calls Try.prog 8 #[.slice A l.length c] W fun e W' => e = .returned (.bool true) ∧ Below W.heap.size W W' := by
  obtain ⟨KS, hKS⟩ := (small_eq l).ex
  obtain ⟨K, nv, hfit, _, hnv8⟩ := small_fit l
  have H := Lib.hid (tautochronelaw13_Small.calls KS A c l (smallOf l))
  have HR := Lib.hid hr
  have HKS := Lib.hid hKS
  have HF := Lib.hid hfit
  obtain ⟨n, hn⟩ : ∃ n, n = l.length := ⟨_, rfl⟩
  rw [← hn] at HR H hc ⊢
  clear hr hKS hfit hn
  go_enter Try.func8, Try.ntmps8
  go_wp2_with fail
  refine (awake_calls _).mono ?_
  rintro e w1 ⟨rfl, hb1⟩
  have HR1 := Lib.hid (Kd.C_below HR.out hb1)
  have HB1 := Lib.hid hb1
  clear hb1
  go_wp2_with fail
  refine (H.out _ HR1.out hc HKS.out).mono ?_
  rintro e w2 ⟨v0, rfl, hR2, hb2⟩
  obtain ⟨A2, c2, rfl, hc2, hC2⟩ := Kd.R_reads hR2
  obtain ⟨cs, hcs⟩ : ∃ cs, cs = smallOf l := ⟨_, rfl⟩
  rw [← hcs] at hc2 hC2 HF ⊢
  obtain ⟨m, hm⟩ : ∃ m, m = cs.length := ⟨_, rfl⟩
  rw [← hm] at hc2 hC2 ⊢
  have HM := Lib.hid hm
  have HC2 := Lib.hid hC2
  have HB2 := Lib.hid (HB1.out.trans (hb2.mono HB1.out.size))
  clear hm hC2 hR2 hb2 hcs H HR HR1 HB1
  go_wp2_with fail
  refine (allocn_calls m A2 c2 cs K nv _ HM.out HC2.out hc2 HF.out).mono ?_
  rintro e w3 ⟨P, wg, hP, rfl, hg3, hR3, hb3⟩
  have HC3 := Lib.hid (Kd.C_below HC2.out hb3)
  have HB3 := Lib.hid (HB2.out.trans (hb3.mono HB2.out.size))
  have HR3 := Lib.hid hR3
  have HP := Lib.hid hP
  clear hb3 hR3 hP HC2 HB2
  go_wp2_with fail
  refine (spansn_calls m A2 c2 cs K nv _ HM.out HC3.out hc2 (by rw [HM.out]; exact HF.out.len) HF.out.wf HF.out.vals (by omega)).mono ?_
  rintro e w4 ⟨P', g, hP', rfl, hg4, hS4, hb4⟩
  obtain rfl := Lives.one HP.out hP'
  obtain ⟨s, hs⟩ : ∃ s, s = SpF cs P cs.length := ⟨_, rfl⟩
  rw [← hs] at hS4 HR3 ⊢
  have hsp : ∀ i, i < nv → s i = (-1, -1) ∨ (0 ≤ (s i).1 ∧ (s i).1 ≤ (s i).2 ∧ (s i).2 < cs.length) := fun i _ => by rw [hs]; exact spF_at cs P i cs.length
  have hlaw := alloc_apart hsp
  obtain ⟨F, hF⟩ : ∃ F, F = allocF s nv cs.length := ⟨_, rfl⟩
  rw [← hF] at HR3 hlaw ⊢
  have HLAW := Lib.hid hlaw
  have HR4 := Lib.hid (World.rowIs.alloc (World.rowIs.of_block HR3.out (hb4.block wg (World.rowIs.lt HR3.out))) (.cells #[.slice (some ⟨wg, 0, none⟩) nv nv, .int .i64 F.sl] 49))
  have HS4 : Hid (SR (w4.alloc (.cells #[.slice (some ⟨wg, 0, none⟩) nv nv, .int .i64 F.sl] 49)) g nv s) := Lib.hid (World.rowIs.alloc hS4 (.cells #[.slice (some ⟨wg, 0, none⟩) nv nv, .int .i64 F.sl] 49))
  have HC4 := Lib.hid (Kd.C_alloc (Kd.C_below HC3.out hb4) (.cells #[.slice (some ⟨wg, 0, none⟩) nv nv, .int .i64 F.sl] 49))
  have HB4 := Lib.hid (((HB3.out.trans (hb4.mono HB3.out.size))).alloc (HB3.out.trans (hb4.mono HB3.out.size)).size (.cells #[.slice (some ⟨wg, 0, none⟩) nv nv, .int .i64 F.sl] 49))
  have hpc := blk_new w4 (.cells #[.slice (some ⟨wg, 0, none⟩) nv nv, .int .i64 F.sl] 49)
  have HPC := Lib.hid hpc
  have p0 := (blk_cell hpc 0).trans rfl
  clear hlaw hsp hb4 hS4 hP' HR3 HC3 HB3 hpc hF hs HP HKS
  go_wp2_with fail
  generalize w4.alloc (.cells #[.slice (some ⟨wg, 0, none⟩) nv nv, .int .i64 F.sl] 49) = w5 at HR4 HS4 HC4 HB4 HPC p0 ⊢
  generalize (World.heap w4).size = pb at HPC p0 ⊢
  have hvals : ∀ w', Below w5.heap.size w5 w' → Calls Try.prog 23 #[.slice A2 m c2] w' fun e w'' => e = .returned (.int .i64 nv) ∧ Below w'.heap.size w' w'' := fun w' hb => values_calls K m nv A2 c2 cs w' HM.out (Kd.C_below HC4.out hb) hc2 HF.out.vals
  have HV := Lib.hid hvals
  have P0 := Lib.hid p0
  clear hvals
  have hB0 : Below w5.heap.size w5 w5 := Below.refl _ _
  go_region_held3 (fun w' => Below w5.heap.size w5 w' ∧ w'.cell? ⟨pb, 0, none⟩ = some (.slice (some ⟨wg, 0, none⟩) nv nv)) (first | assumption | exact ⟨by first | assumption | exact (Below.refl _ _).drew, by first | assumption | exact P0.out⟩ | go_keep)
    (first | ((go_at_call 23); (with_reducible refine (HV.out _ (by first | assumption | exact (Below.refl _ _).drew)).mono ?_); rintro e w6 ⟨rfl, hb6⟩; have hbz : Below w5.heap.size w5 w6 := Below.trans (by first | assumption | exact (Below.refl _ _).drew : Below w5.heap.size w5 _) (hb6.mono (Below.size (by first | assumption | exact (Below.refl _ _).drew : Below w5.heap.size w5 _))); have p6 := (hbz.cell (World.block_lt_of_cell? w5 _ P0.out)).trans P0.out; clear hb6) | fail)
  clear hB0 P0 HV p0
  go_wp2_with fail
  go_loopw [6, 27] (fun sl_ i wr => ∃ (v : Nat), v ≤ nv ∧ i = .int .i64 v ∧ sl_ = .int .i64 (negs F.wh (nums v) : Nat) ∧ Hid (Below w5.heap.size w5 wr)) (fun _ i _ => nv - (intOf i).toNat)
  case atStart => exact ⟨0, Nat.zero_le _, rfl, rfl, Lib.hid hbz⟩
  case round =>
    clear hbz p6
    obtain ⟨v, hv, rfl, rfl, HB⟩ := hrel
    have keep : ∀ (w' : World), Below w5.heap.size w5 w' → ∀ a x, w5.cell? a = some x → w'.cell? a = some x := fun w' hb a x h => (hb.cell (World.block_lt_of_cell? w5 _ h)).trans h
    have KEEP := Lib.hid keep
    clear keep
    have q0 := KEEP.out _ HB.out _ _ (blk_cell HPC.out 0 |>.trans rfl)
    have q1 := KEEP.out _ HB.out _ _ (blk_cell HPC.out 1 |>.trans rfl)
    by_cases hvn : v < nv
    · have c0 := KEEP.out _ HB.out _ _ (HS4.out.c0 hvn)
      have c1 := KEEP.out _ HB.out _ _ (HS4.out.c1 hvn)
      have hnl : negs F.wh (nums v) ≤ 8 := by
        have := List.length_filter_le (fun x : Int => decide (F.wh x.toNat < 0)) (nums v)
        rw [nums_len] at this
        unfold negs
        omega
      obtain ⟨fa, hfa⟩ : ∃ fa, fa = (s v).1 := ⟨_, rfl⟩
      obtain ⟨la, hla⟩ : ∃ la, la = (s v).2 := ⟨_, rfl⟩
      rw [← hfa] at c0
      rw [← hla] at c1
      have HFA := Lib.hid hfa
      have HLA := Lib.hid hla
      obtain ⟨cn, hcn⟩ : ∃ cn, cn = negs F.wh (nums v) := ⟨_, rfl⟩
      rw [← hcn] at hnl ⊢
      have HCN := Lib.hid hcn
      clear hfa hla hcn q0 q1
      go_wp2_with fail
      have HB7 : Hid (Below w5.heap.size w5 (wr.alloc (.cells #[.int .i64 fa, .int .i64 la] 55))) := Lib.hid (HB.out.alloc HB.out.size _)
      have HA7 := Lib.hid (blk_new wr (.cells #[.int .i64 fa, .int .i64 la] 55))
      generalize wr.alloc (.cells #[.int .i64 fa, .int .i64 la] 55) = w7 at HB7 HA7 ⊢
      generalize (World.heap wr).size = ab at HA7 ⊢
      clear HB c0 c1
      have q0 := KEEP.out _ HB7.out _ _ (blk_cell HPC.out 0 |>.trans rfl)
      have q1 := KEEP.out _ HB7.out _ _ (blk_cell HPC.out 1 |>.trans rfl)
      have x0 := KEEP.out _ HB7.out _ _ (World.rowIs.cell HR4.out hvn)
      obtain ⟨hlow, hap, hcnt⟩ := HLAW.out
      have hl := hlow v hvn
      have HAP := Lib.hid hap
      have HCNT := Lib.hid hcnt
      have hsl8 : (F.sl : Int) ≤ 8 := by
        have := List.length_filter_le (fun x : Int => decide (F.wh x.toNat < 0)) (nums nv)
        rw [nums_len] at this
        have h2 := hcnt
        unfold negs at h2
        omega
      have hv2 : (v : Int) < (nv : Int) := by omega
      clear hlow hap hcnt
      obtain ⟨xv, hxv⟩ : ∃ xv, xv = F.wh v := ⟨_, rfl⟩
      rw [← hxv] at x0 hl
      have HXV := Lib.hid hxv
      clear hxv
      have g1 : decide (xv ≥ 5) = false := by simp; omega
      have g2 : decide (xv < -(F.sl : Int)) = false := by simp; omega
      go_quiet (fail)
      have HB8 : Hid (Below w5.heap.size w5 (w7.drewN nq)) := Lib.hid (HB7.out.trans ⟨rfl, rfl, rfl, Nat.le_refl _, fun _ _ => rfl⟩)
      have HA8 : Hid ((w7.drewN nq).heap[ab]? = some (.cells #[.int .i64 fa, .int .i64 la] 55 (0, 0))) := Lib.hid HA7.out
      replace q0 : (w7.drewN nq).cell? ⟨pb, 0, none⟩ = some (.slice (some ⟨wg, 0, none⟩) nv nv) := q0
      replace q1 : (w7.drewN nq).cell? ⟨pb, 1, none⟩ = some (.int .i64 F.sl) := q1
      replace x0 : (w7.drewN nq).cell? ⟨wg, v, none⟩ = some (.int .i64 xv) := x0
      generalize w7.drewN nq = w8 at HB8 HA8 q0 q1 x0 ⊢
      clear HB7 HA7 g1 g2
      obtain ⟨cn2, hcn2⟩ : ∃ cn2 : Nat, cn2 = if xv < 0 then cn + 1 else cn := ⟨_, rfl⟩
      have hneg : cn2 = negs F.wh (nums (v + 1)) := by
        rw [nums_succ, negs_snoc, ← HCN.out, Int.toNat_natCast, ← HXV.out, hcn2]
        split <;> omega
      have HNEG := Lib.hid hneg
      clear hneg
      by_cases hx0 : xv < 0
      focus
        rw [if_pos hx0] at hcn2
        have HC2 := Lib.hid hcn2
        clear hcn2
        go_wp2_with fail
        rw [show (cn : Int) + 1 = (cn2 : Int) by rw [HC2.out]; omega]
      rotate_left
      focus
        rw [if_neg hx0] at hcn2
        subst hcn2
        go_wp2_with fail
      all_goals
        go_loopw [59] (fun i wr => ∃ (u : Nat), u ≤ nv ∧ i = .int .i64 u ∧ Hid (Below w8.heap.size w8 wr)) (fun i _ => nv - (intOf i).toNat)
        case atStart => exact ⟨0, Nat.zero_le _, rfl, Lib.hid (Below.refl _ _)⟩
        case round =>
          clear q0 q1 x0
          obtain ⟨u, hu, rfl, HBU⟩ := hrel
          by_cases hun : u < nv
          · have HB9 := Lib.hid (HB8.out.trans (HBU.out.mono HB8.out.size))
            have c0 := KEEP.out _ HB9.out _ _ (HS4.out.c0 hun)
            have c1 := KEEP.out _ HB9.out _ _ (HS4.out.c1 hun)
            obtain ⟨fb, hfb⟩ : ∃ fb, fb = (s u).1 := ⟨_, rfl⟩
            obtain ⟨lb, hlb⟩ : ∃ lb, lb = (s u).2 := ⟨_, rfl⟩
            rw [← hfb] at c0
            rw [← hlb] at c1
            have HFB := Lib.hid hfb
            have HLB := Lib.hid hlb
            clear hfb hlb
            go_wp2_with fail
            have HBT : Hid (Below w8.heap.size w8 (wr.alloc (.cells #[.int .i64 fb, .int .i64 lb] 55))) := Lib.hid (HBU.out.alloc HBU.out.size _)
            have HBB := Lib.hid (blk_new wr (.cells #[.int .i64 fb, .int .i64 lb] 55))
            have HA9 := Lib.hid (((hbu_block HBT.out HA8.out)).trans HA8.out)
            generalize wr.alloc (.cells #[.int .i64 fb, .int .i64 lb] 55) = w9 at HBT HBB HA9 ⊢
            generalize (World.heap wr).size = bb at HBB ⊢
            clear HBU HB9 c0 c1
            have HB9 := Lib.hid (HB8.out.trans (HBT.out.mono HB8.out.size))
            have q0 := KEEP.out _ HB9.out _ _ (blk_cell HPC.out 0 |>.trans rfl)
            have x0 := KEEP.out _ HB9.out _ _ (World.rowIs.cell HR4.out hvn)
            have y0 := KEEP.out _ HB9.out _ _ (World.rowIs.cell HR4.out hun)
            rw [← HXV.out] at x0
            have a0 := (blk_cell HA9.out 0).trans rfl
            have a1 := (blk_cell HA9.out 1).trans rfl
            have b0 := (blk_cell HBB.out 0).trans rfl
            have b1 := (blk_cell HBB.out 1).trans rfl
            have hv2 : (v : Int) < (nv : Int) := by omega
            have hu2 : (u : Int) < (nv : Int) := by omega
            obtain ⟨xu, hxu⟩ : ∃ xu, xu = F.wh u := ⟨_, rfl⟩
            rw [← hxu] at y0
            have HXU := Lib.hid hxu
            clear hxu
            have hend : ∀ k, Below w8.heap.size w8 (w9.drewN k) := fun k => HBT.out.trans ⟨rfl, rfl, rfl, Nat.le_refl _, fun _ _ => rfl⟩
            have HEND := Lib.hid hend
            clear hend
            by_cases d1 : u = v
            · subst d1
              clear y0
              go_quiet (fail)
              go_wp2_with fail
              go_roundw
              case rel => exact ⟨u + 1, by omega, by go_num, Lib.hid (HEND.out _)⟩
              case measure => simp [intOf]; omega
            · have d1' : ((u : Int) == (v : Int)) = false := by simp; omega
              have d1'' : ((u : Int) != (v : Int)) = true := by simp; omega
              by_cases d2 : fa ≥ 0
              · have d2' : decide (fa ≥ 0) = true := by simp; omega
                have d2a : decide (0 ≤ fa) = true := by simp; omega
                by_cases d3 : fb ≥ 0
                · have d3' : decide (fb ≥ 0) = true := by simp; omega
                  have d3a : decide (0 ≤ fb) = true := by simp; omega
                  by_cases d4 : fa ≤ lb
                  · have d4' : decide (fa ≤ lb) = true := by simp; omega
                    by_cases d5 : fb ≤ la
                    · have d5' : decide (fb ≤ la) = true := by simp; omega
                      have hxne : ¬ xv = xu := by
                        rw [HXV.out, HXU.out]
                        exact HAP.out v u hvn hun (fun e => d1 e.symm) (by rw [← HFA.out]; exact d2) (by rw [← HFB.out]; exact d3) (by rw [← HFA.out, ← HLB.out]; exact d4) (by rw [← HFB.out, ← HLA.out]; exact d5)
                      have d6' : (xv == xu) = false := by simp [hxne]
                      go_quiet (fail)
                      go_wp2_with fail
                      go_roundw
                      case rel => exact ⟨u + 1, by omega, by go_num, Lib.hid (HEND.out _)⟩
                      case measure => simp [intOf]; omega
                    · have d5' : decide (fb ≤ la) = false := by simp; omega
                      go_quiet (fail)
                      go_wp2_with fail
                      go_roundw
                      case rel => exact ⟨u + 1, by omega, by go_num, Lib.hid (HEND.out _)⟩
                      case measure => simp [intOf]; omega
                  · have d4' : decide (fa ≤ lb) = false := by simp; omega
                    go_quiet (fail)
                    go_wp2_with fail
                    go_roundw
                    case rel => exact ⟨u + 1, by omega, by go_num, Lib.hid (HEND.out _)⟩
                    case measure => simp [intOf]; omega
                · have d3' : decide (fb ≥ 0) = false := by simp; omega
                  have d3a : decide (0 ≤ fb) = false := by simp; omega
                  go_quiet (fail)
                  go_wp2_with fail
                  go_roundw
                  case rel => exact ⟨u + 1, by omega, by go_num, Lib.hid (HEND.out _)⟩
                  case measure => simp [intOf]; omega
              · have d2' : decide (fa ≥ 0) = false := by simp; omega
                have d2a : decide (0 ≤ fa) = false := by simp; omega
                go_quiet (fail)
                go_wp2_with fail
                go_roundw
                case rel => exact ⟨u + 1, by omega, by go_num, Lib.hid (HEND.out _)⟩
                case measure => simp [intOf]; omega
          · obtain rfl : nv = u := by omega
            go_wp2_with fail
            go_roundw
            case rel => exact ⟨v + 1, by omega, by go_num, by rw [HNEG.out], Lib.hid (HB8.out.trans (HBU.out.mono HB8.out.size))⟩
            case measure => simp [intOf]; omega
    · obtain rfl : nv = v := by omega
      have hcnt := HLAW.out.2.2
      have HCC := Lib.hid hcnt
      clear hcnt
      go_wp2_with fail
      go_ret
      refine ⟨congrArg (fun b => Ending.returned (Value.bool b)) (?_ : (((negs F.wh (nums nv) : Nat) : Int) == (F.sl : Int)) = true), HB4.out.trans (HB.out.mono HB4.out.size)⟩
      rw [HCC.out]
      simp
end Go.Proofs.Ythboknkpgbfmoaa.PA
