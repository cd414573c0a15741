/- The walk of the law AllocSame. -/
import Derived.Test.YthboknkpgbfmoaaWalkAllocOf
import Derived.Test.YthboknkpgbfmoaaTwice
namespace Go.Proofs.Ythboknkpgbfmoaa.PA
open Go.RowKit Go.WideMaps Go.Maps Go.Shelf Go.Proofs.YthboknkpgbfmoaaW.PrintWords
set_option linter.unusedVariables false
set_option linter.unusedSimpArgs false

theorem tw_fit (raw : List S60) (nv : Nat) (hv : valsOf (smallOf raw) = (nv : Int)) (h8 : nv ≤ 8) : ∃ K' nv', Fit (tw (smallOf raw)) K' nv' ∧ nv' ≤ 2 * nv ∧ (∀ i, i < nv → 2 * i < nv') ∧ nv' ≤ 16 := by
  have hl := smallOf_len raw
  have hf := smallOf_few raw
  have hu : ∀ c ∈ tw (smallOf raw), ∀ u ∈ us c, 0 ≤ u ∧ u < 16 := fun c hc u hu => by
    obtain ⟨d, hd, rfl⟩ := List.mem_map.1 hc
    rw [tw_us (hf d hd)] at hu
    obtain ⟨x, hx, rfl⟩ := List.mem_map.1 hu
    have := few8_us (hf d hd) x hx
    omega
  have hok : ∀ c ∈ tw (smallOf raw), Okv c := fun c hc => ⟨fun hd => by
    obtain ⟨d, hd', rfl⟩ := List.mem_map.1 hc
    rw [tw_dv d hd]
    have := (hf d hd').2.1
    unfold dv
    split <;> omega, fun u h => by have := hu c hc u h; omega⟩
  obtain ⟨e1, e2⟩ := vals_dbl (smallOf raw) 0 (Int.le_refl _) hf
  have e3 : valsOf (tw (smallOf raw)) = dbl (nv : Int) := by
    have : dbl 0 = 0 := rfl
    rw [this] at e1
    show (tw (smallOf raw)).foldl valC 0 = _
    rw [e1]
    exact congrArg dbl hv
  obtain ⟨nv', hnv⟩ : ∃ nv' : Nat, dbl (nv : Int) = (nv' : Int) := ⟨(dbl nv).toNat, by unfold dbl; split <;> omega⟩
  have hb : nv' ≤ 2 * nv ∧ (∀ i, i < nv → 2 * i < nv') := by
    unfold dbl at hnv
    split at hnv
    · exact ⟨by omega, fun i hi => by omega⟩
    · exact ⟨by omega, fun i hi => by omega⟩
  obtain ⟨K, hK⟩ := (vals_eq (tw (smallOf raw)) (by rw [tw_len]; omega) hok).ex
  rw [e3, hnv] at hK
  refine ⟨K, nv', ⟨by rw [tw_len]; omega, fun c hc u h => ?_, hK, by omega, .inl (by omega)⟩, hb.1, hb.2, by omega⟩
  have := hu c hc u h
  obtain ⟨n, rfl⟩ := Int.eq_ofNat_of_zero_le this.1
  exact wf_small n (by omega)
set_option maxHeartbeats 4000000 in
set_option maxRecDepth 100000 in
theorem walkAllocSame (W : World) (A : Option Addr) (c : Nat) (l : List S60) (hr : Kd.C k60 W A l.length l) (hc : l.length ≤ c) (_hm : l.length ≤ maxLen) (_hw : ∀ y ∈ l, y.wf) :
    Calls Try.prog 10 #[.slice A l.length c] W fun e W' => e = .returned (.bool true) ∧ Below W.heap.size W W' := by
  obtain ⟨KS, hKS⟩ := (small_eq l).ex
  obtain ⟨K, nv, hfit, hvals, hnv8⟩ := small_fit l
  obtain ⟨K', nv', hfit', hd1, hd2, hnv16⟩ := tw_fit l nv hvals hnv8
  have hfew := smallOf_few l
  have hlen := smallOf_len l
  have H := Lib.hid (tautochronelaw13_Small.calls KS A c l (smallOf l))
  have HR := Lib.hid hr
  have HKS := Lib.hid hKS
  obtain ⟨n, hn⟩ : ∃ n, n = l.length := ⟨_, rfl⟩
  rw [← hn] at HR H hc ⊢
  obtain ⟨cs, hcs⟩ : ∃ cs, cs = smallOf l := ⟨_, rfl⟩
  rw [← hcs] at hfit hfit' hfew hlen H HKS
  have HF := Lib.hid hfit
  have HF' := Lib.hid hfit'
  have HD2 := Lib.hid hd2
  have HFEW := Lib.hid hfew
  clear hr hKS hfit hfit' hn hcs hvals hd2 hfew
  go_enter Try.func10, Try.ntmps10
  go_wp2_with fail
  refine (awake_calls _).mono ?_
  rintro e w1 ⟨rfl, hb1⟩
  have HR1 := Lib.hid (Kd.C_below HR.out hb1)
  have HB1 := Lib.hid hb1
  clear hb1
  go_wp2_with fail
  refine (H.out _ HR1.out hc HKS.out).mono ?_
  rintro e w2 ⟨v0, rfl, hR2, hb2⟩
  obtain ⟨A2, c2, rfl, hc2, hC2⟩ := Kd.R_reads hR2
  obtain ⟨m, hm⟩ : ∃ m, m = cs.length := ⟨_, rfl⟩
  rw [← hm] at hc2 hC2 hlen ⊢
  have HM := Lib.hid hm
  have HC2 := Lib.hid hC2
  have HB2 := Lib.hid (HB1.out.trans (hb2.mono HB1.out.size))
  obtain ⟨b3, hb3⟩ : ∃ b3, b3 = w2.heap.size := ⟨_, rfl⟩
  have HBB : Hid (Below b3 w2 w2 ∧ b3 ≤ w2.heap.size) := Lib.hid ⟨Below.refl _ _, by omega⟩
  have HB3 := Lib.hid hb3
  clear hm hC2 hR2 hb2 H HR HR1 HB1 HKS hb3
  go_wp2_with fail
  go_loopw [4, 17] (fun sv_ i wr => ∃ (sv : Value) (j : Nat), sv = sv_ ∧ j ≤ m ∧ i = .int .i64 j ∧ Hid (RK b3 wr sv (tw (cs.take j))) ∧ Hid (Below b3 w2 wr ∧ b3 ≤ wr.heap.size)) (fun _ i _ => m - (intOf i).toNat)
  case atStart => exact ⟨_, 0, rfl, Nat.zero_le _, rfl, Lib.hid (RK.nil _ _), HBB⟩
  case round =>
    clear HBB
    obtain ⟨sv, j, rfl, hj, rfl, HRK, HB⟩ := hrel
    by_cases hjm : j < m
    · have hjc : j < cs.length := by rw [← HM.out]; exact hjm
      obtain ⟨ad, e1, x0, x1, x2, x3, x4, x5, x6, x7⟩ := at_T60 HC2.out (j : Int) (by omega) (by omega)
      cases e1
      rw [Int.toNat_natCast] at x0 x1 x2 x3 x4 x5 x6 x7
      rw [rdT_at cs j hjc] at x0 x1 x2 x3 x4 x5 x6 x7
      have hbw : Below w2.heap.size w2 wr := by rw [← HB3.out]; exact HB.out.1
      replace x0 := (hbw.cell (World.block_lt_of_cell? w2 _ x0)).trans x0
      replace x1 := (hbw.cell (World.block_lt_of_cell? w2 _ x1)).trans x1
      replace x2 := (hbw.cell (World.block_lt_of_cell? w2 _ x2)).trans x2
      replace x3 := (hbw.cell (World.block_lt_of_cell? w2 _ x3)).trans x3
      replace x4 := (hbw.cell (World.block_lt_of_cell? w2 _ x4)).trans x4
      replace x5 := (hbw.cell (World.block_lt_of_cell? w2 _ x5)).trans x5
      replace x6 := (hbw.cell (World.block_lt_of_cell? w2 _ x6)).trans x6
      replace x7 := (hbw.cell (World.block_lt_of_cell? w2 _ x7)).trans x7
      have hf8 := HFEW.out cs[j] (List.getElem_mem hjc)
      have htk : tw (cs.take (j + 1)) = tw (cs.take j) ++ [twC cs[j]] := by
        rw [List.take_succ_eq_append_getElem hjc]
        show List.map twC _ = _
        rw [List.map_append]
        rfl
      obtain ⟨cc, hcc⟩ : ∃ cc, cc = cs[j] := ⟨_, rfl⟩
      rw [← hcc] at x0 x1 x2 x3 x4 x5 x6 x7 hf8 htk
      have HTK := Lib.hid htk
      obtain ⟨_, ⟨f20, f21⟩, ⟨f30, f31⟩, ⟨f40, f41⟩, ⟨f50, f51⟩⟩ := hf8
      have f32 : -1 ≤ cc.f3 := by omega
      have hlt : (tw (cs.take j)).length ≤ 1000 := by rw [tw_len, List.length_take]; omega
      have hbs := HB.out.2
      clear hcc htk hbw f31
      by_cases h3 : cc.f3 > 0
      · go_wp2_with (first
          | (at_builtin; (refine wpList_append_rk rfl (.tmp 40) (.tmp 42) rfl b3 _ (tw (cs.take j)) ⟨cc.f0, cc.f1, 2 * cc.f2, 2 * cc.f3, 2 * cc.f4, 2 * cc.f5, cc.f6, cc.f7⟩ rfl (by first | (go_simp; done) | (go_simp; rfl)) (HRK.out.alloc _) (by simp; omega) hlt ?_); intro v1 w3 h1 h2 h3; have HR1 := Lib.hid h1; have HB4 : Hid (Below b3 w2 w3 ∧ b3 ≤ w3.heap.size) := Lib.hid ⟨(HB.out.1.alloc hbs _).trans h3, Nat.le_trans (by simp; omega) h2.size⟩; clear h1 h2 h3; go_frame)
          | fail)
        go_roundw
        case rel =>
          refine ⟨_, j + 1, rfl, by omega, by go_num, Lib.hid ?_, HB4⟩
          rw [HTK.out]
          have e : twC cc = ⟨cc.f0, cc.f1, 2 * cc.f2, 2 * cc.f3, 2 * cc.f4, 2 * cc.f5, cc.f6, cc.f7⟩ := by unfold twC; rw [if_pos (by assumption)]
          rw [e]
          exact HR1.out
        case measure => simp [intOf]; omega
      · go_wp2_with (first
          | (at_builtin; refine wpList_append_rk rfl (.tmp 40) (.tmp 42) rfl b3 _ (tw (cs.take j)) ⟨cc.f0, cc.f1, 2 * cc.f2, cc.f3, 2 * cc.f4, 2 * cc.f5, cc.f6, cc.f7⟩ rfl (by first | (go_simp; done) | (go_simp; rfl)) (HRK.out.alloc _) (by simp; omega) hlt ?_; intro v1 w3 h1 h2 h3; have HR1 := Lib.hid h1; have HB4 : Hid (Below b3 w2 w3 ∧ b3 ≤ w3.heap.size) := Lib.hid ⟨(HB.out.1.alloc hbs _).trans h3, Nat.le_trans (by simp; omega) h2.size⟩; clear h1 h2 h3; go_frame)
          | fail)
        go_roundw
        case rel =>
          refine ⟨_, j + 1, rfl, by omega, by go_num, Lib.hid ?_, HB4⟩
          rw [HTK.out]
          have e : twC cc = ⟨cc.f0, cc.f1, 2 * cc.f2, cc.f3, 2 * cc.f4, 2 * cc.f5, cc.f6, cc.f7⟩ := by unfold twC; rw [if_neg (by omega)]
          rw [e]
          exact HR1.out
        case measure => simp [intOf]; omega
    · obtain rfl : m = j := by omega
      have htk : tw (cs.take m) = tw cs := by rw [HM.out, List.take_length]
      rw [htk] at HRK
      clear htk
      obtain ⟨A4, c4, rfl, hc4, hC4⟩ := HRK.out.reads
      obtain ⟨m', hm'⟩ : ∃ m', m' = (tw cs).length := ⟨_, rfl⟩
      rw [← hm'] at hc4 hC4 ⊢
      have HM' := Lib.hid hm'
      have HC4 := Lib.hid hC4
      have HC3 := Lib.hid (Kd.C_below HC2.out (by rw [← HB3.out]; exact HB.out.1))
      clear hm' hC4 HRK
      go_wp2_with fail
      refine (allocn_calls m A2 c2 cs K nv _ HM.out HC3.out hc2 HF.out).mono ?_
      rintro e w5 ⟨P, wg, hP, rfl, hg5, hR5, hb5⟩
      have HP := Lib.hid hP
      have HR5 := Lib.hid hR5
      have HC5 := Lib.hid (Kd.C_below HC4.out hb5)
      have HB5 : Hid (Below b3 w2 w5 ∧ b3 ≤ w5.heap.size) := Lib.hid ⟨HB.out.1.trans (hb5.mono HB.out.2), Nat.le_trans HB.out.2 hb5.size⟩
      clear hP hR5 hb5 hg5
      go_wp2_with fail
      refine (allocn_calls m' A4 c4 (tw cs) K' nv' _ HM'.out HC5.out hc4 HF'.out).mono ?_
      rintro e w6 ⟨P', wg', hP', rfl, hg6, hR6, hb6⟩
      have hpair := pair_lives HFEW.out HP.out hP'
      have htw : Twin (allocF (SpF cs P cs.length) nv cs.length) (allocF (SpF (tw cs) P' (tw cs).length) nv' (tw cs).length) := by
        rw [tw_len]
        exact alloc_tw (fun i => (pair_spF HFEW.out hpair i cs.length (Nat.le_refl _)).1) (fun i => (pair_spF HFEW.out hpair i cs.length (Nat.le_refl _)).2) hd1 HD2.out
      generalize allocF (SpF cs P cs.length) nv cs.length = F at HR5 htw ⊢
      generalize allocF (SpF (tw cs) P' (tw cs).length) nv' (tw cs).length = G at hR6 htw ⊢
      obtain ⟨t1, t2, t3⟩ := htw
      rw [t2]
      have HT := Lib.hid t1
      have HB6 : Hid (Below b3 w2 w6) := Lib.hid (HB5.out.1.trans (hb6.mono HB5.out.2))
      have HR7 := Lib.hid (World.rowIs.of_block HR5.out (hb6.block wg (World.rowIs.lt HR5.out)))
      have HR8 := Lib.hid hR6
      clear hpair hP' hR6 hb6 hg6 t1 t2 t3 HR5 HB5 HB
      have HB7 : Hid (Below W.heap.size W ((w6.alloc (.cells #[.slice (some ⟨wg, 0, none⟩) nv nv, .int .i64 F.sl] 49)).alloc (.cells #[.slice (some ⟨wg', 0, none⟩) nv' nv', .int .i64 F.sl] 49))) := Lib.hid (by
        have h1 := HB2.out.trans ((show Below w2.heap.size w2 w6 by rw [← HB3.out]; exact HB6.out).mono HB2.out.size)
        have h2 := h1.alloc h1.size (.cells #[.slice (some ⟨wg, 0, none⟩) nv nv, .int .i64 F.sl] 49)
        exact h2.alloc h2.size _)
      have HR9 := Lib.hid (World.rowIs.alloc (World.rowIs.alloc HR7.out (.cells #[.slice (some ⟨wg, 0, none⟩) nv nv, .int .i64 F.sl] 49)) (.cells #[.slice (some ⟨wg', 0, none⟩) nv' nv', .int .i64 F.sl] 49))
      have HR10 := Lib.hid (World.rowIs.alloc (World.rowIs.alloc HR8.out (.cells #[.slice (some ⟨wg, 0, none⟩) nv nv, .int .i64 F.sl] 49)) (.cells #[.slice (some ⟨wg', 0, none⟩) nv' nv', .int .i64 F.sl] 49))
      have hpc := blk_alloc (blk_new w6 (.cells #[.slice (some ⟨wg, 0, none⟩) nv nv, .int .i64 F.sl] 49)) (.cells #[.slice (some ⟨wg', 0, none⟩) nv' nv', .int .i64 F.sl] 49)
      have hqc := blk_new (w6.alloc (.cells #[.slice (some ⟨wg, 0, none⟩) nv nv, .int .i64 F.sl] 49)) (.cells #[.slice (some ⟨wg', 0, none⟩) nv' nv', .int .i64 F.sl] 49)
      rw [show (w6.alloc (.cells #[.slice (some ⟨wg, 0, none⟩) nv nv, .int .i64 F.sl] 49)).heap.size = w6.heap.size + 1 by simp] at hqc
      have p0 := (blk_cell hpc 0).trans rfl
      have p1 := (blk_cell hpc 1).trans rfl
      have q0 := (blk_cell hqc 0).trans rfl
      have q1 := (blk_cell hqc 1).trans rfl
      clear hpc hqc HB6 HR7 HR8
      go_wp2_with fail
      generalize (w6.alloc (.cells #[.slice (some ⟨wg, 0, none⟩) nv nv, .int .i64 F.sl] 49)).alloc (.cells #[.slice (some ⟨wg', 0, none⟩) nv' nv', .int .i64 F.sl] 49) = w7 at HB7 HR9 HR10 p0 p1 q0 q1 ⊢
      generalize (World.heap w6).size = pb at p0 p1 q0 q1 ⊢
      go_loopw [57] (fun i wr => ∃ (v : Nat), v ≤ nv ∧ i = .int .i64 v ∧ wr = w7) (fun i _ => nv - (intOf i).toNat)
      case atStart => exact ⟨0, Nat.zero_le _, rfl, rfl⟩
      case round =>
        obtain ⟨v, hv, rfl, rfl⟩ := hrel
        by_cases hvn : v < nv
        · have h2v := HD2.out v hvn
          have x0 := World.rowIs.cell HR9.out hvn
          have y0 := World.rowIs.cell HR10.out h2v
          rw [HT.out v] at y0
          obtain ⟨xv, hxv⟩ : ∃ xv, xv = F.wh v := ⟨_, rfl⟩
          rw [← hxv] at x0 y0
          clear hxv
          have g1 : decide (2 * (v : Int) ≥ (nv' : Int)) = false := by simp; omega
          have g1a : ¬ 2 * (v : Int) ≥ (nv' : Int) := by omega
          have g2 : 2 * (v : Int) < (nv' : Int) := by omega
          go_wp2_with fail
          go_roundw
          case rel => exact ⟨v + 1, by omega, by go_num, by first | rfl | trivial⟩
          case measure => simp [intOf]; omega
        · obtain rfl : nv = v := by omega
          go_wp2_with fail
          go_ret
          exact ⟨rfl, HB7.out⟩
end Go.Proofs.Ythboknkpgbfmoaa.PA
