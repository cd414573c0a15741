/- The contract of agrees: it is true. -/
import Derived.Test.YthboknkpgbfmoaaWnt
import Derived.Test.YthboknkpgbfmoaaSml
namespace Go.Proofs.Ythboknkpgbfmoaa.PA
open Go.RowKit Go.WideMaps Go.Maps Go.Shelf Go.Proofs.YthboknkpgbfmoaaW.PrintWords
set_option linter.unusedVariables false
set_option linter.unusedSimpArgs false

/-- What alloc.Of asks of codes. -/
structure Fit (l : List S60) (K nv : Nat) : Prop where
  len : l.length ≤ 1000
  wf : ∀ c ∈ l, ∀ u ∈ us c, (Lit.int .i64 u).wf = true
  vals : code_Values.f K l = some (nv : Int)
  few : nv ≤ 200
  sort : SortFit l nv
theorem allocn_calls (n : Nat) (A : Option Addr) (cap : Nat) (l : List S60) (K nv : Nat) (w : World) (hn : n = l.length) (hr : Kd.C k60 w A n l) (hc : n ≤ cap) (h : Fit l K nv) : Calls Try.prog 21 #[.slice A n cap] w (AllocPost l nv w) := by
  subst hn
  exact alloc_calls A cap l K nv w hr hc h.len h.wf h.vals h.few h.sort
theorem wantn_calls (n : Nat) (A : Option Addr) (cap : Nat) (l : List S60) (K nv : Nat) (w : World) (hn : n = l.length) (hr : Kd.C k60 w A n l) (hc : n ≤ cap) (h : Fit l K nv) : Calls Try.prog 24 #[.slice A n cap] w (WantPost l nv w) := by
  subst hn
  exact want_calls A cap l K nv w hr hc h.len h.wf h.vals h.few
set_option maxHeartbeats 1000000 in
set_option maxRecDepth 100000 in
theorem agrees_calls (n : Nat) (A : Option Addr) (cap : Nat) (l : List S60) (K nv : Nat) (w : World) (hn : n = l.length) (hr : Kd.C k60 w A n l) (hc : n ≤ cap) (h : Fit l K nv) :
    Calls Try.prog 19 #[.slice A n cap] w fun e w' => e = .returned (.bool true) ∧ Below w.heap.size w w' := by
  have HR := Lib.hid hr
  have HF := Lib.hid h
  have HN := Lib.hid hn
  have hnv := h.few
  clear hr h hn
  go_enter Try.func19, Try.ntmps19
  go_wp2_with fail
  refine (allocn_calls n A cap l K nv _ HN.out HR.out hc HF.out).mono ?_
  rintro e w1 ⟨P, wg, hP, rfl, hg1, hR1, hb1⟩
  have HR1 := Lib.hid (Kd.C_below HR.out (hb1.alloc hb1.size (.cells #[.slice (some ⟨wg, 0, none⟩) nv nv, .int .i64 (allocF (SpF l P l.length) nv l.length).sl] 49)))
  obtain ⟨F, hF⟩ : ∃ F, F = allocF (SpF l P l.length) nv l.length := ⟨_, rfl⟩
  rw [← hF] at hR1 HR1 ⊢
  have HFF := Lib.hid hF
  have HP := Lib.hid hP
  have HR2 := Lib.hid (World.rowIs.alloc hR1 (.cells #[.slice (some ⟨wg, 0, none⟩) nv nv, .int .i64 F.sl] 49))
  have HB1 := Lib.hid (hb1.alloc hb1.size (.cells #[.slice (some ⟨wg, 0, none⟩) nv nv, .int .i64 F.sl] 49))
  have hpc := blk_new w1 (.cells #[.slice (some ⟨wg, 0, none⟩) nv nv, .int .i64 F.sl] 49)
  have HPC := Lib.hid hpc
  clear hF hP hR1 hb1 hpc
  go_wp2_with fail
  generalize w1.alloc (.cells #[.slice (some ⟨wg, 0, none⟩) nv nv, .int .i64 F.sl] 49) = w2 at HR1 HR2 HB1 HPC ⊢
  generalize (World.heap w1).size = pb at HPC ⊢
  refine (wantn_calls n A cap l K nv _ HN.out HR1.out hc HF.out).mono ?_
  rintro e w3 ⟨P', wg', hP', rfl, hg3, hR3, hb3⟩
  obtain rfl := Lives.one HP.out hP'
  rw [← HFF.out] at hR3 ⊢
  have p0 := (blk_cell (blk_below HPC.out hb3) 0).trans rfl
  have p1 := (blk_cell (blk_below HPC.out hb3) 1).trans rfl
  have HR3 := Lib.hid hR3
  have HR4 := Lib.hid (World.rowIs.of_block HR2.out (hb3.block wg (World.rowIs.lt HR2.out)))
  have HB3 := Lib.hid (HB1.out.trans (hb3.mono HB1.out.size))
  clear hR3 hb3 hP' HR2
  go_wp2_with fail
  have P0 := Lib.hid p0
  go_loopw [28] (fun i wr => ∃ (k : Nat), k ≤ nv ∧ i = .int .i64 k ∧ Hid (Below w3.heap.size w3 wr)) (fun i _ => nv - (intOf i).toNat)
  case atStart => exact ⟨0, Nat.zero_le _, rfl, Lib.hid (Below.refl _ _)⟩
  case round =>
    clear p0 p1
    obtain ⟨k, hk, rfl, HBQ⟩ := hrel
    by_cases hkn : k < nv
    · have q0 := (HBQ.out.cell (World.block_lt_of_cell? w3 _ P0.out)).trans P0.out
      have e0 := World.rowIs.cell HR4.out hkn
      have e1 := World.rowIs.cell HR3.out hkn
      have c0 := (HBQ.out.cell (World.block_lt_of_cell? w3 _ e0)).trans e0
      have c1 := (HBQ.out.cell (World.block_lt_of_cell? w3 _ e1)).trans e1
      have hk2 : (k : Int) < (nv : Int) := by omega
      clear e0 e1
      generalize F.wh k = x at c0 c1
      go_wp2_with fail
      go_quiet (fail)
      go_wp2_with fail
      go_roundw
      case rel => exact ⟨k + 1, by omega, by go_num, Lib.hid (HBQ.out.trans ⟨rfl, rfl, rfl, Nat.le_refl _, fun _ _ => rfl⟩)⟩
      case measure => simp [intOf]; omega
    · obtain rfl : nv = k := by omega
      go_wp2_with fail
      go_ret
      exact ⟨rfl, HB3.out.trans (HBQ.out.mono HB3.out.size)⟩
end Go.Proofs.Ythboknkpgbfmoaa.PA
