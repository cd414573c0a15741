/- The walk of the law AllocFew. -/
import Derived.Test.YthboknkpgbfmoaaAwk
import Derived.Test.YthboknkpgbfmoaaMerge
namespace Go.Proofs.Ythboknkpgbfmoaa.PA
open Go.RowKit Go.WideMaps Go.Maps Go.Shelf Go.Proofs.YthboknkpgbfmoaaW.PrintWords
set_option linter.unusedVariables false
set_option linter.unusedSimpArgs false

theorem sortOK : SortOK := fun base f lb key v xs w eg hr hlen hs hp hkey => sort_ok base f lb key v xs w eg hr hlen hs hp hkey
theorem u8_wf' {a : Int} (ha : (Lit.int .u8 a).wf = true) : 0 ≤ a ∧ a ≤ 255 := by
  simp only [Lit.wf, IntKind.min, IntKind.max, IntKind.signed, IntKind.bits, Bool.and_eq_true, decide_eq_true_eq] at ha
  simp at ha
  exact ha
theorem patL_set {k i v : Nat} (hv : v < k) : patL k (i * (2 * k) + v + 1) = patL k (i * (2 * k) + v) ++ [setC ((i * k + v : Nat) : Int)] := by rw [patL_succ, patAt_set hv]
theorem patL_tell {k i v : Nat} (hv : v < k) : patL k (i * (2 * k) + k + v + 1) = patL k (i * (2 * k) + k + v) ++ [tellC ((i * k + v : Nat) : Int)] := by rw [patL_succ, patAt_tell hv]
set_option maxHeartbeats 2000000 in
set_option maxRecDepth 100000 in
theorem walkAllocFew (W : World) (a : Int) (ha : (Lit.int .u8 a).wf = true) (r : Int) (hr : (Lit.int .u8 r).wf = true) :
    Calls Try.prog 9 #[.int .u8 a, .int .u8 r] W fun e W' => e = .returned (.bool true) ∧ Below W.heap.size W W' := by
  obtain ⟨a0, a1⟩ := u8_wf' ha
  obtain ⟨r0, r1⟩ := u8_wf' hr
  clear ha hr
  obtain ⟨k, hk⟩ := Int.eq_ofNat_of_zero_le (show 0 ≤ 1 + a % 12 by omega)
  obtain ⟨m, hm⟩ := Int.eq_ofNat_of_zero_le (show 0 ≤ r % 6 by omega)
  have hk1 : 1 ≤ k ∧ k ≤ 12 := by omega
  have hm1 : m ≤ 5 := by omega
  have HK := Lib.hid hk
  have HM := Lib.hid hm
  clear hk hm
  go_enter Try.func9, Try.ntmps9
  go_wp2_with fail
  refine (awake_calls _).mono ?_
  rintro e w1 ⟨rfl, hb1⟩
  have HB1 := Lib.hid hb1
  obtain ⟨b3, hb3⟩ : ∃ b3, b3 = w1.heap.size := ⟨_, rfl⟩
  have HB3 : Hid (W.heap.size ≤ b3) := Lib.hid (by rw [hb3]; exact hb1.size)
  have HBB : Hid (Below b3 w1 w1 ∧ b3 ≤ w1.heap.size) := Lib.hid ⟨Below.refl _ _, by omega⟩
  clear hb1 hb3
  go_wp2_with fail
  rw [HK.out]
  go_loopw [6, 7] (fun sv_ i wr => ∃ (sv : Value) (j : Nat), sv = sv_ ∧ j ≤ m + 1 ∧ i = .int .i64 j ∧ Hid (RK b3 wr sv (patL k (j * (2 * k)))) ∧ Hid (Below b3 w1 wr ∧ b3 ≤ wr.heap.size)) (fun _ i _ => m + 1 - (intOf i).toNat)
  case atStart => exact ⟨_, 0, rfl, Nat.zero_le _, rfl, Lib.hid (by rw [Nat.zero_mul]; exact RK.nil _ _), HBB⟩
  case round =>
    clear HBB
    obtain ⟨sv, j, rfl, hj, rfl, HR, HB⟩ := hrel
    by_cases hlt : j < m + 1
    · have hle : (j : Int) ≤ r % 6 := by rw [HM.out]; omega
      have hjk : j * k ≤ 5 * 12 := Nat.mul_le_mul (by omega) (by omega)
      have hjk2 : (j : Int) * (k : Int) = ((j * k : Nat) : Int) := by simp
      have hj2k : j * (2 * k) ≤ 5 * 24 := Nat.mul_le_mul (by omega) (by omega)
      have HJK := Lib.hid hjk2
      obtain ⟨jk, hjk3⟩ : ∃ jk, jk = j * k := ⟨_, rfl⟩
      have HJ3 := Lib.hid hjk3
      rw [← hjk3] at hjk hjk2
      clear hjk3
      go_wp2_with fail
      go_loopw [6, 8] (fun sv_ i wr => ∃ (sv : Value) (v : Nat), sv = sv_ ∧ v ≤ k ∧ i = .int .i64 v ∧ Hid (RK b3 wr sv (patL k (j * (2 * k) + v))) ∧ Hid (Below b3 w1 wr ∧ b3 ≤ wr.heap.size)) (fun _ i _ => k - (intOf i).toNat)
      case atStart => exact ⟨_, 0, rfl, Nat.zero_le _, rfl, HR, HB⟩
      case round =>
        clear HR HB
        obtain ⟨sv, v, rfl, hv, rfl, HR, HB⟩ := hrel
        have hbw := HB.out.2
        by_cases hvk : v < k
        · go_wp2_with (first
            | (at_builtin; refine wpList_append_rkp ((jk : Int) + (v : Int)) 0 0 (setC ((j * k + v : Nat) : Int)) (by rw [← HJ3.out]; rfl) rfl (.tmp 29) (.tmp 36) rfl b3 _ (patL k (j * (2 * k) + v)) rfl rfl HR.out hbw (by rw [patL_len]; omega) ?_; intro v1 w2 h1 h2 h3; have HR1 := Lib.hid h1; have HB2 : Hid (Below b3 w1 w2 ∧ b3 ≤ w2.heap.size) := Lib.hid ⟨HB.out.1.trans h3, Nat.le_trans hbw h2.size⟩; clear h1 h2 h3; go_frame)
            | fail)
          go_roundw
          case rel =>
            refine ⟨_, v + 1, rfl, by omega, by go_num, ?_, HB2⟩
            rw [← Nat.add_assoc, patL_set hvk]
            exact HR1
          case measure => simp [intOf]; omega
        · obtain rfl : v = k := by omega
          go_wp2_with fail
          go_loopw [6, 9] (fun sv_ i wr => ∃ (sv : Value) (u : Nat), sv = sv_ ∧ u ≤ v ∧ i = .int .i64 u ∧ Hid (RK b3 wr sv (patL v (j * (2 * v) + v + u))) ∧ Hid (Below b3 w1 wr ∧ b3 ≤ wr.heap.size)) (fun _ i _ => v - (intOf i).toNat)
          case atStart => exact ⟨_, 0, rfl, Nat.zero_le _, rfl, HR, HB⟩
          case round =>
            clear HR HB
            obtain ⟨sv, u, rfl, hu, rfl, HR, HB⟩ := hrel
            have hbw := HB.out.2
            by_cases huk : u < v
            · go_wp2_with (first
                | (at_builtin; refine wpList_append_rkp 0 ((jk : Int) + (u : Int)) 12 (tellC ((j * v + u : Nat) : Int)) (by rw [← HJ3.out]; rfl) rfl (.tmp 43) (.tmp 50) rfl b3 _ (patL v (j * (2 * v) + v + u)) rfl rfl HR.out hbw (by rw [patL_len]; omega) ?_; intro v1 w2 h1 h2 h3; have HR1 := Lib.hid h1; have HB2 : Hid (Below b3 w1 w2 ∧ b3 ≤ w2.heap.size) := Lib.hid ⟨HB.out.1.trans h3, Nat.le_trans hbw h2.size⟩; clear h1 h2 h3; go_frame)
                | fail)
              go_roundw
              case rel =>
                refine ⟨_, u + 1, rfl, by omega, by go_num, ?_, HB2⟩
                rw [← Nat.add_assoc, patL_tell huk]
                exact HR1
              case measure => simp [intOf]; omega
            · obtain rfl : u = v := by omega
              go_wp2_with fail
              go_roundw
              case rel =>
                refine ⟨_, j + 1, rfl, by omega, by go_num, ?_, HB⟩
                rw [show (j + 1) * (2 * u) = j * (2 * u) + u + u by rw [Nat.add_mul]; omega]
                exact HR
              case measure => simp [intOf]; omega
    · obtain rfl : j = m + 1 := by omega
      have hle : ¬ ((m + 1 : Nat) : Int) ≤ r % 6 := by rw [HM.out]; omega
      have hle2 : ¬ (m : Int) + 1 ≤ r % 6 := by rw [HM.out]; omega
      have hbw := HB.out.2
      have hpl : (patL k ((m + 1) * (2 * k))).length ≤ 1000 := by
        rw [patL_len]
        have := Nat.mul_le_mul (show m + 1 ≤ 6 by omega) (show 2 * k ≤ 24 by omega)
        omega
      obtain ⟨K, hfit⟩ := pat_fit (k := k) (R := m + 1) (by omega) (by have := Nat.mul_le_mul (show m + 1 ≤ 6 by omega) (show 2 * k ≤ 24 by omega); omega) (by have := Nat.mul_le_mul (show m + 1 ≤ 6 by omega) (show k ≤ 12 by omega); omega) (.inr sortOK)
      have HFIT := Lib.hid hfit
      clear hfit
      go_wp2_with (first
        | (at_builtin; refine wpList_append_rkp 0 0 13 haltC rfl rfl (.tmp 52) (.tmp 54) rfl b3 _ (patL k ((m + 1) * (2 * k))) rfl rfl HR.out hbw hpl ?_; intro v1 w2 h1 h2 h3; obtain ⟨A, c, rfl, hAc, hC⟩ := RK.reads h1; obtain ⟨nn, hnn⟩ : ∃ nn, nn = (patL k ((m + 1) * (2 * k)) ++ [haltC]).length := ⟨_, rfl⟩; rw [← hnn] at hC hAc ⊢; have HNN := Lib.hid hnn; clear hnn; have HB2 : Hid (Below b3 w1 w2 ∧ b3 ≤ w2.heap.size) := Lib.hid ⟨HB.out.1.trans h3, Nat.le_trans hbw h2.size⟩; have HC := Lib.hid hC; clear h1 h2 h3 hC)
        | fail)
      refine (allocn_calls nn A c (patH k (m + 1)) K ((m + 1) * k) _ HNN.out HC.out hAc HFIT.out).mono ?_
      rintro e w5 ⟨P, wg, hP, rfl, hg5, hR5, hb5⟩
      obtain ⟨_, hsl⟩ := pat_alloc (k := k) (R := m + 1) (by omega) hP
      rw [hsl]
      obtain ⟨nv, hnv⟩ : ∃ nv, nv = (m + 1) * k := ⟨_, rfl⟩
      rw [← hnv]
      have HF : Hid (Below W.heap.size W w5) := Lib.hid (HB1.out.trans ((HB2.out.1.trans (hb5.mono HB2.out.2)).mono HB3.out))
      clear hsl hP hg5 hR5 hb5 HR HB HB2 HC HNN HFIT hnv hbw hpl hle hle2
      have HFF : ∀ o, Below W.heap.size W (w5.alloc o) := fun o => HF.out.alloc HF.out.size o
      have HFG := Lib.hid HFF
      clear HFF
      by_cases h5 : k ≤ 5
      · have e0 : (m + 1) * (k - 5) = 0 := by rw [show k - 5 = 0 by omega, Nat.mul_zero]
        rw [e0]
        have hk5 : (k : Int) ≤ 5 := by omega
        have hk6 : (k : Int) - 5 ≤ 0 := by omega
        clear e0
        go_wp2_with fail
        go_ret
        refine ⟨congrArg (fun b => Ending.returned (Value.bool b)) (?_ : ((0 : Int) == wrap64 (max 0 ((k : Int) - 5) * (1 + r % 6))) = true), HFG.out _⟩
        rw [Int.max_eq_left hk6, Int.zero_mul, w64 (by omega) (by omega)]
        rfl
      · obtain ⟨d, rfl⟩ : ∃ d, k = d + 5 := ⟨k - 5, by omega⟩
        rw [Nat.add_sub_cancel]
        obtain ⟨sl, hsl⟩ : ∃ sl, sl = (m + 1) * d := ⟨_, rfl⟩
        have hs0 : 0 < sl := by rw [hsl]; exact Nat.mul_pos (by omega) (by omega)
        rw [← hsl]
        have hk5 : ¬ (d : Int) + 5 ≤ 5 := by omega
        have hk7 : decide ((d : Int) + 5 ≤ 5) = false := by simp; omega
        have hs2 : ((sl : Int) == 0) = false := by simp; omega
        have hd0 : 0 < d := by omega
        have hs1 : ¬ (sl : Int) = 0 := by omega
        have HSL := Lib.hid hsl
        clear hsl
        go_wp2_with fail
        go_ret
        refine ⟨congrArg (fun b => Ending.returned (Value.bool b)) (?_ : ((sl : Int) == wrap64 ((d : Int) * (1 + r % 6))) = true), HFG.out _⟩
        have e1 : (d : Int) * (1 + r % 6) = (sl : Int) := by
          rw [HM.out, HSL.out]
          push_cast
          rw [Int.mul_comm]
          congr 1
          omega
        have e2 : sl ≤ 6 * 12 := by rw [HSL.out]; exact Nat.mul_le_mul (by omega) (by omega)
        rw [e1, w64 (by omega) (by omega)]
        simp
end Go.Proofs.Ythboknkpgbfmoaa.PA
