/- HoldNested: the walk. -/
import Derived.Test.YtcdgjgoplogiiaaDoorHck
namespace Go.Proofs.YtcdgjgoplogiiaaDoor.PT
open Go.RowKit Go.Lib
set_option linter.unusedVariables false
set_option linter.unusedSimpArgs false
def nC (j : Nat) : List UInt8 := [UInt8.ofNat (97 + j)]
def nH : Nat → List UInt8
  | 0 => []
  | j + 1 => nH j ++ [108, 111, 99, 107, 32] ++ nC j ++ [59, 32]
def nT : Nat → List UInt8
  | 0 => []
  | j + 1 => nT j ++ [116, 97, 107, 101, 32] ++ nC j ++ [59, 32]
def nG (wrong : Bool) : Nat → List UInt8
  | 0 => []
  | j + 1 => if wrong then nG wrong j ++ [103, 105, 118, 101, 32] ++ nC j ++ [59, 32] else [103, 105, 118, 101, 32] ++ nC j ++ [59, 32] ++ nG wrong j
def nTx (wrong : Bool) (k : Nat) : List UInt8 := nH k ++ [116, 104, 114, 101, 97, 100, 32, 123, 32] ++ nT k ++ nG wrong k ++ [125]
theorem all_N (wrong : Bool) : hallTo (fun d => chkL (nTx wrong (d + 2)) == (if wrong then 5 else 0)) 5 = true := by cases wrong <;> kernel_rfl
theorem nC_x (j : Nat) (h : j < 7) : (⟨#[97, 98, 99, 100, 101, 102, 103]⟩ : ByteArray).extract j (j + 1) = ⟨(nC j).toArray⟩ := by
  rcases (show j = 0 ∨ j = 1 ∨ j = 2 ∨ j = 3 ∨ j = 4 ∨ j = 5 ∨ j = 6 by omega) with rfl | rfl | rfl | rfl | rfl | rfl | rfl <;> kernel_rfl
theorem nH_len (j : Nat) : (nH j).length = 8 * j := by
  induction j with
  | zero => rfl
  | succ j ih => simp only [nH, List.length_append, ih, nC, List.length_cons, List.length_nil]; omega
theorem nT_len (j : Nat) : (nT j).length = 8 * j := by
  induction j with
  | zero => rfl
  | succ j ih => simp only [nT, List.length_append, ih, nC, List.length_cons, List.length_nil]; omega
theorem nG_len (wrong : Bool) (j : Nat) : (nG wrong j).length = 8 * j := by
  induction j with
  | zero => rfl
  | succ j ih => cases wrong <;> simp [nG, List.length_append, ih, nC] <;> omega
theorem app_two (l m : List UInt8) : (⟨l.toArray⟩ : ByteArray) ++ ⟨m.toArray⟩ = ⟨(l ++ m).toArray⟩ := app_arr l m.toArray
theorem sz_arr (l : List UInt8) : (⟨l.toArray⟩ : ByteArray).size = l.length := by show l.toArray.size = _; simp
set_option maxRecDepth 100000 in
set_option maxHeartbeats 4000000 in
theorem nested_calls (a0 : Int) (wr : Bool) (w : World) (l0 : 0 ≤ a0) (r0 : a0 < 256) (d : Nat) (hd : a0 % 5 = d) (hg : GT w) :
    Calls Tryd.prog 7 #[.int .u8 a0, .bool wr] w fun e w' => e = .returned (.bool true) ∧ Below w.heap.size w w' := by
  have d5 : d < 5 := by omega
  have hok := hallTo_at (all_N wr) d d5
  rw [beq_iff_eq] at hok
  have HG := Lib.hid hg
  have HD := Lib.hid hd
  have HO := Lib.hid hok
  clear hg hd hok
  go_enter Tryd.func7, Tryd.ntmps7
  go_wp2_with (go_at_call 15; refine (awake8_calls w HG.out).mono ?_; rintro e w1 ⟨rfl, hb1⟩; have HB1 := Lib.hid hb1; clear hb1)
  simp only [HD.out]
  go_loop [7, 8, 9, 10] (fun a b c i => ∃ j : Nat, j ≤ d + 2 ∧ i = .int .i64 j ∧ a = .string ⟨(nH j).toArray⟩ ∧ b = .string ⟨(nT j).toArray⟩ ∧ c = .string ⟨(nG wr j).toArray⟩) (fun _ _ _ i => d + 2 - (RowKit.intOf i).toNat)
  case atStart => exact ⟨0, Nat.zero_le _, rfl, rfl, rfl, by cases wr <;> rfl⟩
  case round =>
    obtain ⟨j, hj, rfl, rfl, rfl, rfl⟩ := hrel
    have z1 := (sz_arr (nH j)).trans (nH_len j)
    have z2 := (sz_arr (nT j)).trans (nT_len j)
    have z3 := (sz_arr (nG wr j)).trans (nG_len wr j)
    have hj7 : j + 1 ≤ 7 ∨ j = d + 2 := by omega
    by_cases hlt : j < d + 2
    · have hlt' : (j : Int) < 2 + (d : Int) := by omega
      have hx := nC_x j (by omega)
      have zx : (⟨(nC j).toArray⟩ : ByteArray).size = 1 := rfl
      have hj8 : (j : Int) + 1 ≤ 7 := by omega
      cases wr with
      | true =>
        go_wp2_with fail
        · refine ⟨⟨j + 1, by omega, by go_num, ?_, ?_, ?_⟩, by simp [RowKit.intOf]; omega⟩ <;> exact congrArg Value.string ((bq_iff _ _).1 (by unfold beq; simp [nH, nT, nG, List.append_assoc]))
      | false =>
        go_wp2_with fail
        · refine ⟨⟨j + 1, by omega, by go_num, ?_, ?_, ?_⟩, by simp [RowKit.intOf]; omega⟩ <;> exact congrArg Value.string ((bq_iff _ _).1 (by unfold beq; simp [nH, nT, nG, List.append_assoc]))
    · obtain rfl : j = d + 2 := by omega
      have hlt' : ¬ ((d + 2 : Nat) : Int) < 2 + (d : Int) := by omega
      go_wp2_with fail
      have C1 : Hid (chk ((⟨(nH (d + 2)).toArray⟩ : ByteArray) ++ ⟨#[116, 104, 114, 101, 97, 100, 32, 123, 32]⟩ ++ ⟨(nT (d + 2)).toArray⟩ ++ ⟨(nG wr (d + 2)).toArray⟩ ++ ⟨#[125]⟩) = (if wr then 5 else 0)) := Lib.hid (by
        have e : (⟨(nH (d + 2)).toArray⟩ : ByteArray) ++ ⟨#[116, 104, 114, 101, 97, 100, 32, 123, 32]⟩ ++ ⟨(nT (d + 2)).toArray⟩ ++ ⟨(nG wr (d + 2)).toArray⟩ ++ ⟨#[125]⟩ = ⟨(nTx wr (d + 2)).toArray⟩ := (bq_iff _ _).1 (by unfold beq; simp [nTx, List.append_assoc])
        rw [e, chk_list _ (by simp only [nTx, List.length_append, nH_len, nT_len, nG_len, List.length_cons, List.length_nil]; omega)]
        exact HO.out)
      cases wr with
      | true =>
        refine (checks_calls (n := 5) C1.out (by omega) w1 (HG.out.below HB1.out)).mono ?_
        rintro e w3 ⟨rfl, hb3⟩
        have HB3 := Lib.hid (HB1.out.trans (hb3.mono HB1.out.size))
        clear hb3 C1
        go_wp2
        go_ret
        exact ⟨rfl, HB3.out⟩
      | false =>
        refine (checks_calls (n := 0) C1.out (by omega) w1 (HG.out.below HB1.out)).mono ?_
        rintro e w3 ⟨rfl, hb3⟩
        have HB3 := Lib.hid (HB1.out.trans (hb3.mono HB1.out.size))
        clear hb3 C1
        go_wp2
        go_ret
        exact ⟨rfl, HB3.out⟩
theorem nest_u8 {a : Int} (h : (Lit.int .u8 a).wf = true) : 0 ≤ a ∧ a < 256 := by
  simp only [Lit.wf, IntKind.min, IntKind.max, IntKind.signed, IntKind.bits, Bool.and_eq_true, decide_eq_true_eq] at h
  simp at h
  omega
theorem walkHoldNested (W : World) (hg : GT W) (a : Int) (ha : (Lit.int .u8 a).wf = true) (c : Bool) :
    Calls Tryd.prog 7 #[.int .u8 a, .bool c] W fun e W' => e = .returned (.bool true) ∧ Below W.heap.size W W' := by
  obtain ⟨a0, a1⟩ := nest_u8 ha
  exact nested_calls a c W a0 a1 (a % 5).toNat (by omega) hg
end Go.Proofs.YtcdgjgoplogiiaaDoor.PT
