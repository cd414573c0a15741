/- HoldThreads: its texts, the walk. -/
import Derived.Test.YtcdgjgoplogiiaaDoorHck
namespace Go.Proofs.YtcdgjgoplogiiaaDoor.PT
open Go.RowKit Go.Lib
set_option linter.unusedVariables false
set_option linter.unusedSimpArgs false
def hB : List UInt8 := [112, 117, 98, 108, 105, 99, 32, 97, 59, 32, 112, 117, 98, 108, 105, 99, 32, 98, 59, 32, 116, 104, 114, 101, 97, 100, 32, 123, 32, 98, 32, 61, 32, 49, 59, 32, 125]
def hO : List UInt8 := [32, 116, 104, 114, 101, 97, 100, 32, 123, 32, 111, 117, 116, 112, 117, 116, 32, 97, 59, 32, 125]
def hA2 : List UInt8 := [32, 116, 104, 114, 101, 97, 100, 32, 123, 32, 97, 100, 100, 32, 97, 32, 50, 59, 32, 125]
def hO2 : List UInt8 := [32, 116, 104, 114, 101, 97, 100, 32, 123, 32, 111, 117, 116, 112, 117, 116, 32, 98, 59, 32, 125]
/-- The text of k threads more; the sel-th reads. -/
def hT (sel : Nat) : Nat → List UInt8
  | 0 => hB
  | k + 1 => hT sel k ++ (if k = sel then hO else hA2)
def okT (sel k : Nat) : Bool := (chkL (hT sel k) == (if Nat.blt sel k && Nat.blt 1 k then 5 else 0)) && (chkL (hT sel k ++ hO2) == 5)
theorem all_T0 : hallTo (fun k => k == 0 || okT 0 k) 9 = true := by kernel_rfl
theorem all_T1 : hallTo (fun k => k == 0 || okT 1 k) 9 = true := by kernel_rfl
theorem all_T2 : hallTo (fun k => k == 0 || okT 2 k) 9 = true := by kernel_rfl
theorem all_T3 : hallTo (fun k => k == 0 || okT 3 k) 9 = true := by kernel_rfl
theorem all_T4 : hallTo (fun k => k == 0 || okT 4 k) 9 = true := by kernel_rfl
theorem all_T5 : hallTo (fun k => k == 0 || okT 5 k) 9 = true := by kernel_rfl
theorem all_T6 : hallTo (fun k => k == 0 || okT 6 k) 9 = true := by kernel_rfl
theorem all_T7 : hallTo (fun k => k == 0 || okT 7 k) 9 = true := by kernel_rfl
theorem all_T8 : hallTo (fun k => k == 0 || okT 8 k) 9 = true := by kernel_rfl
theorem all_T (sel : Nat) (h : sel < 9) : hallTo (fun k => k == 0 || okT sel k) 9 = true := by
  rcases (show sel = 0 ∨ sel = 1 ∨ sel = 2 ∨ sel = 3 ∨ sel = 4 ∨ sel = 5 ∨ sel = 6 ∨ sel = 7 ∨ sel = 8 by omega) with rfl | rfl | rfl | rfl | rfl | rfl | rfl | rfl | rfl
  · exact all_T0
  · exact all_T1
  · exact all_T2
  · exact all_T3
  · exact all_T4
  · exact all_T5
  · exact all_T6
  · exact all_T7
  · exact all_T8
theorem hT_len (sel k : Nat) : (hT sel k).length ≤ 40 + 30 * k := by
  induction k with
  | zero => show hB.length ≤ _; decide
  | succ k ih =>
    show (hT sel k ++ (if k = sel then hO else hA2)).length ≤ _
    rw [List.length_append]
    have : (if k = sel then hO else hA2).length ≤ 30 := by split <;> decide
    omega
set_option maxRecDepth 100000 in
set_option maxHeartbeats 4000000 in
theorem threads_calls (a0 a1 : Int) (rd : Bool) (w : World) (l0 : 0 ≤ a0) (r0 : a0 < 256) (l1 : 0 ≤ a1) (r1 : a1 < 256) (d : Nat) (hd : a0 % 8 = d) (hg : GT w) :
    Calls Tryd.prog 6 #[.int .u8 a0, .int .u8 a1, .bool rd] w fun e w' => e = .returned (.bool true) ∧ Below w.heap.size w w' := by
  have d8 : d < 8 := by omega
  obtain ⟨sel, hsel⟩ : ∃ sel : Nat, sel = if rd then (a1 % ((d : Int) + 1)).toNat else 8 := ⟨_, rfl⟩
  have hs9 : sel < 9 := by
    rw [hsel]
    split
    · have := Int.emod_lt_of_pos a1 (show 0 < (d : Int) + 1 by omega); omega
    · omega
  have hok := hallTo_at (all_T sel hs9) (d + 1) (by omega)
  have hok2 : okT sel (d + 1) = true := by simpa using hok
  simp only [okT, Bool.and_eq_true, beq_iff_eq] at hok2
  have HG := Lib.hid hg
  have HD := Lib.hid hd
  have HO := Lib.hid hok2
  have hlen := hT_len sel (d + 1)
  clear hg hd hok hok2
  go_enter Tryd.func6, Tryd.ntmps6
  go_wp2_with (go_at_call 15; refine (awake8_calls w HG.out).mono ?_; rintro e w1 ⟨rfl, hb1⟩; have HB1 := Lib.hid hb1; clear hb1)
  simp only [HD.out]
  cases rd with
  | false =>
    obtain rfl : sel = 8 := by rw [hsel]; rfl
    clear hsel HD
    go_loop [8, 9] (fun a i => ∃ j : Nat, j ≤ d + 1 ∧ i = .int .i64 j ∧ a = .string ⟨(hT 8 j).toArray⟩) (fun _ i => d + 1 - (RowKit.intOf i).toNat)
    case atStart => exact ⟨0, Nat.zero_le _, rfl, rfl⟩
    case round =>
      obtain ⟨j, hj, rfl, rfl⟩ := hrel
      have hlj := hT_len 8 j
      have hsz : (⟨(hT 8 j).toArray⟩ : ByteArray).size = (hT 8 j).length := by show (hT 8 j).toArray.size = _; simp
      by_cases hlt : j < d + 1
      · have hlt' : (j : Int) < 1 + (d : Int) := by omega
        go_wp2_with fail
        · refine ⟨⟨j + 1, by omega, by go_num, ?_⟩, by simp [RowKit.intOf]; omega⟩
          rw [app_arr]
          show _ = Value.string ⟨(hT 8 j ++ (if j = 8 then hO else hA2)).toArray⟩
          rw [if_neg (by omega)]; rfl
      · obtain rfl : j = d + 1 := by omega
        have hlt' : ¬ ((d + 1 : Nat) : Int) < 1 + (d : Int) := by omega
        have C1 : Hid (chk ⟨(hT 8 (d + 1)).toArray⟩ = 0) := Lib.hid (by rw [chk_list _ (by omega), HO.out.1]; rw [if_neg (fun h => by have h1 := h.1; rw [Nat.blt_eq] at h1; omega)])
        have C2 : Hid (chk ((⟨(hT 8 (d + 1)).toArray⟩ : ByteArray) ++ ⟨#[32, 116, 104, 114, 101, 97, 100, 32, 123, 32, 111, 117, 116, 112, 117, 116, 32, 98, 59, 32, 125]⟩) = 5) := Lib.hid (by
          rw [app_arr]; exact (chk_list _ (by rw [List.length_append]; have : hO2.length ≤ 30 := (by decide); show _ + hO2.length ≤ _; omega)).trans HO.out.2)
        go_wp2_with fail
        refine (checks_calls C1.out (by omega) w1 (HG.out.below HB1.out)).mono ?_
        rintro e w3 ⟨rfl, hb3⟩
        have HB3 := Lib.hid (HB1.out.trans (hb3.mono HB1.out.size))
        clear hb3
        go_wp2_with fail
        refine (checks_calls C2.out (by omega) w3 (HG.out.below HB3.out)).mono ?_
        rintro e w4 ⟨rfl, hb4⟩
        have HB4 := Lib.hid (HB3.out.trans (hb4.mono HB3.out.size))
        clear hb4
        go_wp2
        go_ret
        exact ⟨rfl, HB4.out⟩
  | true =>
    have hsel2 : a1 % (1 + (d : Int)) = (sel : Int) := by
      have h0 := Int.emod_nonneg a1 (show (1 + (d : Int)) ≠ 0 by omega)
      rw [hsel, if_pos rfl, Int.add_comm (d : Int) 1]; omega
    have hsd : sel < d + 1 := by have := Int.emod_lt_of_pos a1 (show 0 < 1 + (d : Int) by omega); omega
    clear hsel HD
    go_loop [8, 9] (fun a i => ∃ j : Nat, j ≤ d + 1 ∧ i = .int .i64 j ∧ a = .string ⟨(hT sel j).toArray⟩) (fun _ i => d + 1 - (RowKit.intOf i).toNat)
    case atStart => exact ⟨0, Nat.zero_le _, rfl, rfl⟩
    case round =>
      obtain ⟨j, hj, rfl, rfl⟩ := hrel
      have hlj := hT_len sel j
      have hsz : (⟨(hT sel j).toArray⟩ : ByteArray).size = (hT sel j).length := by show (hT sel j).toArray.size = _; simp
      by_cases hlt : j < d + 1
      · have hlt' : (j : Int) < 1 + (d : Int) := by omega
        by_cases hjs : j = sel
        · subst hjs
          have q1 : ((j : Int) == (j : Int)) = true := by rw [beq_iff_eq]
          go_wp2_with fail
          all_goals first
            | (exfalso; omega)
            | (refine ⟨⟨j + 1, by omega, by go_num, ?_⟩, by simp [RowKit.intOf]; omega⟩; rw [app_arr]; show _ = Value.string ⟨(hT j j ++ (if j = j then hO else hA2)).toArray⟩; rw [if_pos rfl]; rfl)
        · have q1 : ((j : Int) == (sel : Int)) = false := by rw [beq_eq_false_iff_ne]; omega
          go_wp2_with fail
          all_goals first
            | (exfalso; omega)
            | (refine ⟨⟨j + 1, by omega, by go_num, ?_⟩, by simp [RowKit.intOf]; omega⟩; rw [app_arr]; show _ = Value.string ⟨(hT sel j ++ (if j = sel then hO else hA2)).toArray⟩; rw [if_neg hjs]; rfl)
      · obtain rfl : j = d + 1 := by omega
        have hlt' : ¬ ((d + 1 : Nat) : Int) < 1 + (d : Int) := by omega
        by_cases hd0 : d = 0
        · subst hd0
          have hsz1 : (⟨(hT sel 1).toArray⟩ : ByteArray).size = (hT sel 1).length := hsz
          have hl1 := hT_len sel 1
          have C1 : Hid (chk ⟨(hT sel 1).toArray⟩ = 0) := Lib.hid (by rw [chk_list _ (by omega), HO.out.1]; rw [if_neg (fun h => by have h1 := h.2; rw [Nat.blt_eq] at h1; omega)])
          have C2 : Hid (chk ((⟨(hT sel 1).toArray⟩ : ByteArray) ++ ⟨#[32, 116, 104, 114, 101, 97, 100, 32, 123, 32, 111, 117, 116, 112, 117, 116, 32, 98, 59, 32, 125]⟩) = 5) := Lib.hid (by
            rw [app_arr]; exact (chk_list _ (by rw [List.length_append]; have : hO2.length ≤ 30 := (by decide); show _ + hO2.length ≤ _; omega)).trans HO.out.2)
          go_wp2_with fail
          refine (checks_calls C1.out (by omega) w1 (HG.out.below HB1.out)).mono ?_
          rintro e w3 ⟨rfl, hb3⟩
          have HB3 := Lib.hid (HB1.out.trans (hb3.mono HB1.out.size))
          clear hb3
          go_wp2_with fail
          refine (checks_calls C2.out (by omega) w3 (HG.out.below HB3.out)).mono ?_
          rintro e w4 ⟨rfl, hb4⟩
          have HB4 := Lib.hid (HB3.out.trans (hb4.mono HB3.out.size))
          clear hb4
          go_wp2
          go_ret
          exact ⟨rfl, HB4.out⟩
        · have hgt : 1 < 1 + (d : Int) := by omega
          have C1 : Hid (chk ⟨(hT sel (d + 1)).toArray⟩ = 5) := Lib.hid (by rw [chk_list _ (by omega), HO.out.1]; rw [if_pos ⟨by rw [Nat.blt_eq]; omega, by rw [Nat.blt_eq]; omega⟩])
          have C2 : Hid (chk ((⟨(hT sel (d + 1)).toArray⟩ : ByteArray) ++ ⟨#[32, 116, 104, 114, 101, 97, 100, 32, 123, 32, 111, 117, 116, 112, 117, 116, 32, 98, 59, 32, 125]⟩) = 5) := Lib.hid (by
            rw [app_arr]; exact (chk_list _ (by rw [List.length_append]; have : hO2.length ≤ 30 := (by decide); show _ + hO2.length ≤ _; omega)).trans HO.out.2)
          go_wp2_with fail
          refine (checks_calls C1.out (by omega) w1 (HG.out.below HB1.out)).mono ?_
          rintro e w3 ⟨rfl, hb3⟩
          have HB3 := Lib.hid (HB1.out.trans (hb3.mono HB1.out.size))
          clear hb3
          go_wp2_with fail
          refine (checks_calls C2.out (by omega) w3 (HG.out.below HB3.out)).mono ?_
          rintro e w4 ⟨rfl, hb4⟩
          have HB4 := Lib.hid (HB3.out.trans (hb4.mono HB3.out.size))
          clear hb4
          go_wp2
          go_ret
          exact ⟨rfl, HB4.out⟩
theorem hold_u8 {a : Int} (h : (Lit.int .u8 a).wf = true) : 0 ≤ a ∧ a < 256 := by
  simp only [Lit.wf, IntKind.min, IntKind.max, IntKind.signed, IntKind.bits, Bool.and_eq_true, decide_eq_true_eq] at h
  simp at h
  omega
theorem walkHoldThreads (W : World) (hg : GT W) (a : Int) (ha : (Lit.int .u8 a).wf = true) (b : Int) (hb : (Lit.int .u8 b).wf = true) (c : Bool) :
    Calls Tryd.prog 6 #[.int .u8 a, .int .u8 b, .bool c] W fun e W' => e = .returned (.bool true) ∧ Below W.heap.size W W' := by
  obtain ⟨a0, a1⟩ := hold_u8 ha
  obtain ⟨b0, b1⟩ := hold_u8 hb
  exact threads_calls a b c W a0 a1 b0 b1 (a % 8).toNat (by omega) hg
end Go.Proofs.YtcdgjgoplogiiaaDoor.PT
