/- The walk of the law AllocOf. -/
import Derived.Test.YthboknkpgbfmoaaAwk
import Derived.Test.YthboknkpgbfmoaaOpen
namespace Go.Proofs.Ythboknkpgbfmoaa.PA
open Go.RowKit Go.WideMaps Go.Maps Go.Shelf Go.Proofs.YthboknkpgbfmoaaW.PrintWords
set_option linter.unusedVariables false
set_option linter.unusedSimpArgs false

/-- What Small makes fits. -/
theorem small_fit (raw : List S60) : ∃ K nv, Fit (smallOf raw) K nv ∧ valsOf (smallOf raw) = (nv : Int) ∧ nv ≤ 8 := by
  have hl := smallOf_len raw
  have hf := smallOf_few raw
  have hb := vals_bd (N := 8) (smallOf raw) 0 (by omega) (by omega) (fun c hc => (few8_ok (hf c hc)).2)
  obtain ⟨q0, q1, _, _⟩ := hb
  obtain ⟨nv, hnv⟩ := Int.eq_ofNat_of_zero_le (show 0 ≤ valsOf (smallOf raw) from q0)
  have h8 : nv ≤ 8 := by
    have : valsOf (smallOf raw) ≤ 8 := q1
    omega
  obtain ⟨K, hK⟩ := (vals_eq (smallOf raw) (by omega) (fun c hc => (few8_ok (hf c hc)).1)).ex
  rw [hnv] at hK
  refine ⟨K, nv, ⟨by omega, fun c hc u hu => ?_, hK, by omega, .inl (by omega)⟩, hnv, h8⟩
  have := few8_us (hf c hc) u hu
  obtain ⟨n, rfl⟩ := Int.eq_ofNat_of_zero_le this.1
  exact wf_small n (by omega)
set_option maxHeartbeats 1000000 in
set_option maxRecDepth 100000 in
theorem walkAllocOf (W : World) (A : Option Addr) (c : Nat) (l : List S60) (hr : Kd.C k60 W A l.length l) (hc : l.length ≤ c) (_hm : l.length ≤ maxLen) (_hw : ∀ y ∈ l, y.wf) :
    Calls Try.prog 7 #[.slice A l.length c] W fun e W' => e = .returned (.bool true) ∧ Below W.heap.size W W' := by
  obtain ⟨KS, hKS⟩ := (small_eq l).ex
  obtain ⟨K, nv, hfit, _, _⟩ := small_fit l
  have H := Lib.hid (tautochronelaw13_Small.calls KS A c l (smallOf l))
  have HR := Lib.hid hr
  have HKS := Lib.hid hKS
  have HF := Lib.hid hfit
  obtain ⟨n, hn⟩ : ∃ n, n = l.length := ⟨_, rfl⟩
  rw [← hn] at HR H hc ⊢
  clear hr hKS hfit hn
  go_enter Try.func7, Try.ntmps7
  go_wp2_with fail
  refine (awake_calls _).mono ?_
  rintro e w1 ⟨rfl, hb1⟩
  have HR1 := Lib.hid (Kd.C_below HR.out hb1)
  have HB1 := Lib.hid hb1
  clear hb1
  go_wp2_with fail
  refine (H.out _ HR1.out hc HKS.out).mono ?_
  rintro e w2 ⟨v0, rfl, hR2, hb2⟩
  obtain ⟨A2, c2, rfl, hc2, hC2⟩ := Kd.R_reads hR2
  obtain ⟨m, hm⟩ : ∃ m, m = (smallOf l).length := ⟨_, rfl⟩
  rw [← hm] at hc2 hC2 ⊢
  have HM := Lib.hid hm
  have HC2 := Lib.hid hC2
  have HB2 := Lib.hid (HB1.out.trans (hb2.mono HB1.out.size))
  clear hm hC2 hR2 hb2
  go_wp2_with fail
  refine (agrees_calls m A2 c2 (smallOf l) K nv _ HM.out HC2.out hc2 HF.out).mono ?_
  rintro e w3 ⟨rfl, hb3⟩
  go_wp2_with fail
  go_ret
  exact ⟨rfl, HB2.out.trans (hb3.mono HB2.out.size)⟩
end Go.Proofs.Ythboknkpgbfmoaa.PA
