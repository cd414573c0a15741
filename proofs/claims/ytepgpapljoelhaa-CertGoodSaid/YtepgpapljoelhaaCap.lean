/- The contract of cert.apart. -/
import Derived.Test.YtepgpapljoelhaaOfs
namespace Go.Proofs.Ytepgpapljoelhaa.PA
open Go.RowKit Go.WideMaps Go.Maps Go.Proofs.YtepgpapljoelhaaW.PrintWords
set_option linter.unusedVariables false
set_option linter.unusedSimpArgs false

/-- A look into a set. -/
theorem wpList_lookup_set {w : World} {ops : Array Oper} {rest : List Oper} {o : Oper} {a : Act} {Q : Exit → Act → World → Prop} (hg : o.guard = none) (m x : Operand) (hop : o.op = Op.lookup 48 m x false) (b : Nat) (D : DataW Unit) (v : Int)
    (hm : a.eval m = .map (some b)) (hx : a.eval x = .int .i64 v) (hw : (Lit.int .i64 v).wf = true) (h : OwnS w b D) (r : Bool) (hr : has D (ky v) = r) (hK : wpList Try.prog ops Q rest (a.put o.dst (.bool r)) w) : wpList Try.prog ops Q (o :: rest) a w := by
  refine wpList_plain hg fun K' hK' => ?_
  obtain ⟨val, ps, hrun, hv⟩ := h.own.lookup law3 Try.underlying48 (z := .bool false) (zd := .lit (.bool false)) (zp := []) rfl (plainElem_bool Try.underlying4 false) (keyOf_int_mk Try.underlying3 hw)
  obtain ⟨c, rfl⟩ := bool_inv hv
  have e2 := plainElem_bool (H := Unit) Try.underlying4 c
  have e3 := Option.some.inj (hv.symm.trans e2)
  have hc : c = has D (ky v) := by
    cases hh : has D (ky v) with
    | true =>
      rw [h.yes v _ hh] at e3
      injection e3 with e3 _
      injection e3 with e3
      injection e3 with e3
      exact e3.symm
    | false =>
      rw [atKey_of_not_has hh] at e3
      injection e3 with e3 _
      injection e3 with e3
      injection e3 with e3
      exact e3.symm
  subst hc
  rw [hr] at hrun
  unfold Oper.wp
  simp [execOp, hop, hm, hx, hrun, Result.andThen]
  exact hK' _ _ hK

/-- The places of the first k values. -/
def plc (l1 : List Int) (l0 : List Int) (k : Nat) : List Int := (l0.take k).map (rd l1)
theorem plc_succ (l1 l0 : List Int) (k : Nat) (h : k < l0.length) : plc l1 l0 (k + 1) = plc l1 l0 k ++ [rd l1 (rd l0 (k : Int))] := by
  unfold plc
  rw [List.take_add_one, List.getElem?_eq_getElem h, rd_at l0 k h, List.map_append]
  rfl
structure ApFit (l0 l1 : List Int) : Prop where
  len : l0.length ≤ 100000
  ins : ∀ v ∈ l0, 0 ≤ v ∧ v < (l1.length : Int)
  wf : ∀ v ∈ l0, (Lit.int .i64 (rd l1 v)).wf = true

set_option maxHeartbeats 2000000 in
set_option maxRecDepth 100000 in
theorem apart_calls (A0 : Option Addr) (c0 : Nat) (l0 : List Int) (A1 : Option Addr) (c1 : Nat) (l1 : List Int) (w : World) (hr0 : Kd.C (Kd.int .i64) w A0 l0.length l0) (hc0 : l0.length ≤ c0) (hr1 : Kd.C (Kd.int .i64) w A1 l1.length l1) (hc1 : l1.length ≤ c1) (h : ApFit l0 l1) :
    Calls Try.prog 16 #[.slice A0 l0.length c0, .slice A1 l1.length c1] w fun e w' => e = .returned (.bool (decide (plc l1 l0 l0.length).Nodup)) ∧ Below w.heap.size w w' := by
  have hmm := @run_makeMap Try.prog
  obtain ⟨i0, hi, hz0, hz1, hz2⟩ := info_parts info48
  have HR0 := Lib.hid hr0
  have HR1 := Lib.hid hr1
  have HF := Lib.hid h
  have hlen := h.len
  clear hr0 hr1 h
  obtain ⟨n, hn⟩ : ∃ n, n = l0.length := ⟨_, rfl⟩
  obtain ⟨m, hm⟩ : ∃ m, m = l1.length := ⟨_, rfl⟩
  rw [← hn] at HR0 hc0 hlen ⊢
  rw [← hm] at HR1 hc1 ⊢
  have HN := Lib.hid hn
  have HM := Lib.hid hm
  clear hn hm
  go_enter Try.func16, Try.ntmps16
  go_wp2_with fail
  have ho1 := OwnS.made w
  have hb1 : Below w.heap.size w (w.alloc (.map #[] 0)) := (Below.refl _ _).alloc (Nat.le_refl _) _
  have hs1 : w.heap.size < (w.alloc (.map #[] 0)).heap.size := by simp
  generalize hmb : w.heap.size = mb at ho1 hb1 hs1 ⊢
  generalize w.alloc (.map #[] 0) = w1 at ho1 hb1 hs1 ⊢
  have HO1 := Lib.hid ho1
  have HB1 := Lib.hid hb1
  clear ho1 hb1
  go_loopw [11] (fun i wr => ∃ (k : Nat) (D : DataW Unit), k ≤ n ∧ i = .int .i64 k ∧ Hid (OwnS wr mb D) ∧ size D ≤ k ∧ Hid ((∀ x, has D (ky x) = decide (x ∈ plc l1 l0 k)) ∧ (plc l1 l0 k).Nodup) ∧ Hid (Below mb w wr)) (fun i _ => n - (intOf i).toNat)
  case atStart => exact ⟨0, _, Nat.zero_le _, rfl, HO1, by simp [size_eq], Lib.hid ⟨fun x => by simp [plc, has_eq], by simp [plc]⟩, HB1⟩
  case round =>
    obtain ⟨k, D, hk, rfl, HO, hsz, HD, HB⟩ := hrel
    by_cases hkn : k < n
    · obtain ⟨v, hv⟩ : ∃ v, v = rd l0 (k : Int) := ⟨_, rfl⟩
      have hvm : v ∈ l0 := by rw [hv, rd_at l0 k (by have := HN.out; omega)]; exact List.getElem_mem _
      obtain ⟨ad0, rfl, hc⟩ := Kd.at_int HR0.out (k : Int) (by omega) (by omega)
      rw [← hv] at hc
      obtain ⟨hv0, hv1⟩ := HF.out.ins v hvm
      rw [← HM.out] at hv1
      have hwx := HF.out.wf v hvm
      obtain ⟨ad1, rfl, hd⟩ := Kd.at_int HR1.out v hv0 hv1
      replace hc := (HB.out.cell (by rw [← hmb]; exact World.block_lt_of_cell? w _ hc)).trans hc
      replace hd := (HB.out.cell (by rw [← hmb]; exact World.block_lt_of_cell? w _ hd)).trans hd
      have hsucc := plc_succ l1 l0 k (by have := HN.out; omega)
      rw [← hv] at hsucc
      obtain ⟨x, hx⟩ : ∃ x, x = rd l1 v := ⟨_, rfl⟩
      rw [← hx] at hd hwx hsucc
      have HS := Lib.hid hsucc
      have hk2 : (k : Int) < (n : Int) := by omega
      rw [Int.toNat_natCast] at hc
      clear hv hvm hsucc hx
      by_cases hP : x ∈ plc l1 l0 k
      · have hPk : has D (ky x) = true := by rw [HD.out.1]; simpa using hP
        go_wp2_with (first
          | (at_lookup; refine wpList_lookup_set rfl _ _ rfl mb D x rfl rfl hwx HO.out true hPk ?_)
          | fail)
        go_ret
        have hno : ¬ (plc l1 l0 n).Nodup := fun hnd => by
          have e : plc l1 l0 (k + 1) = (plc l1 l0 n).take (k + 1) := by
            unfold plc
            rw [← List.map_take, List.take_take, Nat.min_eq_left (by omega)]
          have h2 : (plc l1 l0 (k + 1)).Nodup := by rw [e]; exact hnd.sublist (List.take_sublist _ _)
          rw [HS.out] at h2
          exact (List.nodup_append.1 h2).2.2 x hP x (by simp) rfl
        exact ⟨by rw [decide_eq_false hno]; rfl, hmb ▸ HB.out⟩
      · have hPk : has D (ky x) = false := by rw [HD.out.1]; simpa using hP
        go_wp2_with (first
          | (at_lookup; refine wpList_lookup_set rfl _ _ rfl mb D x rfl rfl hwx HO.out false hPk ?_)
          | (at_mapUpdate; refine wpList_mapUpdate_own _ rfl _ _ _ 48 rfl 3 4 law3 Try.underlying48 _ mb _ _ rfl HO.out.own (by unfold maxLen; omega) _ _ _ rfl rfl (keyOf_int_mk Try.underlying3 hwx) _ [] (plainElem_bool Try.underlying4 true) ?_; intro w5 hout2 hg2; go_frame)
          | fail)
        go_roundw
        case rel =>
          refine ⟨k + 1, _, by omega, by go_num, Lib.hid (OwnS.put hout2 HO.out.tidy HO.out.yes), by have := put_size HO.out.tidy x; omega, Lib.hid ⟨fun y => ?_, ?_⟩, Lib.hid (HB.out.grown hg2 (by rw [← hmb]; exact HB.out.size) (fun j e => by injection e with e; omega))⟩
          · rw [has_put _ HO.out.tidy, HD.out.1, HS.out]
            by_cases e : y = x <;> by_cases e2 : y ∈ plc l1 l0 k <;> simp [e, e2]
          · rw [HS.out]
            exact List.nodup_append.2 ⟨HD.out.2, by simp, fun a ha b hb e => by
              rw [List.mem_singleton.1 hb] at e
              rw [e] at ha
              exact hP ha⟩
        case measure => simp [intOf]; omega
    · obtain rfl : n = k := by omega
      go_wp2_with fail
      go_ret
      exact ⟨by rw [decide_eq_true HD.out.2]; rfl, hmb ▸ HB.out⟩
#print axioms apart_calls
end Go.Proofs.Ytepgpapljoelhaa.PA
