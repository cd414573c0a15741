/- The contract of live.into. -/
import Derived.Test.YtepgpapljoelhaaSets
import Derived.Deep.AppendLies
namespace Go.Proofs.Ytepgpapljoelhaa.PA
open Go.RowKit Go.WideMaps Go.Maps Go.Proofs.YtepgpapljoelhaaW.PrintWords
set_option linter.unusedVariables false
set_option linter.unusedSimpArgs false

theorem us_row {w : World} {base : Nat} {ok : Nat → Prop} {v : Value} {us : List Int} (h : Kd.R (Kd.int .i64) 3 w base ok v us) :
    ∃ A c, v = .slice A us.length c ∧ us.length ≤ c ∧ ∀ k (hk : k < us.length), ∃ g, base ≤ g ∧ g < w.heap.size ∧ A = some ⟨g, 0, none⟩ ∧ w.cell? ⟨g, k, none⟩ = some (.int .i64 us[k]) := by
  obtain ⟨A, c, rfl, hc, hC⟩ := Kd.R_reads h
  refine ⟨A, c, rfl, hc, fun k hk => ?_⟩
  obtain ⟨inner, ho⟩ := Kd.R_own h
  obtain ⟨g, cap, hv, _, hlt⟩ := ho.form (by omega)
  have hA : A = some ⟨g, 0, none⟩ := by injection hv
  subst hA
  have hb := Kd.R_base h g rfl
  obtain ⟨ad, e, hcell⟩ := Kd.at_int hC (k : Int) (by omega) (by omega)
  cases e
  rw [Int.toNat_natCast] at hcell
  refine ⟨g, hb, hlt, rfl, ?_⟩
  have ea : (⟨g, 0, none⟩ : Addr).add k = ⟨g, k, none⟩ := by
    unfold Addr.add
    by_cases h0 : k = 0
    · subst h0; rfl
    · simp [h0]
  rw [ea] at hcell
  rw [hcell]
  have : YtepgpapljoelhaaW.PrintWords.rd us (k : Int) = us[k] := by unfold YtepgpapljoelhaaW.PrintWords.rd; simp [hk]
  rw [this]

/-- What into leaves. -/
def IntoPost (ba : Nat) (DA DB : DataW Unit) (d0 : Int) (sb : Bool) (us : List Int) (w : World) (e : Ending) (w' : World) : Prop :=
  ∃ D, e = .returned (.bool (decide (size DA < size D))) ∧ OwnS w' ba D ∧ Grow DA D ∧ (∀ v, has D (ky v) = (has DA (ky v) || (has DB (ky v) && (!sb || decide (v ≠ d0))) || us.contains v)) ∧ size D ≤ size DA + size DB + us.length ∧ w.grownBy w' (some ba)
def keep (sb : Bool) (d0 v : Int) : Bool := !sb || decide (v ≠ d0)

set_option maxHeartbeats 2000000 in
set_option maxRecDepth 100000 in
theorem into_calls (ba bb : Nat) (DA DB : DataW Unit) (c : S37) (d0 : Int) (sb : Bool) (K : Nat) (us : List Int) (w : World) (hne : ba ≠ bb) (hA : OwnS w ba DA) (hB : OwnS w bb DB) (hsz : size DA + size DB + us.length < 1000000)
    (hd : code_Defines.f c.f0 c.f1 c.f2 c.f3 c.f4 c.f5 c.f6 c.f7 = some (d0, sb)) (hu : code_Uses.f K c.f0 c.f1 c.f2 c.f3 c.f4 c.f5 c.f6 c.f7 = some us) (hw : ∀ u ∈ us, (Lit.int .i64 u).wf = true) :
    Calls Try.prog 23 #[.map (some ba), .map (some bb), .agg #[.int .i64 c.f0, .int .i64 c.f1, .int .i64 c.f2, .int .i64 c.f3, .int .i64 c.f4, .int .i64 c.f5, .int .u64 c.f6, .int .i64 c.f7]] w (IntoPost ba DA DB d0 sb us w) := by
  have HA := Lib.hid hA
  have HB := Lib.hid hB
  have HD := Lib.hid hd
  have HU := Lib.hid hu
  have HW := Lib.hid hw
  clear hA hB hd hu hw
  have hlA := HA.out.lt
  have hlB := HB.out.lt
  have HBX := Lib.hid (blk_new w (.cells #[.int .i64 c.f0, .int .i64 c.f1, .int .i64 c.f2, .int .i64 c.f3, .int .i64 c.f4, .int .i64 c.f5, .int .u64 c.f6, .int .i64 c.f7] 37))
  go_enter Try.func23, Try.ntmps23
  go_wp2_with (first
    | (at_len; refine wpList_len_own _ rfl _ 48 rfl 3 4 Try.underlying48 R4 ba _ DA rfl (HA.out.alloc _).own ?_)
    | fail)
  refine (code_Defines.calls _ _ _ _ _ _ _ _ d0 sb _ HD.out).mono ?_
  rintro e w1 ⟨rfl, hb1⟩
  have HX1 := Lib.hid (blk_below HBX.out hb1)
  have HA1 := Lib.hid ((HA.out.alloc (.cells #[.int .i64 c.f0, .int .i64 c.f1, .int .i64 c.f2, .int .i64 c.f3, .int .i64 c.f4, .int .i64 c.f5, .int .u64 c.f6, .int .i64 c.f7] 37)).below hb1)
  have HB1 := Lib.hid ((HB.out.alloc (.cells #[.int .i64 c.f0, .int .i64 c.f1, .int .i64 c.f2, .int .i64 c.f3, .int .i64 c.f4, .int .i64 c.f5, .int .u64 c.f6, .int .i64 c.f7] 37)).below hb1)
  have HG1 := Lib.hid (weaken ((World.grownBy_alloc w (.cells #[.int .i64 c.f0, .int .i64 c.f1, .int .i64 c.f2, .int .i64 c.f3, .int .i64 c.f4, .int .i64 c.f5, .int .u64 c.f6, .int .i64 c.f7] 37) none).andThen (grown_of hb1) (fun _ e => by cases e)) (some ba))
  clear hb1
  have hlX : w.heap.size < w1.heap.size := blk_lt HX1.out
  go_wp2_with (first
    | (at_range; refine wpList_range_own _ rfl _ 48 rfl 3 4 law3 Try.underlying48 _ bb _ _ rfl HB1.out.own ?_; intro w2 hrg0 hg0 hs0)
    | fail)
  go_frame
  go_loopw [10] (fun _ wr => ∃ (left : Lit → Bool) (cnt : Nat) (D : DataW Unit), wr.ranges Try.prog 3 R4 bb w1.heap.size (size DB) DB left cnt ∧ cnt ≤ size DB ∧ OwnS wr ba D ∧ Grow DA D ∧ (∀ v, has D (ky v) = (has DA (ky v) || (has DB (ky v) && !left (ky v) && keep sb d0 v))) ∧ size D ≤ size DA + (size DB - cnt) ∧ w1.grownBy wr (some ba)) (fun _ wr => wr.rangeLeft bb w1.heap.size)
  case atStart =>
    refine ⟨_, _, DA, hrg0, Nat.le_refl _, HA1.out.kept hg0 (by simp), Grow.refl _, fun v => ?_, by omega, weaken hg0 _⟩
    cases has DB (ky v) <;> simp
  case round =>
    obtain ⟨left, cnt, D, hrg, hcs, hown, hgw, hD, hsD, hgr⟩ := hrel
    have HO := Lib.hid hown
    have HDD := Lib.hid hD
    have HG := Lib.hid hgr
    have HGW := Lib.hid hgw
    clear hown hD hgr hgw
    go_wp2_with (first
      | (at_next; refine wpList_next_set rfl _ rfl bb w1.heap.size _ _ _ _ rfl hrg HB.out.yes ?_ ?_)
      | fail)
    · intro hc0 hl0
      have hX2 := (HG.out.block w.heap.size hlX (by simp; omega)).trans HX1.out
      have z0 := (blk_cell hX2 0).trans rfl
      have z1 := (blk_cell hX2 1).trans rfl
      have z2 := (blk_cell hX2 2).trans rfl
      have z3 := (blk_cell hX2 3).trans rfl
      have z4 := (blk_cell hX2 4).trans rfl
      have z5 := (blk_cell hX2 5).trans rfl
      have z6 := (blk_cell hX2 6).trans rfl
      have z7 := (blk_cell hX2 7).trans rfl
      clear hX2
      go_wp2_with fail
      refine (code_Uses.calls K _ _ _ _ _ _ _ _ us _ HU.out).mono ?_
      rintro e w3 ⟨v0, rfl, hR, hb3⟩
      obtain ⟨A, cu, rfl, hcu, hcells⟩ := us_row hR
      have hlr : ba < wr.heap.size := HO.out.lt
      have HC := Lib.hid hcells
      have HO3 := Lib.hid (HO.out.below hb3)
      have HD3 : Hid (∀ v, has D (ky v) = (has DA (ky v) || (has DB (ky v) && keep sb d0 v))) := Lib.hid fun v => by rw [HDD.out v, hl0]; simp
      have HG3 := Lib.hid (HG1.out.andThen (HG.out.andThen (grown_of hb3) (fun _ e => by cases e)) (fun j e => .inr e))
      have hs3 := hb3.size
      clear hR hcells hb3 z0 z1 z2 z3 z4 z5 z6 z7 HO
      go_wp2_with fail
      go_loopw [12, 38] (fun _ i wq => ∃ (k : Nat) (E : DataW Unit), k ≤ us.length ∧ i = .int .i64 k ∧ OwnS wq ba E ∧ Grow DA E ∧ (∀ v, has E (ky v) = (has D (ky v) || (us.take k).contains v)) ∧ size E ≤ size D + k ∧ w3.grownBy wq (some ba)) (fun _ i _ => us.length - (intOf i).toNat)
      case atStart => exact ⟨0, D, Nat.zero_le _, rfl, HO3.out, HGW.out, fun v => by simp, by omega, World.grownBy.refl _ _⟩
      case round =>
        obtain ⟨k, E, hk, rfl, hoE, hgE, hE, hsE, hgq⟩ := hrel
        have HOE := Lib.hid hoE
        have HGE := Lib.hid hgE
        have HEE := Lib.hid hE
        have HGQ := Lib.hid hgq
        clear hoE hgE hE hgq
        by_cases hlt : k < us.length
        · obtain ⟨g, hg0, hg1, rfl, hcell⟩ := HC.out k hlt
          have hcq : World.cell? wr ⟨g, k, none⟩ = some (.int .i64 us[k]) := (World.cell?_of_block (HGQ.out.block g hg1 (by simp; omega))).trans hcell
          have hwu := HW.out us[k] (List.getElem_mem hlt)
          have hE1 : us.take (k + 1) = us.take k ++ [us[k]] := List.take_succ_eq_append_getElem hlt
          generalize us[k] = u at *
          have HE1 := Lib.hid hE1
          have HWU := Lib.hid hwu
          clear hE1 hwu hcell
          go_wp2_with (first
            | (at_mapUpdate; refine wpList_mapUpdate_own _ rfl _ _ _ 48 rfl 3 4 law3 Try.underlying48 _ ba _ _ rfl HOE.out.own (by unfold maxLen; omega) _ _ _ rfl rfl (keyOf_int_mk Try.underlying3 HWU.out) _ [] (plainElem_bool Try.underlying4 true) ?_; intro w5 hout2 hg2; go_frame)
            | fail)
          go_roundw
          case rel =>
            exact ⟨k + 1, _, by omega, by go_num, OwnS.put hout2 HOE.out.tidy HOE.out.yes, HGE.out.put HOE.out.tidy _ _, fun v => by rw [has_put _ HOE.out.tidy, HEE.out v, HE1.out]; simp [Bool.or_comm, Bool.or_left_comm, Bool.or_assoc], by have := put_size HOE.out.tidy u; omega, HGQ.out.andThen hg2 (fun j e => .inr e)⟩
          case measure => simp [intOf]; omega
        · obtain rfl : k = us.length := by omega
          go_wp2_with (first
            | (at_len; refine wpList_len_own _ rfl _ 48 rfl 3 4 Try.underlying48 R4 ba _ E rfl HOE.out.own ?_)
            | fail)
          go_ret
          refine ⟨E, rfl, HOE.out, HGE.out, fun v => ?_, by omega, HG3.out.andThen HGQ.out (fun j e => .inr e)⟩
          rw [HEE.out v, HD3.out v, List.take_length]
          rfl
    · intro x w3 cnt1 hwx hlx hhx hrg1 hlt hg1 hs1 hen
      have hown1 := HO.out.kept hg1 (by simp; omega)
      have hrel0 : keep sb d0 x = false → ∀ v, has D (ky v) = (has DA (ky v) || (has DB (ky v) && !(left (ky v) && !(ky v).sameKey (ky x)) && keep sb d0 v)) := fun hk v => by
        by_cases e : v = x
        · subst e
          rw [HDD.out v, hk]
          simp
        · rw [HDD.out v, sameKey_ne (fun q => e (ky_inj q))]
          simp
      have hrel1 : keep sb d0 x = true → ∀ v, has (D.put (ky x) tt) (ky v) = (has DA (ky v) || (has DB (ky v) && !(left (ky v) && !(ky v).sameKey (ky x)) && keep sb d0 v)) := fun hk v => by
        rw [has_put D hown1.tidy]
        by_cases e : v = x
        · subst e
          rw [WideAt.sameKey_self (ky_lit v), hhx, hk]
          simp
        · rw [HDD.out v, sameKey_ne (fun q => e (ky_inj q))]
          simp [e]
      have R0 := Lib.hid hrel0
      have R1 := Lib.hid hrel1
      clear hrel0 hrel1
      have HN1 := Lib.hid hown1
      clear hown1
      cases sb with
      | false =>
        go_wp2_with (first
          | (at_mapUpdate; refine wpList_mapUpdate_own _ rfl _ _ _ 48 rfl 3 4 law3 Try.underlying48 _ ba _ _ rfl HN1.out.own (by unfold maxLen; omega) _ _ _ rfl rfl (keyOf_int_mk Try.underlying3 hwx) _ [] (plainElem_bool Try.underlying4 true) ?_; intro w5 hout2 hg2; go_frame)
          | fail)
        have hrg2 := hrg1.kept hg2 (fun e => by have := Option.some.inj e; omega) (fun e => by have := Option.some.inj e; omega)
        go_roundw
        case rel => exact ⟨_, cnt1, _, hrg2, by omega, OwnS.put hout2 HN1.out.tidy HN1.out.yes, HGW.out.put HN1.out.tidy _ _, R1.out rfl, by have := put_size HN1.out.tidy x; omega, (HG.out.andThen hg1 (fun j e => .inl (by injection e with e; omega))).andThen hg2 (fun j e => .inr e)⟩
        case measure => rw [hrg2.left_eq, hrg.left_eq]; exact hlt
      | true =>
        by_cases hxd : x = d0
        · subst hxd
          go_wp2_with fail
          go_roundw
          case rel => exact ⟨_, cnt1, D, hrg1, by omega, HN1.out, HGW.out, R0.out (by simp [keep]), by omega, HG.out.andThen hg1 (fun j e => .inl (by injection e with e; omega))⟩
          case measure => rw [hrg1.left_eq, hrg.left_eq]; exact hlt
        · go_wp2_with (first
            | (at_mapUpdate; refine wpList_mapUpdate_own _ rfl _ _ _ 48 rfl 3 4 law3 Try.underlying48 _ ba _ _ rfl HN1.out.own (by unfold maxLen; omega) _ _ _ rfl rfl (keyOf_int_mk Try.underlying3 hwx) _ [] (plainElem_bool Try.underlying4 true) ?_; intro w5 hout2 hg2; go_frame)
            | fail)
          have hrg2 := hrg1.kept hg2 (fun e => by have := Option.some.inj e; omega) (fun e => by have := Option.some.inj e; omega)
          go_roundw
          case rel => exact ⟨_, cnt1, _, hrg2, by omega, OwnS.put hout2 HN1.out.tidy HN1.out.yes, HGW.out.put HN1.out.tidy _ _, R1.out (by simp [keep, hxd]), by have := put_size HN1.out.tidy x; omega, (HG.out.andThen hg1 (fun j e => .inl (by injection e with e; omega))).andThen hg2 (fun j e => .inr e)⟩
          case measure => rw [hrg2.left_eq, hrg.left_eq]; exact hlt
#print axioms into_calls
end Go.Proofs.Ytepgpapljoelhaa.PA
