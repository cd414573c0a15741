/- The contracts of slices.IndexFunc, ContainsFunc, DeleteFunc over numbers. -/
import Derived.Test.YthboknkpgbfmoaaSpan
import Derived.Lib.SliceRun
import Derived.Shelf.Abstract
import Derived.Lib.Walk
namespace Go.Proofs.Ythboknkpgbfmoaa.PA
open Go.RowKit Go.WideMaps Go.Maps Go.Shelf Go.Proofs.YthboknkpgbfmoaaW.PrintWords
set_option linter.unusedVariables false
set_option linter.unusedSimpArgs false

/-- A slice of numbers of the call's own. -/
def RI (base : Nat) (w : World) (v : Value) (xs : List Int) : Prop := w.ownsRow base 3 1 v xs.length (xs.map (Value.int .i64))
/-- A function value that tells of numbers. -/
def Says (f : Nat) (lb : Array Value) (p : Int → Bool) (w : World) (row : Option Nat) (xs : List Int) : Prop :=
  ∀ (W : World) (x : Int), x ∈ xs → w.grownBy W row → Calls Try.prog f (#[.int .i64 x] ++ lb) W (fun e w' => e = .returned (.bool (p x)) ∧ Below W.heap.size W w')
/-- Where the first is. -/
def IdxPost (p : Int → Bool) (xs : List Int) (w : World) (e : Ending) (w' : World) : Prop :=
  ∃ i : Int, e = .returned (.int .i64 i) ∧ ((i = -1 ∧ ∀ x ∈ xs, p x = false) ∨ ∃ (k : Nat) (hk : k < xs.length), i = (k : Int) ∧ p xs[k] = true ∧ ∀ x ∈ xs.take k, p x = false) ∧ Below w.heap.size w w'
theorem RI.form {base : Nat} {w : World} {v : Value} {xs : List Int} (h : RI base w v xs) : (v = .slice none 0 0 ∧ xs = []) ∨ ∃ g cap, v = .slice (some ⟨g, 0, none⟩) xs.length cap ∧ base ≤ g ∧ g < w.heap.size ∧ xs.length ≤ cap ∧ ∀ k (hk : k < xs.length), w.cell? ⟨g, k, none⟩ = some (.int .i64 xs[k]) ∧ w.frozen? ⟨g, k, none⟩ = false := by
  rcases h.2 with ⟨e, h0⟩ | ⟨g, cap, cur, e, hb, hg, hc, hm, hs, ht⟩
  · exact .inl ⟨e, List.eq_nil_of_length_eq_zero h0⟩
  · refine .inr ⟨g, cap, e, hb, (Array.getElem?_eq_some_iff.1 hg).1, hc, fun k hk => ?_⟩
    subst e
    have h' : w.ownsRow base 3 1 (.slice (some ⟨g, 0, none⟩) xs.length cap) xs.length (xs.map (Value.int .i64)) := h
    refine ⟨?_, h'.frozenAt k⟩
    rw [h'.cellAt k (by simpa using hk)]
    simp [hk]
theorem RI.kept {base : Nat} {w w' : World} {v : Value} {xs : List Int} {row : Option Nat} (h : RI base w v xs) (hg : w.grownBy w' row) (hr : v.ownBlock = none ∨ v.ownBlock ≠ row) : RI base w' v xs := World.ownsRow.kept h hg hr
theorem RI.below {base : Nat} {w w' : World} {v : Value} {xs : List Int} (h : RI base w v xs) (hb : Below w.heap.size w w') : RI base w' v xs := h.kept (grown_of hb) (by cases v.ownBlock <;> simp)

set_option maxHeartbeats 1000000 in
set_option maxRecDepth 100000 in
theorem index_calls (base f : Nat) (lb : Array Value) (p : Int → Bool) (v : Value) (xs : List Int) (row : Option Nat) (w : World) (eg : ∀ args w, (callFunc f args).run Try.prog w = .ok (.enter f args) w)
    (hr : RI base w v xs) (hlen : xs.length ≤ 1000) (hp : Says f lb p w row xs) : Calls Try.prog 39 #[v, .func (.func f) #[] lb] w (IdxPost p xs w) := by
  have HR := Lib.hid hr
  have HP := Lib.hid hp
  clear hr hp
  rcases HR.out.form with ⟨rfl, rfl⟩ | ⟨g, cap, rfl, hg0, hg1, hcap, hcell⟩
  · go_enter Try.func39, Try.ntmps39
    go_wp2_with fail
    go_loopw [5, 8] (fun _ i wr => i = .int .i64 0 ∧ wr = w) (fun _ _ _ => 0)
    case atStart => exact ⟨rfl, rfl⟩
    case round =>
      obtain ⟨rfl, rfl⟩ := hrel
      go_wp2_with fail
      go_ret
      exact ⟨-1, rfl, .inl ⟨rfl, by simp⟩, Below.refl _ _⟩
  · have HC := Lib.hid hcell
    clear hcell
    obtain ⟨n, hn⟩ : ∃ n, n = xs.length := ⟨_, rfl⟩
    rw [← hn] at hlen hcap ⊢
    have HN := Lib.hid hn
    clear hn
    go_enter Try.func39, Try.ntmps39
    go_wp2_with fail
    go_loopw [5, 8] (fun _ i wr => ∃ k : Nat, k ≤ n ∧ i = .int .i64 k ∧ Hid (Below w.heap.size w wr ∧ ∀ x ∈ xs.take k, p x = false)) (fun _ i _ => n - (intOf i).toNat)
    case atStart => exact ⟨0, Nat.zero_le _, rfl, Lib.hid ⟨Below.refl _ _, by simp⟩⟩
    case round =>
      obtain ⟨k, hk, rfl, HB⟩ := hrel
      by_cases hlt : k < n
      · have hkx : k < xs.length := by rw [← HN.out]; exact hlt
        have hc := HB.out.1.cell (p := ⟨g, k, none⟩) hg1
        rw [(HC.out k hkx).1] at hc
        have hcall := HP.out wr xs[k] (List.getElem_mem hkx) (weaken (grown_of HB.out.1) row)
        have hx : ∃ x, x = xs[k] := ⟨_, rfl⟩
        obtain ⟨x, hx⟩ := hx
        rw [← hx] at hc hcall
        have HX := Lib.hid hx
        have hwr : Below w.heap.size w wr := HB.out.1
        have hE1 : xs.take (k + 1) = xs.take k ++ [x] := by rw [hx]; exact List.take_succ_eq_append_getElem hkx
        have HE1 := Lib.hid hE1
        clear hx hE1
        cases hpx : p x with
        | true =>
          rw [hpx] at hcall
          have HCALL := Lib.hid hcall
          clear hcall
          go_wp2_with (go_at_fn f; refine HCALL.out.mono ?_; rintro e w1 ⟨rfl, hb1⟩)
          go_ret
          exact ⟨(k : Int), rfl, .inr ⟨k, hkx, rfl, by rw [← HX.out]; exact hpx, HB.out.2⟩, hwr.trans (hb1.mono hwr.size)⟩
        | false =>
          rw [hpx] at hcall
          have HCALL := Lib.hid hcall
          clear hcall
          go_wp2_with (go_at_fn f; refine HCALL.out.mono ?_; rintro e w1 ⟨rfl, hb1⟩)
          go_roundw
          case rel =>
            refine ⟨k + 1, by omega, by go_num, Lib.hid ⟨hwr.trans (hb1.mono hwr.size), fun y hy => ?_⟩⟩
            rw [HE1.out, List.mem_append] at hy
            rcases hy with hy | hy
            · exact HB.out.2 y hy
            · simp at hy
              subst hy
              exact hpx
          case measure => simp [intOf]; omega
      · obtain rfl : n = k := by omega
        go_wp2_with fail
        go_ret
        refine ⟨-1, rfl, .inl ⟨rfl, fun x hx => HB.out.2 x ?_⟩, HB.out.1⟩
        rw [HN.out, List.take_length]
        exact hx

def AnyPost (p : Int → Bool) (xs : List Int) (w : World) (e : Ending) (w' : World) : Prop := e = .returned (.bool (xs.any p)) ∧ Below w.heap.size w w'
set_option maxHeartbeats 1000000 in
set_option maxRecDepth 100000 in
theorem contains_calls (base f : Nat) (lb : Array Value) (p : Int → Bool) (v : Value) (xs : List Int) (row : Option Nat) (w : World) (eg : ∀ args w, (callFunc f args).run Try.prog w = .ok (.enter f args) w)
    (hr : RI base w v xs) (hlen : xs.length ≤ 1000) (hp : Says f lb p w row xs) : Calls Try.prog 30 #[v, .func (.func f) #[] lb] w (AnyPost p xs w) := by
  have H := Lib.hid (index_calls base f lb p v xs row w eg hr hlen hp)
  clear hr hp
  go_enter Try.func30, Try.ntmps30
  go_wp2_with fail
  refine H.out.mono ?_
  rintro e w1 ⟨i, rfl, hi, hb⟩
  have HI := Lib.hid hi
  rcases hi with ⟨rfl, hall⟩ | ⟨k, hk, rfl, hpk, _⟩
  · go_wp2_with fail
    go_ret
    refine ⟨?_, hb⟩
    rw [show xs.any p = false from by simpa using hall]
    rfl
  · go_wp2_with fail
    go_ret
    refine ⟨?_, hb⟩
    rw [show xs.any p = true from List.any_eq_true.2 ⟨xs[k], List.getElem_mem hk, hpk⟩]
    simp

/-- A store into it. -/
theorem RI.set {base : Nat} {w : World} {g cap : Nat} {xs : List Int} (h : RI base w (.slice (some ⟨g, 0, none⟩) xs.length cap) xs) (k : Nat) (x : Int) : RI base (w.setCell ⟨g, k, none⟩ (.int .i64 x)) (.slice (some ⟨g, 0, none⟩) xs.length cap) (xs.set k x) := by
  have h' : w.ownsRow base 3 1 (.slice (some ⟨g, 0, none⟩) xs.length cap) xs.length (xs.map (Value.int .i64)) := h
  have := (h'.stored k (.int .i64 x)).1
  unfold RI
  rw [List.length_set, List.map_set]
  exact this
theorem setCells_RI {base : Nat} {g cap : Nat} : ∀ (m o : Nat) (w : World) (xs : List Int), RI base w (.slice (some ⟨g, 0, none⟩) xs.length cap) xs →
    ∃ ys : List Int, ys.length = xs.length ∧ RI base (w.setCells g o (List.replicate m (.int .i64 0))) (.slice (some ⟨g, 0, none⟩) ys.length cap) ys ∧ ys.take o = xs.take o ∧ w.grownBy (w.setCells g o (List.replicate m (.int .i64 0))) (some g)
  | 0, o, w, xs, h => ⟨xs, rfl, h, rfl, World.grownBy.refl _ _⟩
  | m + 1, o, w, xs, h => by
    have h1 := h.set o 0
    rw [show xs.length = (xs.set o 0).length by simp] at h1
    obtain ⟨ys, e1, e2, e3, e4⟩ := setCells_RI m (o + 1) _ _ h1
    refine ⟨ys, by simpa using e1, e2, ?_, (grownBy_set (World.grownBy.refl w (some g)) ⟨g, o, none⟩ rfl _).andThen e4 (fun j e => .inr e)⟩
    have : ys.take o = (ys.take (o + 1)).take o := by rw [List.take_take]; congr 1; omega
    rw [this, e3, List.take_take, show min o (o + 1) = o by omega, List.take_set_of_le (by omega)]
theorem RI.cut {base : Nat} {w : World} {g cap : Nat} {xs : List Int} (h : RI base w (.slice (some ⟨g, 0, none⟩) xs.length cap) xs) (i : Nat) (hi : i ≤ xs.length) : RI base w (.slice (some ⟨g, 0, none⟩) i cap) (xs.take i) := by
  rcases h.2 with ⟨e, h0⟩ | ⟨g', cap', cur, e, hb, hg, hc, hm, hs, ht⟩
  · cases e
  · simp only [Value.slice.injEq, Option.some.injEq, Addr.mk.injEq, and_true, true_and] at e
    obtain ⟨rfl, rfl⟩ := e
    have hl : (xs.take i).length = i := by simp; omega
    refine ⟨by simp, .inr ⟨g, cap, cur, by rw [hl], hb, hg, by omega, hm, hs, ?_⟩⟩
    rw [hl, List.map_take, ← ht, List.take_take]
    congr 1
    omega
/-- What is left. -/
def DelPost (base : Nat) (p : Int → Bool) (v : Value) (xs : List Int) (w : World) (e : Ending) (w' : World) : Prop :=
  ∃ v', e = .returned v' ∧ RI base w' v' (xs.filter fun x => !p x) ∧ v'.ownBlock = v.ownBlock ∧ w.grownBy w' v.ownBlock
set_option maxHeartbeats 1000000 in
set_option maxRecDepth 100000 in
theorem delete_calls (base f : Nat) (lb : Array Value) (p : Int → Bool) (v : Value) (xs : List Int) (w : World) (eg : ∀ args w, (callFunc f args).run Try.prog w = .ok (.enter f args) w)
    (hr : RI base w v xs) (hlen : xs.length ≤ 1000) (hp : Says f lb p w v.ownBlock xs) : Calls Try.prog 28 #[v, .func (.func f) #[] lb] w (DelPost base p v xs w) := by
  have H := Lib.hid (index_calls base f lb p v xs _ w eg hr hlen hp)
  have HR := Lib.hid hr
  have HP := Lib.hid hp
  clear hr hp
  go_enter Try.func28, Try.ntmps28
  go_wp2_with fail
  refine H.out.mono ?_
  rintro e w1 ⟨i, rfl, hi, hb⟩
  rcases hi with ⟨rfl, hall⟩ | ⟨k, hk, rfl, hpk, hbef⟩
  · go_wp2_with fail
    go_ret
    refine ⟨v, rfl, ?_, rfl, weaken (grown_of hb) _⟩
    rw [show (xs.filter fun x => !p x) = xs from List.filter_eq_self.2 fun x hx => by simp [hall x hx]]
    exact HR.out.below hb
  · rcases HR.out.form with ⟨rfl, rfl⟩ | ⟨g, cap, rfl, hg0, hg1, hcap, hcell⟩
    · simp at hk
    have v23 : ∀ w, (zeroValue 3).run Try.prog w = .ok (.int .i64 0) w := fun w => rfl
    have hcl0 : ∀ (ty : TypeId) (i n c : Nat) (W : World), 0 < n → (∀ j, j < n → (W.cell? ⟨g, i + j, none⟩).isSome = true) → (∀ j, j < n → W.frozen? ⟨g, i + j, none⟩ = false) →
        (Builtin.clear_ #[47] ty #[.slice (some ⟨g, i, none⟩) n c]).run Try.prog W = .ok (.tuple #[]) (W.setCells g i (List.replicate n (.int .i64 0))) := fun ty i n c W h1 h2 h3 =>
      Lib.run_clear_slice W 47 3 ty (.int .i64 0) Try.underlying47 v23 rfl rfl g i n c h1 h2 h3
    have HCL := Lib.hid hcl0
    have HBEF := Lib.hid hbef
    obtain ⟨n, hn⟩ : ∃ n, n = xs.length := ⟨_, rfl⟩
    have hR1 := HR.out.below hb
    have hG1 := weaken (grown_of hb) (some g)
    have hstart : ∀ x, xs.take (k + 1) = x → x.filter (fun x => !p x) = xs.take k := fun x hx => by
      rw [← hx, List.take_succ_eq_append_getElem hk, List.filter_append, List.filter_eq_self.2 (fun x hx => by simp [hbef x hx])]
      simp [hpk]
    have HS := Lib.hid (hstart _ rfl)
    have HR1 := Lib.hid hR1
    have HG1 := Lib.hid hG1
    clear hstart hcl0 hbef hR1 hG1 hb hcell H v23
    have hkn : k < n := by omega
    rw [← hn] at hlen hcap ⊢
    have HN := Lib.hid hn
    clear hn hpk
    go_wp2_with fail
    go_loopw [5, 6] (fun i j wr => ∃ (a b : Nat) (ys : List Int), i = .int .i64 a ∧ j = .int .i64 b ∧ a < b ∧ b ≤ n ∧ Hid (ys.length = n) ∧ Hid (RI base wr (.slice (some ⟨g, 0, none⟩) ys.length cap) ys) ∧ Hid (ys.take a = (xs.take b).filter fun x => !p x) ∧ Hid (ys.drop b = xs.drop b) ∧ Hid (w.grownBy wr (some g))) (fun _ j _ => n - (intOf j).toNat)
    case atStart => exact ⟨k, k + 1, xs, rfl, by go_num, by omega, by omega, Lib.hid HN.out.symm, HR1, Lib.hid HS.out.symm, Lib.hid rfl, HG1⟩
    case round =>
      obtain ⟨a, b, ys, rfl, rfl, hab, hbn, HL, HY, HT, HD, HG⟩ := hrel
      rcases HY.out.form with ⟨e, _⟩ | ⟨g', cap', e, _, hg2, _, hcell⟩
      · cases e
      · simp only [Value.slice.injEq, Option.some.injEq, Addr.mk.injEq, and_true, true_and] at e
        obtain ⟨rfl, rfl⟩ := e
        have HCELL := Lib.hid hcell
        clear hcell
        by_cases hlt : b < n
        · have hby : b < ys.length := by rw [HL.out]; exact hlt
          have hbx : b < xs.length := by rw [← HN.out]; exact hlt
          have hyb : ys[b] = xs[b] := by
            have h1 : (ys.drop b)[0]? = (xs.drop b)[0]? := by rw [HD.out]
            rw [List.getElem?_drop, List.getElem?_drop, Nat.add_zero, List.getElem?_eq_getElem hby, List.getElem?_eq_getElem hbx] at h1
            exact Option.some.inj h1
          obtain ⟨cb, fb⟩ := HCELL.out b hby
          obtain ⟨ca, fa⟩ := HCELL.out a (by omega)
          have hcall := HP.out wr xs[b] (List.getElem_mem hbx) HG.out
          obtain ⟨x, hx⟩ : ∃ x, x = xs[b] := ⟨_, rfl⟩
          rw [hyb] at cb
          rw [← hx] at cb hcall
          have hE1 : xs.take (b + 1) = xs.take b ++ [x] := by rw [hx]; exact List.take_succ_eq_append_getElem hbx
          have HE1 := Lib.hid hE1
          have hD1 : ys.drop (b + 1) = xs.drop (b + 1) := by
            rw [← List.drop_drop, ← List.drop_drop, HD.out]
          have HD1 := Lib.hid hD1
          clear hx hE1 hyb hD1
          generalize ys[a] = y0 at ca
          cases hpx : p x with
          | true =>
            rw [hpx] at hcall
            have HCALL := Lib.hid hcall
            clear hcall fa fb ca
            go_wp2_with (go_at_fn f; refine HCALL.out.mono ?_; rintro e w2 ⟨rfl, hb2⟩)
            go_roundw
            case rel => refine ⟨_, _, _, _, _, _, _, _, _, _, _, _, _, _, _, _, _, _, _, _, _, _, _, ?_, rfl⟩; exact ⟨a, b + 1, ys, rfl, by go_num, by omega, by omega, HL, Lib.hid (HY.out.below hb2), Lib.hid (by rw [HE1.out, List.filter_append, HT.out]; simp [hpx]), HD1, Lib.hid (HG.out.andThen (weaken (grown_of hb2) (some _)) (fun j e => .inr e))⟩
            case measure => simp [intOf]; omega
          | false =>
            rw [hpx] at hcall
            have HCALL := Lib.hid hcall
            clear hcall
            go_wp2_with (go_at_fn f; refine HCALL.out.mono ?_; rintro e w2 ⟨rfl, hb2⟩; have ca2 := ((grown_of hb2).cell ca (by simp)); have HB2 := Lib.hid hb2; have fa2 := ((World.frozen?_of_block ((grown_of hb2).block _ hg2 (by simp))).trans fa); clear hb2)
            go_roundw
            case rel =>
              have hy1 : ys.length = (ys.set a x).length := by simp
              refine ⟨_, _, _, _, _, _, _, _, _, _, _, _, _, _, _, _, _, _, _, _, _, _, _, ?_, rfl⟩
              refine ⟨a + 1, b + 1, ys.set a x, by go_num, by go_num, by omega, by omega, Lib.hid (by rw [List.length_set]; exact HL.out), Lib.hid ?_, Lib.hid ?_, Lib.hid ?_, Lib.hid (grownBy_set (HG.out.andThen (weaken (grown_of HB2.out) (some _)) (fun j e => .inr e)) ⟨g, a, none⟩ rfl _)⟩
              · rw [← hy1]
                exact (HY.out.below HB2.out).set a x
              · rw [HE1.out, List.filter_append, ← HT.out, List.take_succ_eq_append_getElem (by rw [List.length_set, HL.out]; omega), List.take_set_of_le (by omega)]
                simp [hpx]
              · rw [List.drop_set_of_lt (by omega)]
                exact HD1.out
            case measure => simp [intOf]; omega
        · obtain rfl : n = b := by omega
          have hla : a = ((xs.filter fun x => !p x)).length := by
            have := congrArg List.length HT.out
            rw [HN.out, List.take_length, List.length_take] at this
            have h2 := HL.out
            rw [HN.out] at h2 hab
            omega
          have hcl : ∀ ty, (Builtin.clear_ #[47] ty #[.slice (some ⟨g, a, none⟩) (n - a) (cap - a)]).run Try.prog wr = .ok (.tuple #[]) (wr.setCells g a (List.replicate (n - a) (.int .i64 0))) := fun ty =>
            HCL.out ty a (n - a) (cap - a) wr (by omega) (fun j hj => by rw [(HCELL.out (a + j) (by rw [HL.out]; omega)).1]; rfl) (fun j hj => (HCELL.out (a + j) (by rw [HL.out]; omega)).2)
          have HLA := Lib.hid hla
          clear hla
          go_wp2_with fail
          go_ret
          have h1 := HY.out
          obtain ⟨zs, z1, z2, z3, z4⟩ := setCells_RI (n - a) a wr ys h1
          have z5 := z2.cut a (by rw [z1, HL.out]; omega)
          have z6 : zs.take a = xs.filter fun x => !p x := by
            rw [z3, HT.out, HN.out, List.take_length]
          refine ⟨_, rfl, ?_, rfl, ?_⟩
          · rw [z6] at z5
            exact z5
          · exact HG.out.andThen z4 (fun j e => .inr e)
#print axioms delete_calls
end Go.Proofs.Ythboknkpgbfmoaa.PA
