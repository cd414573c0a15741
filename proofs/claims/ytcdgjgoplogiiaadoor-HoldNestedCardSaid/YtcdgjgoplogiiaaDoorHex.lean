/- (*holder).expr. -/
import Derived.Test.YtcdgjgoplogiiaaDoorTou
namespace Go.Proofs.YtcdgjgoplogiiaaDoor.PT
open Go.RowKit Go.Lib
set_option linter.unusedVariables false
set_option linter.unusedSimpArgs false
def Tree.kids : Tree → List Tree
  | .lit _ _ => []
  | .name _ _ => []
  | .cell _ a _ => [a]
  | .bin _ a b _ => [a, b]
  | .not a _ => [a]
  | .pick a b c _ => [a, b, c]
def Tree.nm : Tree → Option ByteArray
  | .name s _ => some s
  | .cell s _ _ => some s
  | _ => none
theorem sm_kids (t : Tree) (h : t.sm = true) : (∀ s, t.nm = some s → s.size ≤ 65536) ∧ ∀ x ∈ t.kids, x.sm = true := by
  cases t <;> simp [Tree.sm, Tree.nm, Tree.kids] at h ⊢ <;> simp_all
theorem Tree.ind {M : Tree → Prop} (h : ∀ t, (∀ x ∈ t.kids, M x) → M t) (t : Tree) : M t := by
  induction t with
  | lit v p => exact h _ (by simp [Tree.kids])
  | name s p => exact h _ (by simp [Tree.kids])
  | cell s a p ia => exact h _ (by simpa [Tree.kids] using ia)
  | bin o a b p ia ib => exact h _ (by simpa [Tree.kids] using ⟨ia, ib⟩)
  | not a p ia => exact h _ (by simpa [Tree.kids] using ia)
  | pick a b c p ia ib ic => exact h _ (by simpa [Tree.kids] using ⟨ia, ib, ic⟩)
theorem thenp_ok (h : HS) (f : HS → Except Int HS) : thenp (.ok h) f = f h := rfl
theorem thenp_id (x : Except Int HS) : thenp x Except.ok = x := by cases x <;> rfl
theorem thenp_assoc (x : Except Int HS) (f g : HS → Except Int HS) : thenp (thenp x f) g = thenp x fun h => thenp (f h) g := by cases x <;> rfl
theorem hexpr_kids (by' : ByteArray → Option ByteArray) (th : Nat) (t : Tree) (h : HS) :
    hexpr by' th t h = thenp (match t.nm with | none => .ok h | some s => touchp by' th s false t.pos h) (hexprs by' th t.kids) := by
  have e1 : hexprs by' th [] = Except.ok := by funext h; rfl
  have e2 : ∀ x r, hexprs by' th (x :: r) = fun h => thenp (hexpr by' th x h) (hexprs by' th r) := fun x r => by funext h; rfl
  cases t <;> simp only [Tree.nm, Tree.kids, hexpr, e1, e2, thenp_id, thenp_ok, Tree.pos, thenp_assoc]
theorem cost_kids (t : Tree) : t.cost = (if t.nm.isSome then 1 else 0) + costs t.kids := by
  cases t <;> simp [Tree.cost, Tree.nm, Tree.kids, costs] <;> omega
/-- Expressions in a row. -/
def Kds (ts : List Tree) (P : Nat → Prop) (w : World) (A : Option Addr) (n : Nat) : Prop := n = ts.length ∧ (ts ≠ [] → ∃ g ys, A = some ⟨g, 0, none⟩ ∧ P g ∧ FA ts P w ys ∧ Row w TE g (ys.flatMap EV.cells))
theorem Es.kds {ts : List Tree} {P : Nat → Prop} {w : World} {A : Option Addr} {n c : Nat} (h : Es ts P w A n c) : Kds ts P w A n := by
  obtain ⟨h1, ys, h2, h3⟩ := h
  refine ⟨h1, fun hne => ?_⟩
  rcases h3 with ⟨_, hn, _⟩ | ⟨g, hA, hg, _, _, hr⟩
  · exact absurd (List.length_eq_zero_iff.1 (h1 ▸ hn)) hne
  · exact ⟨g, ys, hA, hg, h2, hr⟩
theorem At.open' {t : Tree} {P : Nat → Prop} {w : World} {e : EV} (h : At t P w e) :
    e.p = t.pos ∧ ((t.nm = none ∧ (e.k = 0 ∨ e.k = 3 ∨ e.k = 4 ∨ e.k = 5)) ∨ (t.nm = some e.s ∧ (e.k = 1 ∨ e.k = 2))) ∧ Kds t.kids P w e.A e.n := by
  cases t with
  | lit v p => rw [show e = _ from h]; exact ⟨rfl, .inl ⟨rfl, .inl rfl⟩, rfl, fun h => absurd rfl h⟩
  | name s p => rw [show e = _ from h]; exact ⟨rfl, .inr ⟨rfl, .inl rfl⟩, rfl, fun h => absurd rfl h⟩
  | cell s a p =>
    obtain ⟨g, c, x, hg, hc, rfl, hr, ha⟩ := h
    exact ⟨rfl, .inr ⟨rfl, .inr rfl⟩, rfl, fun _ => ⟨g, [x], rfl, hg, ⟨x, [], rfl, ha, rfl⟩, by simpa using hr⟩⟩
  | bin o a b p =>
    obtain ⟨g, c, x, y, hg, hc, rfl, hr, ha, hb⟩ := h
    exact ⟨rfl, .inl ⟨rfl, .inr (.inl rfl)⟩, rfl, fun _ => ⟨g, [x, y], rfl, hg, ⟨x, [y], rfl, ha, y, [], rfl, hb, rfl⟩, by simpa using hr⟩⟩
  | not a p =>
    obtain ⟨g, c, x, hg, hc, rfl, hr, ha⟩ := h
    exact ⟨rfl, .inl ⟨rfl, .inr (.inr (.inl rfl))⟩, rfl, fun _ => ⟨g, [x], rfl, hg, ⟨x, [], rfl, ha, rfl⟩, by simpa using hr⟩⟩
  | pick a b d p =>
    obtain ⟨g, c, x, y, z, hg, hc, rfl, hr, ha, hb, hd⟩ := h
    exact ⟨rfl, .inl ⟨rfl, .inr (.inr (.inr rfl))⟩, rfl, fun _ => ⟨g, [x, y, z], rfl, hg, ⟨x, [y, z], rfl, ha, y, [z], rfl, hb, z, [], rfl, hd, rfl⟩, by simpa [List.append_assoc] using hr⟩⟩
theorem FA.nth {ts : List Tree} {P : Nat → Prop} {w : World} {ys : List EV} (h : FA ts P w ys) {k : Nat} (hk : k < ts.length) : ∃ y, ys[k]? = some y ∧ At ts[k] P w y := by
  induction ts generalizing ys k with
  | nil => simp at hk
  | cons t ts ih =>
    obtain ⟨x, xs, rfl, ha, hr⟩ := h
    cases k with
    | zero => exact ⟨x, rfl, ha⟩
    | succ k =>
      obtain ⟨y, h1, h2⟩ := ih hr (Nat.lt_of_succ_lt_succ hk)
      exact ⟨y, by simpa using h1, by simpa using h2⟩
/-- The k-th of expressions in a row. -/
theorem Kds.get {ts : List Tree} {P : Nat → Prop} {w : World} {A : Option Addr} {n : Nat} (h : Kds ts P w A n) {k : Nat} (hk : k < ts.length) :
    ∃ g y, A = some ⟨g, 0, none⟩ ∧ P g ∧ At ts[k] P w y ∧ w.cell? ⟨g, k * 6, none⟩ = some (.int .i64 y.k) ∧ w.cell? ⟨g, k * 6 + 1, none⟩ = some (.int .i64 y.o) ∧ w.cell? ⟨g, k * 6 + 2, none⟩ = some (.string y.s) ∧ w.cell? ⟨g, k * 6 + 3, none⟩ = some (.int .u64 y.v) ∧ w.cell? ⟨g, k * 6 + 4, none⟩ = some (.slice y.A y.n y.c) ∧ w.cell? ⟨g, k * 6 + 5, none⟩ = some (.int .i64 y.p) := by
  obtain ⟨g, ys, hA, hg, hf, hr⟩ := h.2 (by rintro rfl; simp at hk)
  obtain ⟨y, hy, ha⟩ := hf.nth hk
  have key : ∀ (j : Nat) (u : Value), (EV.cells y)[j]? = some u → j < 6 → w.cell? ⟨g, k * 6 + j, none⟩ = some u := fun j u hj h6 => hr.cell (by rw [flat_get EV.cells 6 (fun _ => rfl) ys k y hy j h6]; simpa using hj)
  exact ⟨g, y, hA, hg, ha, key 0 _ rfl (by omega), key 1 _ rfl (by omega), key 2 _ rfl (by omega), key 3 _ rfl (by omega), key 4 _ rfl (by omega), key 5 _ rfl (by omega)⟩
/-- Expressions up to the i-th are gone through. -/
structure HL (w : World) (B b mb mu : Nat) (by' : ByteArray → Option ByteArray) (th k : Nat) (hA oA : Option Addr) (ts : List Tree) (r : Except Int HS) (i : Nat) (wr : World) : Prop where
  ex : ∃ h1 hA1 hc1 oA1 oc1, HMx wr B b mb mu by' th h1 (k + costs (ts.take i)) hA1 hc1 oA1 oc1 ∧ HTr w B b mu hA oA wr hA1 oA1 ∧ r = hexprs by' th (ts.drop i) h1
/-- What (*holder).expr does. -/
def HexSays (t : Tree) : Prop := ∀ (w : World) (B b mb mu : Nat) (by' : ByteArray → Option ByteArray) (th : Nat) (h : HS) (k : Nat) (hA : Option Addr) (hc : Nat) (oA : Option Addr) (oc : Nat) (e : EV),
  HMx w B b mb mu by' th h k hA hc oA oc → At t (fun g => g < B) w e → t.sm = true → k + t.cost ≤ 100000000 →
  Calls Tryd.prog 119 #[.pointer (some ⟨b, 0, none⟩), EV.val e] w (HPost (hexpr by' th t h) w B b mb mu by' th (k + t.cost) hA oA)
theorem costs_take (ts : List Tree) (i : Nat) (hi : i < ts.length) : costs (ts.take (i + 1)) = costs (ts.take i) + ts[i].cost := by
  induction ts generalizing i with
  | nil => simp at hi
  | cons t r ih =>
    cases i with
    | zero => simp [costs]
    | succ i =>
      simp only [List.take_succ_cons, costs, List.getElem_cons_succ]
      rw [ih i (by simpa using hi)]; omega
theorem costs_le (ts : List Tree) (i : Nat) : costs (ts.take i) ≤ costs ts := by
  induction ts generalizing i with
  | nil => simp
  | cons t r ih =>
    cases i with
    | zero => simp [costs]
    | succ i => simp only [List.take_succ_cons, costs]; have := ih i; omega
theorem Kds.below {ts : List Tree} {B : Nat} {w w' : World} {A : Option Addr} {n : Nat} (h : Kds ts (fun g => g < B) w A n) (hb : Below B w w') : Kds ts (fun g => g < B) w' A n := by
  refine ⟨h.1, fun hne => ?_⟩
  obtain ⟨g, ys, hA, hg, hf, hr⟩ := h.2 hne
  exact ⟨g, ys, hA, hg, hf.mono (fun _ hg _ => hg) (fun i hi _ => hb.block i hi), hr.same (hb.block g hg)⟩
set_option maxRecDepth 100000 in
set_option maxHeartbeats 4000000 in
theorem hexpr_any (t : Tree) : HexSays t := by
  refine Tree.ind (fun t ih => ?_) t
  intro w B b mb mu by' th h k hA hc oA oc e hm hat hsm hk
  obtain ⟨hp, hk2, hkids⟩ := hat.open'
  obtain ⟨hs1, hs2⟩ := sm_kids t hsm
  obtain ⟨ek, eo, es, ev, eA, en, ec, ep⟩ := e
  dsimp only at hp hk2 hkids
  subst hp
  have HM := Lib.hid hm
  have HK := Lib.hid hkids
  have HI := Lib.hid ih
  have HS1 := Lib.hid hs1
  have HS2 := Lib.hid hs2
  have HBw : Hid (B ≤ w.heap.size) := Lib.hid (Nat.le_trans hm.lb.1 (Nat.le_of_lt hm.lt))
  have HKK := Lib.hid hk
  have hcost := cost_kids t
  have hR := hexpr_kids by' th t h
  obtain ⟨r, hr⟩ : ∃ r, r = hexpr by' th t h := ⟨_, rfl⟩
  rw [← hr] at hR
  rw [← hr]
  clear hr hm hkids ih hs1 hs2 hsm hat
  have hen : en ≤ 9223372036854775806 := by
    have h1 := HK.out.1
    have h2 : t.kids.length ≤ 3 := by cases t <;> simp [Tree.kids]
    omega
  rcases hk2 with ⟨hnm, hk3⟩ | ⟨hnm, hk3⟩
  · rw [hnm] at hcost hR
    have q1 : (ek == 1) = false := by rw [beq_eq_false_iff_ne]; omega
    have q2 : (ek == 2) = false := by rw [beq_eq_false_iff_ne]; omega
    obtain ⟨k1, hk1⟩ : ∃ k1, k1 = k := ⟨_, rfl⟩
    have HKC : Hid (k1 + costs t.kids ≤ k + t.cost ∧ k + t.cost ≤ 100000000) := Lib.hid (by rw [hk1, hcost]; simp at hcost ⊢; omega)
    have H0 : Hid (HL w B b mb mu by' th k1 hA oA t.kids r 0 (w.alloc (.cells #[.int .i64 ek, .int .i64 eo, .string es, .int .u64 ev, .slice eA en ec, .int .i64 t.pos] TE))) := Lib.hid ⟨h, hA, hc, oA, oc, by rw [hk1]; exact HM.out.alloc _, (HTr.refl _ _ _ _ _ _).more ((Below.refl _ _).alloc (Nat.le_refl _) _) HBw.out, by rw [hR]; rfl⟩
    clear hk3 hR hcost hnm hk1
    go_enter Tryd.func119, Tryd.ntmps119
    go_wp2
    go_loopw [29] (fun i wr => ∃ j : Nat, j ≤ en ∧ i = .int .i64 j ∧ Hid (HL w B b mb mu by' th k1 hA oA t.kids r j wr)) (fun i _ => en - (RowKit.intOf i).toNat)
    case atStart => exact ⟨0, Nat.zero_le _, rfl, H0⟩
    case round =>
      obtain ⟨j, hj, rfl, HG⟩ := hrel
      obtain ⟨h1, hA1, hc1, oA1, oc1, hm1, ht1, he1⟩ := HG.out.ex
      have HM1 := Lib.hid hm1
      have HT1 := Lib.hid ht1
      have HE1 := Lib.hid he1
      clear hm1 ht1 he1 HG
      by_cases hlt : j < en
      · have hjl : j < t.kids.length := by rw [← HK.out.1]; exact hlt
        obtain ⟨g, y, rfl, hg, haty, c0, c1, c2, c3, c4, c5⟩ := (HK.out.below HT1.out.bel).get hjl
        have hbx := HM1.out.lt
        have hct := costs_take t.kids j hjl
        have hcl := costs_le t.kids (j + 1)
        have HC := Lib.hid (HI.out t.kids[j] (List.getElem_mem hjl) (wr.alloc (.cells y.cells.toArray TE)) B b mb mu by' th h1 _ hA1 hc1 oA1 oc1 y (HM1.out.alloc _) (haty.alloc _) (HS2.out _ (List.getElem_mem hjl)) (by have := HKC.out; omega))
        have hd : t.kids.drop j = t.kids[j] :: t.kids.drop (j + 1) := List.drop_eq_getElem_cons hjl
        have HEd : Hid (r = thenp (hexpr by' th t.kids[j] h1) (hexprs by' th (t.kids.drop (j + 1)))) := Lib.hid (by rw [HE1.out, hd]; rfl)
        have HCT := Lib.hid hct
        have HCL := Lib.hid hcl
        clear hct hcl hd haty
        cases hr1 : hexpr by' th t.kids[j] h1 with
        | error p' =>
          rw [hr1] at HC HEd
          go_wp2_with (go_at_call 119; refine HC.out.mono ?_; rintro e w2 ⟨u, rfl, hu, h9, hA9, hc9, oA9, oc9, hm9, ht9⟩; have HU := Lib.hid hu; have HM9 := Lib.hid hm9; have HT9 := Lib.hid ht9; obtain ⟨gF, rfl, _⟩ := hu; clear hm9 ht9)
          go_ret
          rw [HEd.out]
          exact ⟨_, rfl, HU.out, h9, hA9, hc9, oA9, oc9, HM9.out.mono (by have := HKC.out; have := HCT.out; have := HCL.out; omega) (by have := HKK.out; omega), (HT1.out.more ((Below.refl _ _).alloc (Nat.le_refl _) _) HBw.out).trans HT9.out⟩
        | ok h2 =>
          rw [hr1] at HC HEd
          go_wp2_with (go_at_call 119; refine HC.out.mono ?_; rintro e w2 ⟨rfl, hA2, hc2, oA2, oc2, hm2, ht2⟩; have HM2 := Lib.hid hm2; have HT2 := Lib.hid ht2; clear hm2 ht2)
          go_roundw
          case rel => exact ⟨j + 1, by omega, by go_num, Lib.hid ⟨h2, hA2, hc2, oA2, oc2, by rw [HCT.out, ← Nat.add_assoc]; exact HM2.out, (HT1.out.more ((Below.refl _ _).alloc (Nat.le_refl _) _) HBw.out).trans HT2.out, HEd.out⟩⟩
          case measure => simp [RowKit.intOf]; omega
      · have hjl : j = t.kids.length := by have := HK.out.1; omega
        subst hjl
        go_wp2
        go_ret
        have he := HE1.out
        rw [List.drop_length] at he
        rw [he]
        exact ⟨rfl, hA1, hc1, oA1, oc1, HM1.out.mono (by rw [List.take_length]; have := HKC.out; omega) (by have := HKK.out; omega), HT1.out⟩
  · rw [hnm] at hcost hR
    have hsz : es.size ≤ maxLen := by have := HS1.out es hnm; unfold maxLen; omega
    have hcost' : t.cost = 1 + costs t.kids := by rw [hcost]; rfl
    have HTO := Lib.hid (touch_calls (HM.out.alloc (.cells #[.int .i64 ek, .int .i64 eo, .string es, .int .u64 ev, .slice eA en ec, .int .i64 t.pos] TE)) (by omega) es hsz false t.pos)
    have hbl := HM.out.lt
    obtain ⟨k1, hk1⟩ : ∃ k1, k1 = k + 1 := ⟨_, rfl⟩
    have HKC : Hid (k1 + costs t.kids ≤ k + t.cost ∧ k + t.cost ≤ 100000000) := Lib.hid (by omega)
    have HR : Hid (r = thenp (touchp by' th es false t.pos h) (hexprs by' th t.kids)) := Lib.hid hR
    clear hcost hR hcost' hnm
    cases hto : touchp by' th es false t.pos h with
    | error p' =>
      rw [hto] at HTO HR
      rcases hk3 with rfl | rfl
      all_goals
        go_enter Tryd.func119, Tryd.ntmps119
        go_wp2_with (go_at_call 120; refine HTO.out.mono ?_; rintro e w2 ⟨u, rfl, hu, h9, hA9, hc9, oA9, oc9, hm9, ht9⟩; have HU := Lib.hid hu; have HM9 := Lib.hid hm9; have HT9 := Lib.hid ht9; obtain ⟨gF, rfl, _⟩ := hu; clear hm9 ht9)
        go_ret
        rw [HR.out]
        exact ⟨_, rfl, HU.out, h9, hA9, hc9, oA9, oc9, HM9.out.mono (by have := HKC.out; omega) (by have := HKK.out; omega), ((HTr.refl _ _ _ _ _ _).more ((Below.refl _ _).alloc (Nat.le_refl _) _) HBw.out).trans HT9.out⟩
    | ok h0 =>
      rw [hto] at HTO HR
      rcases hk3 with rfl | rfl
      all_goals
        go_enter Tryd.func119, Tryd.ntmps119
        go_wp2_with (go_at_call 120; refine HTO.out.mono ?_; rintro e w3 ⟨rfl, hA3, hc3, oA3, oc3, hm3, ht3⟩; have H0 : Hid (HL w B b mb mu by' th k1 hA oA t.kids r 0 w3) := Lib.hid ⟨h0, hA3, hc3, oA3, oc3, by rw [hk1]; exact hm3, ((HTr.refl _ _ _ _ _ _).more ((Below.refl _ _).alloc (Nat.le_refl _) _) HBw.out).trans ht3, HR.out⟩; have e3 : w3.cell? ⟨w.heap.size, 4, none⟩ = some (.slice eA en ec) := (blk_cell ((ht3.keep w.heap.size (by simp) (by have := HM.out.lt; omega) (by have := HM.out.m1.lt; omega) (fun e => by have := (HM.out.r0.lt e).1; omega) (fun e => by have := (HM.out.r1.lt e).1; omega)).trans (blk_new _ _)) 4).trans rfl; have b3 : w.heap.size < w3.heap.size := (by have := ht3.bel.size; simp at this; omega); clear hm3 ht3)
        clear hk1 HTO hto
        go_loopw [29] (fun i wr => ∃ j : Nat, j ≤ en ∧ i = .int .i64 j ∧ Hid (HL w B b mb mu by' th k1 hA oA t.kids r j wr)) (fun i _ => en - (RowKit.intOf i).toNat)
        case atStart => exact ⟨0, Nat.zero_le _, rfl, H0⟩
        case round =>
          obtain ⟨j, hj, rfl, HG⟩ := hrel
          obtain ⟨h1, hA1, hc1, oA1, oc1, hm1, ht1, he1⟩ := HG.out.ex
          have HM1 := Lib.hid hm1
          have HT1 := Lib.hid ht1
          have HE1 := Lib.hid he1
          clear hm1 ht1 he1 HG
          by_cases hlt : j < en
          · have hjl : j < t.kids.length := by rw [← HK.out.1]; exact hlt
            obtain ⟨g, y, rfl, hg, haty, c0, c1, c2, c3, c4, c5⟩ := (HK.out.below HT1.out.bel).get hjl
            have hbx := HM1.out.lt
            have hct := costs_take t.kids j hjl
            have hcl := costs_le t.kids (j + 1)
            have HC := Lib.hid (HI.out t.kids[j] (List.getElem_mem hjl) (wr.alloc (.cells y.cells.toArray TE)) B b mb mu by' th h1 _ hA1 hc1 oA1 oc1 y (HM1.out.alloc _) (haty.alloc _) (HS2.out _ (List.getElem_mem hjl)) (by have := HKC.out; omega))
            have hd : t.kids.drop j = t.kids[j] :: t.kids.drop (j + 1) := List.drop_eq_getElem_cons hjl
            have HEd : Hid (r = thenp (hexpr by' th t.kids[j] h1) (hexprs by' th (t.kids.drop (j + 1)))) := Lib.hid (by rw [HE1.out, hd]; rfl)
            have HCT := Lib.hid hct
            have HCL := Lib.hid hcl
            clear hct hcl hd haty
            cases hr1 : hexpr by' th t.kids[j] h1 with
            | error p' =>
              rw [hr1] at HC HEd
              go_wp2_with (go_at_call 119; refine HC.out.mono ?_; rintro e w2 ⟨u, rfl, hu, h9, hA9, hc9, oA9, oc9, hm9, ht9⟩; have HU := Lib.hid hu; have HM9 := Lib.hid hm9; have HT9 := Lib.hid ht9; obtain ⟨gF, rfl, _⟩ := hu; clear hm9 ht9)
              go_ret
              rw [HEd.out]
              exact ⟨_, rfl, HU.out, h9, hA9, hc9, oA9, oc9, HM9.out.mono (by have := HKC.out; have := HCT.out; have := HCL.out; omega) (by have := HKK.out; omega), (HT1.out.more ((Below.refl _ _).alloc (Nat.le_refl _) _) HBw.out).trans HT9.out⟩
            | ok h2 =>
              rw [hr1] at HC HEd
              go_wp2_with (go_at_call 119; refine HC.out.mono ?_; rintro e w2 ⟨rfl, hA2, hc2, oA2, oc2, hm2, ht2⟩; have HM2 := Lib.hid hm2; have HT2 := Lib.hid ht2; clear hm2 ht2)
              go_roundw
              case rel => exact ⟨j + 1, by omega, by go_num, Lib.hid ⟨h2, hA2, hc2, oA2, oc2, by rw [HCT.out, ← Nat.add_assoc]; exact HM2.out, (HT1.out.more ((Below.refl _ _).alloc (Nat.le_refl _) _) HBw.out).trans HT2.out, HEd.out⟩⟩
              case measure => simp [RowKit.intOf]; omega
          · have hjl : j = t.kids.length := by have := HK.out.1; omega
            subst hjl
            go_wp2
            go_ret
            have he := HE1.out
            rw [List.drop_length] at he
            rw [he]
            exact ⟨rfl, hA1, hc1, oA1, oc1, HM1.out.mono (by rw [List.take_length]; have := HKC.out; omega) (by have := HKK.out; omega), HT1.out⟩
end Go.Proofs.YtcdgjgoplogiiaaDoor.PT
