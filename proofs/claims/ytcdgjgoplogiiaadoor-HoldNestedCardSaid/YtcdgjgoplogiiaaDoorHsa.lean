/- (*holder).same. -/
import Derived.Test.YtcdgjgoplogiiaaDoorHex
namespace Go.Proofs.YtcdgjgoplogiiaaDoor.PT
open Go.RowKit Go.Lib
set_option linter.unusedVariables false
set_option linter.unusedSimpArgs false
theorem Ns.cap {w : World} {B : Nat} {A : Option Addr} {c : Nat} {l : List ByteArray} (h : Ns w B A c l) : l.length ≤ c ∧ c ≤ maxLen := by
  rcases h.form with ⟨_, rfl, rfl⟩ | ⟨g, cur, _, _, _, h1, h2, _⟩
  · exact ⟨Nat.le_refl _, Nat.zero_le _⟩
  · exact ⟨h1, h2⟩
theorem Ns.take {w : World} {B : Nat} {A : Option Addr} {c : Nat} {l : List ByteArray} (h : Ns w B A c l) (n : Nat) (hn : n ≤ l.length) : Ns w B A c (l.take n) := by
  rcases h.2.2 with ⟨e, e2⟩ | ⟨g, cap, cur, e, hB, hg, h3, h4, h5, h6⟩
  · obtain rfl : l = [] := List.length_eq_zero_iff.1 e2
    rw [List.take_nil]; exact h
  · injection e with e1 e3 e4
    subst e4
    have hl : (l.take n).length = n := by rw [List.length_take]; omega
    refine ⟨by simp, by simp, .inr ⟨g, c, cur, by rw [e1], hB, hg, by omega, h4, h5, ?_⟩⟩
    rw [hl, List.map_take, ← h6, List.take_take]
    congr 1
    omega
section
variable {w w' : World} {B b mb mu : Nat} {by' : ByteArray → Option ByteArray} {th : Nat} {h : HS} {k : Nat} {hA : Option Addr} {hc : Nat} {oA : Option Addr} {oc : Nat}
theorem HMx.drewN (hm : HMx w B b mb mu by' th h k hA hc oA oc) (n : Nat) : HMx (w.drewN n) B b mb mu by' th h k hA hc oA oc := hm.all ⟨rfl, rfl, rfl, Nat.le_refl _, fun _ _ => rfl⟩
/-- The holder's own cells are written. -/
theorem HMx.cut (hm : HMx w B b mb mu by' th h k hA hc oA oc) {h' : HS} {i : Nat} {v : Value} (hu : h'.us = h.us) (hn : h'.held.length ≤ h.held.length ∧ h'.held = h.held.take h'.held.length) (on : h'.own.length ≤ h.own.length ∧ h'.own = h.own.take h'.own.length)
    (he : (hCells mb mu th hA h.held.length hc oA h.own.length oc).setIfInBounds i v = hCells mb mu th hA h'.held.length hc oA h'.own.length oc) : HMx (w.setCell ⟨b, i, none⟩ v) B b mb mu by' th h' k hA hc oA oc ∧ HTr w B b mu hA oA (w.setCell ⟨b, i, none⟩ v) hA oA := by
  have hk : ∀ j, j ≠ b → (w.setCell ⟨b, i, none⟩ v).heap[j]? = w.heap[j]? := fun j hj => Below.heap_setCell w ⟨b, i, none⟩ v j hj
  have hrow : ∀ A c l, Ns w B A c l → Ns (w.setCell ⟨b, i, none⟩ v) B A c l := fun A c l q => q.keep fun j hj => by
    obtain ⟨_, _, cur, h3⟩ := q.lt hj
    exact hk j (cells_ne h3 hm.blk (by decide))
  refine ⟨⟨blk_put hm.blk i v he, ?_, hu ▸ hm.m1.kept (hk mu (hm.m1.ne hm.blk)), ?_, ?_, hm.ne, hm.apart, Nat.le_trans hn.1 hm.kh, Nat.le_trans on.1 hm.ko, hm.kk, hm.lb⟩, ⟨(Below.refl B w).setCell (p := ⟨b, i, none⟩) hm.lb.1 v, fun j _ h1 _ _ _ => hk j h1, .inl rfl, .inl rfl⟩⟩
  · obtain ⟨n, h3⟩ := hm.m0
    exact ⟨n, h3.kept (hk mb (h3.ne hm.blk))⟩
  · rw [hn.2]; exact hrow _ _ _ (hm.r0.take _ hn.1)
  · rw [on.2]; exact hrow _ _ _ (hm.r1.take _ on.1)
end
def HbSays (c : Blk) : Prop := ∀ (w : World) (B b mb mu : Nat) (by' : ByteArray → Option ByteArray) (th : Nat) (h : HS) (k : Nat) (hA : Option Addr) (hc : Nat) (oA : Option Addr) (oc : Nat) (A : Option Addr) (n cc : Nat),
  HMx w B b mb mu by' th h k hA hc oA oc → Bs c (fun g => g < B) w A n cc → c.sm = true → k + c.cost ≤ 100000000 →
  Calls Tryd.prog 85 #[.pointer (some ⟨b, 0, none⟩), .slice A n cc] w (HPost (hblk by' th c h) w B b mb mu by' th (k + c.cost) hA oA)
def HsSays (c : Blk) : Prop := ∀ (w : World) (B b mb mu : Nat) (by' : ByteArray → Option ByteArray) (th : Nat) (h : HS) (k : Nat) (hA : Option Addr) (hc : Nat) (oA : Option Addr) (oc : Nat) (A : Option Addr) (n cc : Nat) (p : Int),
  HMx w B b mb mu by' th h k hA hc oA oc → Bs c (fun g => g < B) w A n cc → c.sm = true → k + c.cost ≤ 100000000 →
  Calls Tryd.prog 59 #[.pointer (some ⟨b, 0, none⟩), .slice A n cc, .int .i64 p] w (HPost (samep (hblk by' th c) p h) w B b mb mu by' th (k + c.cost) hA oA)
theorem Bs.low {c : Blk} {B : Nat} {w w' : World} {A : Option Addr} {n cc : Nat} (h : Bs c (fun g => g < B) w A n cc) (hb : Below B w w') : Bs c (fun g => g < B) w' A n cc := h.mono (fun _ hg _ => hg) fun i hi _ => hb.block i hi
set_option maxRecDepth 100000 in
set_option maxHeartbeats 4000000 in
theorem same_of (c : Blk) (hS : HbSays c) : HsSays c := by
  intro w B b mb mu by' th h k hA hc oA oc A n cc p hm hbs hsm hk
  have c3 : w.cell? ⟨b, 3, none⟩ = some (.slice hA h.held.length hc) := (blk_cell hm.blk 3).trans rfl
  have c4 : w.cell? ⟨b, 4, none⟩ = some (.slice oA h.own.length oc) := (blk_cell hm.blk 4).trans rfl
  have hbl := hm.lt
  have HM := Lib.hid hm
  have HBS := Lib.hid hbs
  have HSB := Lib.hid hS
  have HBw : Hid (B ≤ w.heap.size) := Lib.hid (Nat.le_trans hm.lb.1 (Nat.le_of_lt hm.lt))
  obtain ⟨r, hr⟩ : ∃ r, r = samep (hblk by' th c) p h := ⟨_, rfl⟩
  have HR : Hid (r = thenp (hblk by' th c h) fun h1 => if eqS h.held h1.held then .ok { h1 with own := h1.own.take h.own.length } else .error p) := Lib.hid hr
  rw [← hr]
  have HCL := Lib.hid (clone_calls (w := w.drew) hm.drew.r0 rfl (by have := hm.kh; have := hm.kk; omega))
  clear hr hm hbs hS
  go_enter Tryd.func59, Tryd.ntmps59
  go_wp2
  refine wp_region_S [(11, fun w0 => w0.cell? ⟨b, 3, none⟩ = some (.slice hA h.held.length hc) ∧ w0.cell? ⟨b, 4, none⟩ = some (.slice oA h.own.length oc))] (by kernel_rfl) (SL.cons ⟨cell_dw c3, cell_dw c4⟩ SL.nil) (fun hS => ?_)
  (refine wpAnyS_free 0 (v := ?_) rfl (by kernel_rfl) (by kernel_rfl) (by kernel_rfl) (by simp) (fun _ _ _ h => h) (Or.inl ⟨by rfl, ?_⟩) hS (fun hS => ?_); rotate_left)
  · ((intro w; go_simp) <;> with_reducible rfl)
  try simp only [List.getElem_toArray, List.getElem_cons_succ, List.getElem_cons_zero, Act.put, List.setIfInBounds_toArray, List.set_cons_zero, List.set_cons_succ]
  (refine wpAnyS_free 1 (v := ?_) rfl (by kernel_rfl) (by kernel_rfl) (by kernel_rfl) (by simp) (fun _ _ _ h => h) (Or.inl ⟨by rfl, ?_⟩) hS (fun hS => ?_); rotate_left)
  · ((intro w; go_simp) <;> with_reducible rfl)
  try simp only [List.getElem_toArray, List.getElem_cons_succ, List.getElem_cons_zero, Act.put, List.setIfInBounds_toArray, List.set_cons_zero, List.set_cons_succ]
  (refine wpAnyS_free 2 (v := ?_) rfl (by kernel_rfl) (by kernel_rfl) (by kernel_rfl) (by simp) (fun _ _ _ h => h) (Or.inl ⟨by rfl, ?_⟩) hS (fun hS => ?_); rotate_left)
  · ((intro w; go_simp) <;> with_reducible rfl)
  try simp only [List.getElem_toArray, List.getElem_cons_succ, List.getElem_cons_zero, Act.put, List.setIfInBounds_toArray, List.set_cons_zero, List.set_cons_succ]
  (refine wpAnyS_load 3 11 (v := ?_) (List.mem_singleton.2 rfl) rfl (by kernel_rfl) (by kernel_rfl) (by kernel_rfl) (by kernel_rfl) (by kernel_rfl) (by simp) (fun _ _ _ h => h) (Or.inl ⟨by rfl, ?_⟩) hS (fun hS => ?_); rotate_left)
  · ((intro w hSw; (try dsimp only at hSw); go_simp) <;> with_reducible rfl)
  try simp only [List.getElem_toArray, List.getElem_cons_succ, List.getElem_cons_zero, Act.put, List.setIfInBounds_toArray, List.set_cons_zero, List.set_cons_succ]
  (refine wpAnyS_free 5 (v := ?_) rfl (by kernel_rfl) (by kernel_rfl) (by kernel_rfl) (by simp) (fun _ _ _ h => h) (Or.inl ⟨by rfl, ?_⟩) hS (fun hS => ?_); rotate_left)
  · ((intro w; go_simp) <;> with_reducible rfl)
  try simp only [List.getElem_toArray, List.getElem_cons_succ, List.getElem_cons_zero, Act.put, List.setIfInBounds_toArray, List.set_cons_zero, List.set_cons_succ]
  (refine wpAnyS_free 6 (v := ?_) rfl (by kernel_rfl) (by kernel_rfl) (by kernel_rfl) (by simp) (fun _ _ _ h => h) (Or.inl ⟨by rfl, ?_⟩) hS (fun hS => ?_); rotate_left)
  · ((intro w; go_simp) <;> with_reducible rfl)
  try simp only [List.getElem_toArray, List.getElem_cons_succ, List.getElem_cons_zero, Act.put, List.setIfInBounds_toArray, List.set_cons_zero, List.set_cons_succ]
  (refine wpAnyS_free 7 (v := ?_) rfl (by kernel_rfl) (by kernel_rfl) (by kernel_rfl) (by simp) (fun _ _ _ h => h) (Or.inl ⟨by rfl, ?_⟩) hS (fun hS => ?_); rotate_left)
  · ((intro w; go_simp) <;> with_reducible rfl)
  try simp only [List.getElem_toArray, List.getElem_cons_succ, List.getElem_cons_zero, Act.put, List.setIfInBounds_toArray, List.set_cons_zero, List.set_cons_succ]
  (refine wpAnyS_load 8 11 (v := ?_) (List.mem_singleton.2 rfl) rfl (by kernel_rfl) (by kernel_rfl) (by kernel_rfl) (by kernel_rfl) (by kernel_rfl) (by simp) (fun _ _ _ h => h) (Or.inl ⟨by rfl, ?_⟩) hS (fun hS => ?_); rotate_left)
  · ((intro w hSw; (try dsimp only at hSw); go_simp) <;> with_reducible rfl)
  try simp only [List.getElem_toArray, List.getElem_cons_succ, List.getElem_cons_zero, Act.put, List.setIfInBounds_toArray, List.set_cons_zero, List.set_cons_succ]
  (refine wpAnyS_free 9 (v := ?_) rfl (by kernel_rfl) (by kernel_rfl) (by kernel_rfl) (by simp) (fun _ _ _ h => h) (Or.inl ⟨by rfl, ?_⟩) hS (fun hS => ?_); rotate_left)
  · ((intro w; go_simp) <;> with_reducible rfl)
  try simp only [List.getElem_toArray, List.getElem_cons_succ, List.getElem_cons_zero, Act.put, List.setIfInBounds_toArray, List.set_cons_zero, List.set_cons_succ]
  refine wpAnyS_one 4 rfl (by kernel_rfl) (by rfl) (fun K hK => ?_)
  go_simp
  refine HCL.out.mono ?_
  rintro e w2 ⟨A', c', rfl, hN, hb2⟩
  have HN := Lib.hid hN
  have HNB : Hid (∀ g, bk A' = some g → w.heap.size ≤ g) := Lib.hid fun g hg => (hN.lt hg).2.1
  have HM2 : Hid (HMx w2 B b mb mu by' th h k hA hc oA oc) := Lib.hid (HM.out.drew.all hb2)
  have HT2 : Hid (HTr w B b mu hA oA w2 hA oA) := Lib.hid ((HTr.refl _ _ _ _ _ _).drew.more hb2 HBw.out)
  have HBS2 : Hid (Bs c (fun g => g < B) w2 A n cc) := Lib.hid (HBS.out.low HT2.out.bel)
  clear hN hb2
  refine hK.out _ _ (SL.cons ⟨(blk_cell HM2.out.blk 3).trans rfl, (blk_cell HM2.out.blk 4).trans rfl⟩ SL.nil) (fun hS => ?_)
  clear hK K
  try simp only [List.getElem_toArray, List.getElem_cons_succ, List.getElem_cons_zero, Act.put, List.setIfInBounds_toArray, List.set_cons_zero, List.set_cons_succ]
  (refine wpAnyS_free 10 (v := ?_) rfl (by kernel_rfl) (by kernel_rfl) (by kernel_rfl) (by simp) (fun _ _ _ h => h) (Or.inl ⟨by rfl, ?_⟩) hS (fun hS => ?_); rotate_left)
  · ((intro w; go_simp) <;> with_reducible rfl)
  try simp only [List.getElem_toArray, List.getElem_cons_succ, List.getElem_cons_zero, Act.put, List.setIfInBounds_toArray, List.set_cons_zero, List.set_cons_succ]
  refine wpAnyS_one 11 rfl (by kernel_rfl) (by rfl) (fun K hK => ?_)
  go_simp
  refine hK.out _ _ (SL.past (by kernel_rfl) SL.nil) (fun hS => ?_)
  clear hK K
  try simp only [List.getElem_toArray, List.getElem_cons_succ, List.getElem_cons_zero, Act.put, List.setIfInBounds_toArray, List.set_cons_zero, List.set_cons_succ]
  refine wpAnyS_done (by kernel_rfl) ?_ _
  have HCB := Lib.hid (HSB.out w2 B b mb mu by' th h k hA hc oA oc A n cc HM2.out HBS2.out hsm hk)
  cases hres : hblk by' th c h with
  | error p' =>
    rw [hres] at HCB HR
    go_wp2_with (go_at_call 85; refine HCB.out.mono ?_; rintro e w3 ⟨u, rfl, hu, h9, hA9, hc9, oA9, oc9, hm9, ht9⟩; have HU := Lib.hid hu; have HM9 := Lib.hid hm9; have HT9 := Lib.hid ht9; obtain ⟨gF, rfl, _⟩ := hu; clear hm9 ht9)
    go_ret
    rw [HR.out]
    exact ⟨_, rfl, HU.out, h9, hA9, hc9, oA9, oc9, HM9.out, HT2.out.trans HT9.out⟩
  | ok h1 =>
    rw [hres] at HCB HR
    obtain ⟨rw', hfr⟩ := hblk_front by' th c h h1 hres
    have HFR := Lib.hid hfr
    clear hfr hres
    go_upto_region 5 with (go_at_call 85; refine HCB.out.mono ?_; rintro e w3 ⟨rfl, hA3, hc3, oA3, oc3, hm3, ht3⟩; have HM3 := Lib.hid hm3; have HT3 := Lib.hid ht3; have c4 : w3.cell? ⟨b, 4, none⟩ = some (.slice oA3 h1.own.length oc3) := (blk_cell hm3.blk 4).trans rfl; have c3 : w3.cell? ⟨b, 3, none⟩ = some (.slice hA3 h1.held.length hc3) := (blk_cell hm3.blk 3).trans rfl; have f4 := blk_frozen hm3.blk 4; have hbl3 := hm3.lt; have hcap := hm3.r1.cap; have hlen : h.own.length ≤ h1.own.length := (by rw [HFR.out, List.length_append]; omega); clear hm3 ht3)
    go_upto_region 6 with fail
    obtain ⟨W4, hW4⟩ : ∃ W4, W4 = w3.setCell ⟨b, 4, none⟩ (.slice oA3 h.own.length oc3) := ⟨_, rfl⟩
    have hol : ({ h1 with own := h1.own.take h.own.length } : HS).own.length = h.own.length := by simp; omega
    have HC4 : Hid (HMx W4 B b mb mu by' th { h1 with own := h1.own.take h.own.length } (k + c.cost) hA3 hc3 oA3 oc3 ∧ HTr w3 B b mu hA3 oA3 W4 hA3 oA3) := Lib.hid (by
      rw [hW4]
      exact HM3.out.cut rfl ⟨Nat.le_refl _, by simp⟩ ⟨by rw [hol]; exact hlen, by rw [hol]⟩ (by rw [hol]; rfl))
    have HT4 : Hid (HTr w B b mu hA oA W4 hA3 oA3) := Lib.hid ((HT2.out.trans HT3.out).trans HC4.out.2)
    have hn4 : Ns W4 w.drew.heap.size A' c' h.held := HN.out.keep fun g hg => by
      have hgw := HNB.out g hg
      obtain ⟨hgl, _, cur, hcur⟩ := HN.out.lt hg
      have hne1 : g ≠ b := by have := hbl; omega
      have hne2 : g ≠ mu := by have := HM.out.m1.lt; omega
      have hne3 : bk hA ≠ some g := fun e => by have := (HM.out.r0.lt e).1; omega
      have hne4 : bk oA ≠ some g := fun e => by have := (HM.out.r1.lt e).1; omega
      rw [hW4]
      exact (Below.heap_setCell w3 ⟨b, 4, none⟩ _ g hne1).trans (HT3.out.keep g hgl hne1 hne2 hne3 hne4)
    have HEQ := Lib.hid (equal_calls hn4 HC4.out.1.r0 rfl rfl)
    have c34 : W4.cell? ⟨b, 3, none⟩ = some (.slice hA3 h1.held.length hc3) := (blk_cell HC4.out.1.blk 3).trans rfl
    have hbl4 := HC4.out.1.lt
    rw [← hW4]
    clear hW4 hn4 c3 c4 f4 hlen hol
    cases hq : eqS h.held h1.held with
    | true =>
      rw [hq] at HEQ
      go_wp2_with (go_at_call 86; refine HEQ.out.mono ?_; rintro e w5 ⟨rfl, q, rfl⟩)
      go_ret
      rw [HR.out]
      show HPost (if eqS h.held h1.held = true then _ else _) _ _ _ _ _ _ _ _ _ _ _ _
      rw [hq, if_pos rfl]
      exact ⟨rfl, hA3, hc3, oA3, oc3, HC4.out.1.drewN q, HT4.out.more ⟨rfl, rfl, rfl, Nat.le_refl _, fun _ _ => rfl⟩ HBw.out⟩
    | false =>
      rw [hq] at HEQ
      go_wp2_with (first | (go_at_call 86; refine HEQ.out.mono ?_; rintro e w5 ⟨rfl, q, rfl⟩) | (go_at_call 46; refine (wrapI_calls 5 p _).mono ?_; rintro e w6 ⟨rfl, rfl⟩))
      go_ret
      rw [HR.out]
      show HPost (if eqS h.held h1.held = true then _ else _) _ _ _ _ _ _ _ _ _ _ _ _
      rw [hq, if_neg (by decide)]
      exact ⟨_, rfl, ⟨_, rfl, blk_new _ _⟩, _, hA3, hc3, oA3, oc3, (HC4.out.1.drewN q).alloc _, (HT4.out.more (w' := W4.drewN q) ⟨rfl, rfl, rfl, Nat.le_refl _, fun _ _ => rfl⟩ HBw.out).more ((Below.refl _ _).alloc (Nat.le_refl _) _) HBw.out⟩
end Go.Proofs.YtcdgjgoplogiiaaDoor.PT
