/- (*parser).unary: pick. -/
import Derived.Test.YtcdgjgoplogiiaaDoorUq
namespace Go.Proofs.YtcdgjgoplogiiaaDoor.PT
open Go.RowKit Go.Lib
set_option linter.unusedVariables false
set_option linter.unusedSimpArgs false
/-- The kids that have been read. -/
def pkl (ts : List Tok) (rec : Int → PS → Tree × PS) : Nat → PS → List Tree × PS
  | 0, q => ([], q)
  | k + 1, q => ((pkl ts rec k q).1 ++ [(rec 0 (if 0 < k then wantp ts ⟨#[44]⟩ (pkl ts rec k q).2 else (pkl ts rec k q).2)).1], (rec 0 (if 0 < k then wantp ts ⟨#[44]⟩ (pkl ts rec k q).2 else (pkl ts rec k q).2)).2)
theorem pkl_len (ts : List Tok) (rec : Int → PS → Tree × PS) (k : Nat) (q : PS) : (pkl ts rec k q).1.length = k := by
  induction k with
  | zero => rfl
  | succ k ih => simp [pkl, ih]
theorem FA.app {a b : List Tree} {P : Nat → Prop} {w : World} {l m : List EV} (h : FA a P w l) (h' : FA b P w m) : FA (a ++ b) P w (l ++ m) := by
  induction a generalizing l with
  | nil => rw [show l = [] from h]; exact h'
  | cons t r ih =>
    obtain ⟨x, xs, rfl, h1, h2⟩ := h
    exact ⟨x, xs ++ m, rfl, h1, ih h2⟩
/-- Kids are read: k of them. -/
structure KI (w : World) (b g c : Nat) (ts : List Tok) (dp R : Nat) (p : Int) (k : Nat) (es : List Tree) (ys : List EV) (A : Option Addr) (cc : Nat) (q : PS) (wr : World) : Prop where
  pt : PT w b g c ts q dp wr
  R0 : wr.heap[w.heap.size]? = some (.cells ze.cells.toArray TE (0, 0))
  RE : wr.heap[R]? = some (.cells (EV.cells ⟨5, 0, ⟨#[]⟩, 0, A, k, cc, p⟩).toArray TE (0, 0))
  hR : w.heap.size < R
  own : wr.ownsRow (R + 1) TE 6 (.slice A k cc) k (ys.flatMap EV.cells)
  fa : FA es (fun i => R < i ∧ (Value.slice A k cc).ownBlock ≠ some i) wr ys
theorem KI.R0lt {w : World} {b g c : Nat} {ts : List Tok} {dp R : Nat} {p : Int} {k : Nat} {es : List Tree} {ys : List EV} {A : Option Addr} {cc : Nat} {q : PS} {wr : World} (h : KI w b g c ts dp R p k es ys A cc q wr) : R < wr.heap.size := lt_heap h.RE
theorem FA.gb {t : List Tree} {P : Nat → Prop} {w w' : World} {l : List EV} {b g c : Nat} {ts : List Tok} {q : PS} {dp : Nat} (h : FA t P w l) (hm : PM w b g c ts q dp) (hg : w.grownBy w' (some b)) : FA t P w' l := by
  refine h.stay (fun _ h _ => h) fun g' cs _ hc => hg.block g' (lt_heap hc) ?_
  intro e
  obtain ⟨⟨ev, hb, _⟩, _⟩ := hm
  have := Option.some.inj e
  subst this
  rw [hb] at hc
  injection hc with hc; injection hc with _ hc _
  exact absurd hc (by decide)
theorem own_pm {w w' : World} {B : Nat} {E : TypeId} {s n : Nat} {v : Value} {xs : List Value} {b g c : Nat} {ts : List Tok} {q : PS} {dp : Nat} (h : w.ownsRow B E s v n xs) (hm : PM w b g c ts q dp) (hg : w.grownBy w' (some b)) (hE : E ≠ TP) : w'.ownsRow B E s v n xs := by
  refine ⟨h.1, ?_⟩
  rcases h.2 with h1 | ⟨g', cap, cur, h1, h2, h3, h4⟩
  · exact .inl h1
  · exact .inr ⟨g', cap, cur, h1, h2, blk_pm hm hg h3 hE, h4⟩
/-- The parser has gone on. -/
theorem KI.go {w : World} {b g c : Nat} {ts : List Tok} {dp R : Nat} {p : Int} {k : Nat} {es : List Tree} {ys : List EV} {A : Option Addr} {cc : Nat} {q q' : PS} {wr w' : World} (h : KI w b g c ts dp R p k es ys A cc q wr) (hp : PT wr b g c ts q' dp w') : KI w b g c ts dp R p k es ys A cc q' w' :=
  ⟨h.pt.trans hp, blk_pm h.pt.1 hp.2 h.R0 (by decide), blk_pm h.pt.1 hp.2 h.RE (by decide), h.hR, own_pm h.own h.pt.1 hp.2 (by decide), h.fa.gb h.pt.1 hp.2⟩
theorem KI.alloc {w : World} {b g c : Nat} {ts : List Tok} {dp R : Nat} {p : Int} {k : Nat} {es : List Tree} {ys : List EV} {A : Option Addr} {cc : Nat} {q : PS} {wr : World} (h : KI w b g c ts dp R p k es ys A cc q wr) (o : Obj) : KI w b g c ts dp R p k es ys A cc q (wr.alloc o) :=
  ⟨h.pt.alloc o, blk_alloc h.R0 o, blk_alloc h.RE o, h.hR, h.own.alloc o, h.fa.mono (fun _ h _ => h) fun i _ hi => Below.heap_alloc _ _ _ hi⟩
theorem own_far {w w' : World} {B : Nat} {E : TypeId} {s n : Nat} {v : Value} {xs : List Value} (h : w.ownsRow B E s v n xs) (hk : ∀ i, B ≤ i → i < w.heap.size → w'.heap[i]? = w.heap[i]?) : w'.ownsRow B E s v n xs := by
  refine ⟨h.1, ?_⟩
  rcases h.2 with h1 | ⟨g', cap, cur, h1, h2, h3, h4⟩
  · exact .inl h1
  · exact .inr ⟨g', cap, cur, h1, h2, (hk _ h2 (lt_heap h3)).trans h3, h4⟩
/-- One kid more. -/
theorem KI.next {w : World} {b g c : Nat} {ts : List Tok} {dp R : Nat} {p : Int} {k : Nat} {es : List Tree} {ys : List EV} {A : Option Addr} {cc : Nat} {q q' : PS} {wr w7 w9 : World} {y : EV} {t : Tree} {g' cap' : Nat} (h : KI w b g c ts dp R p k es ys A cc q wr)
    (hp : PT wr b g c ts q' dp w7) (hat : At t (fun i => wr.heap.size ≤ i) w7 y) (hown : w9.ownsRow (R + 1) TE 6 (.slice (some ⟨g', 0, none⟩) (k + 1) cap') (k + 1) (ys.flatMap EV.cells ++ y.cells))
    (hgrow : (w7.alloc (.cells y.cells.toArray TE)).grownBy w9 (Value.slice A k cc).ownBlock) (hor : (Value.slice A k cc).ownBlock = some g' ∨ g' = w7.heap.size + 1) :
    KI w b g c ts dp R p (k + 1) (es ++ [t]) (ys ++ [y]) (some ⟨g', 0, none⟩) cap' q' (w9.setCell ⟨R, 4, none⟩ (.slice (some ⟨g', 0, none⟩) (k + 1) cap')) := by
  have hl := h.R0lt
  have hR := h.hR
  have h8 := (h.go hp).alloc (.cells y.cells.toArray TE)
  have s8 : (w7.alloc (.cells y.cells.toArray TE)).heap.size = w7.heap.size + 1 := by simp
  have s7 := hp.2.size
  have hb : ∀ r, (Value.slice A k cc).ownBlock = some r → R + 1 ≤ r ∧ r < wr.heap.size := fun r hr => by
    obtain ⟨a1, cur, a2⟩ := own_blk h.own hr
    exact ⟨a1, lt_heap a2⟩
  have far : ∀ i, i ≠ R → (w9.setCell ⟨R, 4, none⟩ (.slice (some ⟨g', 0, none⟩) (k + 1) cap')).heap[i]? = w9.heap[i]? := fun i hi => Below.heap_setCell _ _ _ _ hi
  have old : ∀ i, i < w7.heap.size + 1 → (Value.slice A k cc).ownBlock ≠ some i → w9.heap[i]? = (w7.alloc (.cells y.cells.toArray TE)).heap[i]? := fun i hi hne => hgrow.block i (by rw [s8]; exact hi) (Ne.symm hne)
  have hE9 : w9.heap[R]? = some (.cells (EV.cells ⟨5, 0, ⟨#[]⟩, 0, A, k, cc, p⟩).toArray TE (0, 0)) := (old R (by omega) (fun e => by have := (hb R e).1; omega)).trans h8.RE
  have hg' : R + 1 ≤ g' := by rcases hor with e | e; exact (hb g' e).1; omega
  have p9 := PT.grow h8.pt h8.own hgrow (by decide) (by omega)
  refine ⟨⟨p9.1.far hE9 far, gb_far p9.2 (Nat.le_of_lt hR) _⟩, (far _ (by omega)).trans ((old _ (by omega) (fun e => by have := (hb _ e).1; omega)).trans h8.R0), blk_put hE9 4 _ rfl, hR, ?_, FA.app ?_ ⟨y, [], rfl, ?_, rfl⟩⟩
  · rw [List.flatMap_append, List.flatMap_cons, List.flatMap_nil, List.append_nil]
    exact own_far hown fun i hi _ => far i (by omega)
  · refine (h8.fa.stay (w' := w9) (P' := fun i => R < i ∧ (Value.slice (some ⟨g', 0, none⟩) (k + 1) cap').ownBlock ≠ some i) (fun i hi hlt => ⟨hi.1, ?_⟩) (fun i cs hi hc => hgrow.block i (lt_heap hc) (Ne.symm hi.2))).mono (fun _ h _ => h) (fun i hi _ => far i (by have := hi.1; omega))
    intro e
    have e' : g' = i := by injection e
    rcases hor with e1 | e1
    · exact hi.2 (by rw [e1, e'])
    · rw [s8] at hlt; omega
  · refine ((hat.alloc (.cells y.cells.toArray TE)).stay (w' := w9) (P' := fun i => R < i ∧ (Value.slice (some ⟨g', 0, none⟩) (k + 1) cap').ownBlock ≠ some i) (fun i hi hlt => ⟨by omega, ?_⟩) (fun i cs hi hc => hgrow.block i (lt_heap hc) (fun e => by have := (hb i e.symm).2; omega))).mono (fun _ h _ => h) (fun i hi _ => far i (by have := hi.1; omega))
    intro e
    have e' : g' = i := by injection e
    rcases hor with e1 | e1
    · have := (hb g' e1).2; omega
    · rw [s8] at hlt; omega
set_option maxRecDepth 100000 in
set_option maxHeartbeats 8000000 in
theorem unary_pick (d : Nat) (hr : ExprP d) (b g c : Nat) (ts : List Tok) (q : PS) (dp : Nat) (w : World) (hdp : dp + d = 40) (hts : Toks ts) (h : PM w b g c ts q dp) (hi0 : isp ts ⟨#[126]⟩ q = false) (hi1 : isp ts ⟨#[40]⟩ q = false) (hi2 : isp ts ⟨#[112, 105, 99, 107]⟩ q = true) :
    Calls Tryd.prog 105 #[.pointer (some ⟨b, 0, none⟩)] w (EPost w b g c ts (unaryp ts (exprp ts d) q) dp) := by
  obtain ⟨q0, hq0⟩ : ∃ q0, q0 = wantp ts ⟨#[40]⟩ (adv q) := ⟨_, rfl⟩
  obtain ⟨ta, tb, tc, he3⟩ : ∃ ta tb tc, (pkl ts (exprp ts d) 3 q0).1 = [ta, tb, tc] := ⟨_, _, _, rfl⟩
  have e1 : unaryp ts (exprp ts d) q = (.pick ta tb tc (nxt ts q).p, wantp ts ⟨#[41]⟩ (pkl ts (exprp ts d) 3 q0).2) := by
    unfold unaryp
    rw [if_neg (by rw [hi0]; decide), if_neg (by rw [hi1]; decide), if_pos hi2, ← hq0]
    have e0 : (pkl ts (exprp ts d) 3 q0).1 = [(exprp ts d 0 q0).1, (exprp ts d 0 (wantp ts ⟨#[44]⟩ (exprp ts d 0 q0).2)).1, (exprp ts d 0 (wantp ts ⟨#[44]⟩ (exprp ts d 0 (wantp ts ⟨#[44]⟩ (exprp ts d 0 q0).2)).2)).1] := rfl
    rw [e0] at he3
    injection he3 with x1 x2
    injection x2 with x2 x3
    injection x3 with x3 _
    rw [← x1, ← x2, ← x3]
    rfl
  have hlen := hts.len
  obtain ⟨t, ht⟩ : ∃ t, t = nxt ts q := ⟨_, rfl⟩
  obtain ⟨res, hres⟩ : ∃ res, res = unaryp ts (exprp ts d) q := ⟨_, rfl⟩
  rw [← hres]
  rw [← hres, ← ht] at e1
  have HRES := Lib.hid e1
  obtain ⟨w0, hw0⟩ : ∃ w0, w0 = w.alloc (.cells z31 TE) := ⟨_, rfl⟩
  have hp0 : PT w b g c ts q dp w0 := by rw [hw0]; exact PT.alloc ⟨h, gb_refl _ _⟩ _
  have hR : w0.heap[w.heap.size]? = some (.cells z31 TE (0, 0)) := by rw [hw0]; exact blk_new _ _
  have hn := next_calls b g c ts q dp hts w0 hp0.1
  rw [← ht] at hn
  have HN := Lib.hid hn
  have HW := Lib.hid hw0
  have HP0 := Lib.hid hp0
  have HR := Lib.hid hR
  have HTN := Lib.hid (take_no (x := ⟨#[126]⟩) (dp := dp) (b := b) (g := g) (c := c) hts hi0)
  have HTO := Lib.hid (take_no (x := ⟨#[40]⟩) (dp := dp) (b := b) (g := g) (c := c) hts hi1)
  have HTP := Lib.hid (take_yes (x := ⟨#[112, 105, 99, 107]⟩) (dp := dp) (b := b) (g := g) (c := c) hts hi2)
  have HT := Lib.hid hts
  have HREC := Lib.hid hr
  have HQ0 := Lib.hid hq0
  have HE3 := Lib.hid he3
  clear hn hw0 hp0 hR hts hr h hi0 hi1 hi2 ht e1 hres hq0 he3
  go_enter Tryd.func105, Tryd.ntmps105
  go_wp2_with fail
  rw [← HW.out]
  refine HN.out.mono ?_
  rintro e w1 ⟨rfl, hb1⟩
  have HP2 : Hid (PT w b g c ts q dp (w1.alloc (.cells (tokA t) TK))) := Lib.hid ((HP0.out.trans (PT.of HP0.out.1 hb1)).alloc _)
  have HR2 : Hid ((w1.alloc (.cells (tokA t) TK)).heap[w.heap.size]? = some (.cells z31 TE (0, 0))) := Lib.hid (blk_alloc (blk_below HR.out hb1) _)
  have HT2 : Hid ((w1.alloc (.cells (tokA t) TK)).heap[w1.heap.size]? = some (.cells (tokA t) TK (0, 0))) := Lib.hid (blk_new _ _)
  have hne : w1.heap.size ≠ w.heap.size := by have := lt_heap (blk_below HR.out hb1); omega
  clear hb1
  have HM2 : Hid (PM (w1.alloc (.cells (tokA t) TK)) b g c ts q dp) := Lib.hid HP2.out.1
  go_wp2_with fail
  refine (HTN.out _ HP2.out.1).mono ?_
  rintro e w3 ⟨rfl, hp3⟩
  have HP3 := Lib.hid hp3
  have HR3 := Lib.hid (blk_pm HP2.out.1 HP3.out.2 HR2.out (by decide))
  have HT3 := Lib.hid (blk_pm HP2.out.1 HP3.out.2 HT2.out (by decide))
  clear hp3
  go_wp2_with fail
  refine (HTO.out _ HP3.out.1).mono ?_
  rintro e w4 ⟨rfl, hp4⟩
  have HP4 := Lib.hid hp4
  have HR4 := Lib.hid (blk_pm HP3.out.1 HP4.out.2 HR3.out (by decide))
  have HT4 := Lib.hid (blk_pm HP3.out.1 HP4.out.2 HT3.out (by decide))
  clear hp4
  go_wp2_with fail
  refine (HTP.out _ HP4.out.1).mono ?_
  rintro e w5 ⟨rfl, hp5⟩
  have HP5 := Lib.hid ((((HP2.out.trans HP3.out).trans HP4.out)).trans hp5)
  have HR5 := Lib.hid (blk_pm HP4.out.1 hp5.2 HR4.out (by decide))
  have HT5 := Lib.hid (blk_pm HP4.out.1 hp5.2 HT4.out (by decide))
  clear hp5
  have t3 : w5.cell? ⟨w1.heap.size, 3, none⟩ = some (.int .i64 t.p) := (blk_cell HT5.out 3).trans rfl
  have hl5 := lt_heap HR5.out
  obtain ⟨R, hR⟩ : ∃ R, R = w5.heap.size := ⟨_, rfl⟩
  go_wp2_with fail
  rw [← hR]
  obtain ⟨W6, hW6⟩ : ∃ W6, W6 = w5.alloc (.cells (EV.cells ⟨5, 0, ⟨#[]⟩, 0, none, 0, 0, t.p⟩).toArray TE) := ⟨_, rfl⟩
  show Calls _ _ _ (w5.alloc (.cells (EV.cells ⟨5, 0, ⟨#[]⟩, 0, none, 0, 0, t.p⟩).toArray TE)) _
  rw [← hW6]
  have HK6 : Hid (KI w b g c ts dp R t.p 0 [] [] none 0 (adv q) W6) := Lib.hid (by
    rw [hW6, hR]
    exact ⟨HP5.out.alloc _, blk_alloc HR5.out _, blk_new _ _, hl5, ⟨rfl, .inl ⟨rfl, rfl⟩⟩, rfl⟩)
  clear hW6 hl5 t3 hR
  refine (want_calls b g c ts (adv q) dp HT.out ⟨#[40]⟩ W6 HK6.out.pt.1).mono ?_
  rintro e w7 ⟨rfl, hp7⟩
  rw [← HQ0.out] at hp7
  have HK7 := Lib.hid (HK6.out.go hp7)
  clear hp7
  go_wp2_with fail
  go_loopg [35] 3 (fun f x wr => ∃ (f' k : Nat) (z : Int) (A : Option Addr) (cc : Nat) (ys : List EV), f = f' ∧ f' + k = 3 ∧ z = k ∧ x = .int .i64 z ∧ Hid (KI w b g c ts dp R t.p k (pkl ts (exprp ts d) k q0).1 ys A cc (pkl ts (exprp ts d) k q0).2 wr))
  case atStart => exact ⟨3, 0, 0, none, 0, [], rfl, rfl, rfl, rfl, HK7⟩
  case round =>
    obtain ⟨f', k, z, A, cc, ys, hff, hf, hz, rfl, HK⟩ := hrel
    by_cases hz0' : z = 0
    · subst hz0'
      have HK0 : Hid (k = 0) := Lib.hid (by omega)
      obtain ⟨f2, rfl⟩ : ∃ f2, f' = f2 + 1 := ⟨2 - k, by omega⟩
      subst hff
      have HF : Hid (f2 + (k + 1) = 3) := Lib.hid (by omega)
      clear hz hf
      go_wp2_with fail
      obtain ⟨W, hW⟩ : ∃ W, W = wr := ⟨_, rfl⟩
      obtain ⟨q1, hq1⟩ : ∃ q1, q1 = (pkl ts (exprp ts d) k q0).2 := ⟨_, rfl⟩
      have HKW : Hid (KI w b g c ts dp R t.p k (pkl ts (exprp ts d) k q0).1 ys A cc q1 W) := Lib.hid (by rw [hW, hq1]; exact HK.out)
      have HQ1 : Hid (q1 = (if 0 < k then wantp ts ⟨#[44]⟩ (pkl ts (exprp ts d) k q0).2 else (pkl ts (exprp ts d) k q0).2)) := Lib.hid (by rw [if_neg (by have := HK0.out; omega)]; exact hq1)
      rw [← hW]
      clear hW hq1
      have hk0 : k ≤ 2 := by have := HK0.out; omega
      have HPD : Hid (PM W.drew b g c ts q1 dp) := Lib.hid (HKW.out.pt.1.keep fun _ _ => rfl)
      have e4 : W.cell? ⟨R, 4, none⟩ = some (.slice A k cc) := (blk_cell HKW.out.RE 4).trans rfl
      obtain ⟨i0, hi, hz0, hz1, hz2⟩ := info_parts infoTE
      refine wp_region_S [(7, fun w' => w'.cell? ⟨R, 4, none⟩ = some (.slice A k cc))] (by kernel_rfl) (SL.cons (cell_dr e4) SL.nil) (fun hS => ?_)
      (refine wpAnyS_free 0 (v := ?_) rfl (by kernel_rfl) (by kernel_rfl) (by kernel_rfl) (by simp) (fun _ _ _ h => h) (Or.inl ⟨by rfl, ?_⟩) hS (fun hS => ?_); rotate_left; · ((intro w; go_simp) <;> with_reducible rfl); try simp only [Act.put, List.setIfInBounds_toArray, List.set_cons_zero, List.set_cons_succ])
      (refine wpAnyS_free 2 (v := ?_) rfl (by kernel_rfl) (by kernel_rfl) (by kernel_rfl) (by simp) (fun _ _ _ h => h) (Or.inl ⟨by rfl, ?_⟩) hS (fun hS => ?_); rotate_left; · ((intro w; go_simp) <;> with_reducible rfl); try simp only [Act.put, List.setIfInBounds_toArray, List.set_cons_zero, List.set_cons_succ])
      (refine wpAnyS_load 1 7 (v := ?_) (List.mem_singleton.2 rfl) rfl (by kernel_rfl) (by kernel_rfl) (by kernel_rfl) (by kernel_rfl) (by kernel_rfl) (by simp) (fun _ _ _ h => h) (Or.inl ⟨by rfl, ?_⟩) hS (fun hS => ?_); rotate_left; · ((intro w hSw; (try dsimp only at hSw); go_simp) <;> with_reducible rfl); try simp only [Act.put, List.setIfInBounds_toArray, List.set_cons_zero, List.set_cons_succ])
      (refine wpAnyS_one 3 rfl (by kernel_rfl) (by rfl) (fun K hK => ?_); go_simp)
      (refine (HREC.out 0 b g c ts q1 dp W.drew (by decide) (by decide) hdp HT.out HPD.out).mono ?_; rintro e w9 ⟨y, rfl, hat, hp9⟩; have HP9 : Hid (PT W b g c ts (exprp ts d 0 q1).2 dp w9) := Lib.hid ⟨hp9.1, ⟨hp9.2.os, hp9.2.tape, hp9.2.output, hp9.2.size, hp9.2.block⟩⟩; have HAT9 : Hid (At (exprp ts d 0 q1).1 (fun k => W.heap.size ≤ k) w9 y) := Lib.hid hat; clear hat hp9; have e9 : w9.cell? ⟨R, 4, none⟩ = some (.slice A k cc) := (blk_cell (HKW.out.go HP9.out).RE 4).trans rfl)
      refine hK.out _ _ (SL.cons e9 SL.nil) (fun hS => ?_)
      clear hK K
      try simp only [Act.put, List.setIfInBounds_toArray, List.set_cons_zero, List.set_cons_succ]
      (refine wpAnyS_one 4 rfl (by kernel_rfl) (by rfl) (fun K hK => ?_); go_simp)
      refine hK.out _ _ (SL.cons (cell_al e9 _) SL.nil) (fun hS => ?_)
      clear hK K
      try simp only [Act.put, List.setIfInBounds_toArray, List.set_cons_zero, List.set_cons_succ]
      (refine wpAnyS_one 5 rfl (by kernel_rfl) (by rfl) (fun K hK => ?_); refine wp_append_lies _ (.tmp 43) (.tmp 46) 40 (by rfl) (R + 1) TE i0 (.agg #[.int .i64 0, .int .i64 0, .string ByteArray.empty, .int .u64 0, .slice none 0 0, .int .i64 0]) 6 72 Tryd.underlying40 hi hz0 hz1 hz2 (by rfl) (by decide) (.slice A k cc) k (ys.flatMap EV.cells) (by rfl) ((HKW.out.go HP9.out).own.alloc _) ⟨w9.heap.size, 0, none⟩ 1 1 y.cells (by rfl) (by rfl) (news_new rfl) (ev_one y) (by decide) (by unfold maxLen; omega) (by omega) (by have := (HKW.out.go HP9.out).R0lt; simp; omega) (w9.heap.size + 1) (by simp) ?_; intro g' cap' w10 hown hgrow hor hlt)
      have hrow : ∀ r, (Value.slice A k cc).ownBlock = some r → R + 1 ≤ r := fun r hr => (own_blk HKW.out.own hr).1
      have hRne : some R ≠ (Value.slice A k cc).ownBlock := fun e => by have := hrow R e.symm; omega
      have hRlt : R < (w9.alloc (.cells y.cells.toArray TE)).heap.size := by have := (HKW.out.go HP9.out).R0lt; simp; omega
      have e10 : w10.cell? ⟨R, 4, none⟩ = some (.slice A k cc) := (hgrow.cell_far ⟨R, 4, none⟩ hRlt hRne).trans (cell_al e9 _)
      have f10 : w10.frozen? ⟨R, 4, none⟩ = false := (hgrow.frozen_far ⟨R, 4, none⟩ hRlt hRne).trans (blk_frozen (blk_alloc (HKW.out.go HP9.out).RE _) 4)
      have HKN : Hid (KI w b g c ts dp R t.p (k + 1) (pkl ts (exprp ts d) (k + 1) q0).1 (ys ++ [y]) (some ⟨g', 0, none⟩) cap' (pkl ts (exprp ts d) (k + 1) q0).2 (w10.setCell ⟨R, 4, none⟩ (.slice (some ⟨g', 0, none⟩) (k + 1) cap'))) := Lib.hid (by
        have := HKW.out.next HP9.out HAT9.out hown hgrow hor
        rw [HQ1.out] at this
        exact this)
      clear hrow hRne hRlt hown hgrow hor
      refine hK.out _ _ (SL.cons e10 SL.nil) (fun hS => ?_)
      clear hK K
      try simp only [Act.put, List.setIfInBounds_toArray, List.set_cons_zero, List.set_cons_succ]
      (refine wpAnyS_free 6 (v := ?_) rfl (by kernel_rfl) (by kernel_rfl) (by kernel_rfl) (by simp) (fun _ _ _ h => h) (Or.inl ⟨by rfl, ?_⟩) hS (fun hS => ?_); rotate_left; · ((intro w; go_simp) <;> with_reducible rfl); try simp only [Act.put, List.setIfInBounds_toArray, List.set_cons_zero, List.set_cons_succ])
      (refine wpAnyS_one 7 rfl (by kernel_rfl) (by rfl) (fun K hK => ?_); go_simp)
      refine hK.out _ _ (SL.past (by kernel_rfl) SL.nil) (fun hS => ?_)
      clear hK K
      try simp only [Act.put, List.setIfInBounds_toArray, List.set_cons_zero, List.set_cons_succ]
      refine wpAnyS_done (by kernel_rfl) ?_ _
      clear e4 e9 e10 f10
      go_wp2
      go_roundg f2
      case measure => omega
      case rel => exact ⟨f2, k + 1, 1, some ⟨g', 0, none⟩, cap', ys ++ [y], rfl, HF.out, by have := HK0.out; omega, rfl, HKN⟩
    · by_cases hz3 : z = 3
      · subst hz3
        obtain rfl : k = 3 := by omega
        have hf0 : f' = 0 := by omega
        clear hz hf hz0' hff hf0
        go_wp2_with fail
        refine (want_calls b g c ts _ dp HT.out ⟨#[41]⟩ wr HK.out.pt.1).mono ?_
        rintro e w8 ⟨rfl, hp8⟩
        have HK8 := Lib.hid (HK.out.go hp8)
        clear hp8
        obtain ⟨y0, y1, y2, y3, y4, y5⟩ := cells6 (x := ⟨5, 0, ⟨#[]⟩, 0, A, 3, cc, t.p⟩) HK8.out.RE
        obtain ⟨z0, z1, z2, z3, z4, z5⟩ := cells6 (x := ze) HK8.out.R0
        obtain ⟨l0, l1, l2, l3, l4, l5⟩ := free6 HK8.out.R0
        go_wp2
        have hB : (set6 w8 w.heap.size ⟨5, 0, ⟨#[]⟩, 0, A, 3, cc, t.p⟩).heap[w.heap.size]? = some (.cells (EV.cells ⟨5, 0, ⟨#[]⟩, 0, A, 3, cc, t.p⟩).toArray TE (0, 0)) := set6_blk (y := ze) HK8.out.R0 _
        obtain ⟨r0, r1, r2, r3, r4, r5⟩ := cells6 hB
        show bodyPost _ _ _ _ _ (set6 w8 w.heap.size ⟨5, 0, ⟨#[]⟩, 0, A, 3, cc, t.p⟩)
        generalize hW : set6 w8 w.heap.size ⟨5, 0, ⟨#[]⟩, 0, A, 3, cc, t.p⟩ = W9 at r0 r1 r2 r3 r4 r5 ⊢
        refine bodyPost_ret (v := EV.val ⟨5, 0, ⟨#[]⟩, 0, A, 3, cc, t.p⟩) (by simp [results, Tryd.results105, go_sem, r0, r1, r2, r3, r4, r5]) rfl ?_
        rw [HRES.out, ← hW]
        have hfa := HK8.out.fa
        rw [HE3.out] at hfa
        have hR := HK8.out.hR
        obtain ⟨gA, cA, hA, hgA, _⟩ := HK8.out.own.form (by decide)
        obtain ⟨rfl, rfl⟩ : A = some ⟨gA, 0, none⟩ ∧ cc = cA := by injection hA with a1 a2 a3; exact ⟨a1, a3⟩
        have hrow := Row.own HK8.out.own gA cc rfl
        obtain ⟨x1, xs1, rfl, ha1, hfa⟩ := hfa
        obtain ⟨x2, xs2, rfl, ha2, hfa⟩ := hfa
        obtain ⟨x3, xs3, rfl, ha3, hfa⟩ := hfa
        rw [show xs3 = [] from hfa] at hrow
        have hcap : 3 ≤ cc := by
          rcases HK8.out.own.2 with ⟨e, _⟩ | ⟨_, cap, _, e, _, _, h3, _⟩
          · cases e
          · injection e with _ _ e; omega
        have far : ∀ k, R < k → (set6 w8 w.heap.size ⟨5, 0, ⟨#[]⟩, 0, some ⟨gA, 0, none⟩, 3, cc, t.p⟩).heap[k]? = w8.heap[k]? := fun k hk => set6_far _ _ _ _ (by omega)
        have keep : ∀ {tt : Tree} {x : EV}, At tt (fun i => R < i ∧ (Value.slice (some ⟨gA, 0, none⟩) 3 cc).ownBlock ≠ some i) w8 x → At tt (fun k => w.heap.size ≤ k) (set6 w8 w.heap.size ⟨5, 0, ⟨#[]⟩, 0, some ⟨gA, 0, none⟩, 3, cc, t.p⟩) x := fun h => h.mono (fun k hk _ => by have := hk.1; omega) fun k hk _ => far k hk.1
        refine ⟨_, rfl, ⟨gA, cc, x1, x2, x3, by omega, hcap, rfl, ?_, keep ha1, keep ha2, keep ha3⟩, HK8.out.pt.set6 HK8.out.R0 (Nat.le_refl _) _⟩
        exact Row.same (by simpa using hrow) (far gA (by omega))
      · obtain ⟨f2, rfl⟩ : ∃ f2, f' = f2 + 1 := ⟨2 - k, by omega⟩
        subst hff
        have HF : Hid (f2 + (k + 1) = 3) := Lib.hid (by omega)
        have HZ : Hid (z = k) := Lib.hid hz
        have hz1 : 1 ≤ z := by omega
        have hz2' : z ≤ 2 := by omega
        have hk0 : k ≤ 2 := by omega
        clear hz hf hz0' hz3
        go_wp2_with fail
        refine (want_calls b g c ts _ dp HT.out ⟨#[44]⟩ wr HK.out.pt.1).mono ?_
        rintro e W ⟨rfl, hp8⟩
        obtain ⟨q1, hq1⟩ : ∃ q1, q1 = wantp ts ⟨#[44]⟩ (pkl ts (exprp ts d) k q0).2 := ⟨_, rfl⟩
        rw [← hq1] at hp8
        have HKW := Lib.hid (HK.out.go hp8)
        have HQ1 : Hid (q1 = (if 0 < k then wantp ts ⟨#[44]⟩ (pkl ts (exprp ts d) k q0).2 else (pkl ts (exprp ts d) k q0).2)) := Lib.hid (by rw [if_pos (by have := HZ.out; omega)]; exact hq1)
        clear hp8 hq1
        go_wp2_with fail
        have HPD : Hid (PM W.drew b g c ts q1 dp) := Lib.hid (HKW.out.pt.1.keep fun _ _ => rfl)
        have e4 : W.cell? ⟨R, 4, none⟩ = some (.slice A k cc) := (blk_cell HKW.out.RE 4).trans rfl
        obtain ⟨i0, hi, hz0, hz1, hz2⟩ := info_parts infoTE
        refine wp_region_S [(7, fun w' => w'.cell? ⟨R, 4, none⟩ = some (.slice A k cc))] (by kernel_rfl) (SL.cons (cell_dr e4) SL.nil) (fun hS => ?_)
        (refine wpAnyS_free 0 (v := ?_) rfl (by kernel_rfl) (by kernel_rfl) (by kernel_rfl) (by simp) (fun _ _ _ h => h) (Or.inl ⟨by rfl, ?_⟩) hS (fun hS => ?_); rotate_left; · ((intro w; go_simp) <;> with_reducible rfl); try simp only [Act.put, List.setIfInBounds_toArray, List.set_cons_zero, List.set_cons_succ])
        (refine wpAnyS_free 2 (v := ?_) rfl (by kernel_rfl) (by kernel_rfl) (by kernel_rfl) (by simp) (fun _ _ _ h => h) (Or.inl ⟨by rfl, ?_⟩) hS (fun hS => ?_); rotate_left; · ((intro w; go_simp) <;> with_reducible rfl); try simp only [Act.put, List.setIfInBounds_toArray, List.set_cons_zero, List.set_cons_succ])
        (refine wpAnyS_load 1 7 (v := ?_) (List.mem_singleton.2 rfl) rfl (by kernel_rfl) (by kernel_rfl) (by kernel_rfl) (by kernel_rfl) (by kernel_rfl) (by simp) (fun _ _ _ h => h) (Or.inl ⟨by rfl, ?_⟩) hS (fun hS => ?_); rotate_left; · ((intro w hSw; (try dsimp only at hSw); go_simp) <;> with_reducible rfl); try simp only [Act.put, List.setIfInBounds_toArray, List.set_cons_zero, List.set_cons_succ])
        (refine wpAnyS_one 3 rfl (by kernel_rfl) (by rfl) (fun K hK => ?_); go_simp)
        (refine (HREC.out 0 b g c ts q1 dp W.drew (by decide) (by decide) hdp HT.out HPD.out).mono ?_; rintro e w9 ⟨y, rfl, hat, hp9⟩; have HP9 : Hid (PT W b g c ts (exprp ts d 0 q1).2 dp w9) := Lib.hid ⟨hp9.1, ⟨hp9.2.os, hp9.2.tape, hp9.2.output, hp9.2.size, hp9.2.block⟩⟩; have HAT9 : Hid (At (exprp ts d 0 q1).1 (fun k => W.heap.size ≤ k) w9 y) := Lib.hid hat; clear hat hp9; have e9 : w9.cell? ⟨R, 4, none⟩ = some (.slice A k cc) := (blk_cell (HKW.out.go HP9.out).RE 4).trans rfl)
        refine hK.out _ _ (SL.cons e9 SL.nil) (fun hS => ?_)
        clear hK K
        try simp only [Act.put, List.setIfInBounds_toArray, List.set_cons_zero, List.set_cons_succ]
        (refine wpAnyS_one 4 rfl (by kernel_rfl) (by rfl) (fun K hK => ?_); go_simp)
        refine hK.out _ _ (SL.cons (cell_al e9 _) SL.nil) (fun hS => ?_)
        clear hK K
        try simp only [Act.put, List.setIfInBounds_toArray, List.set_cons_zero, List.set_cons_succ]
        (refine wpAnyS_one 5 rfl (by kernel_rfl) (by rfl) (fun K hK => ?_); refine wp_append_lies _ (.tmp 43) (.tmp 46) 40 (by rfl) (R + 1) TE i0 (.agg #[.int .i64 0, .int .i64 0, .string ByteArray.empty, .int .u64 0, .slice none 0 0, .int .i64 0]) 6 72 Tryd.underlying40 hi hz0 hz1 hz2 (by rfl) (by decide) (.slice A k cc) k (ys.flatMap EV.cells) (by rfl) ((HKW.out.go HP9.out).own.alloc _) ⟨w9.heap.size, 0, none⟩ 1 1 y.cells (by rfl) (by rfl) (news_new rfl) (ev_one y) (by decide) (by unfold maxLen; omega) (by omega) (by have := (HKW.out.go HP9.out).R0lt; simp; omega) (w9.heap.size + 1) (by simp) ?_; intro g' cap' w10 hown hgrow hor hlt)
        have hrow : ∀ r, (Value.slice A k cc).ownBlock = some r → R + 1 ≤ r := fun r hr => (own_blk HKW.out.own hr).1
        have hRne : some R ≠ (Value.slice A k cc).ownBlock := fun e => by have := hrow R e.symm; omega
        have hRlt : R < (w9.alloc (.cells y.cells.toArray TE)).heap.size := by have := (HKW.out.go HP9.out).R0lt; simp; omega
        have e10 : w10.cell? ⟨R, 4, none⟩ = some (.slice A k cc) := (hgrow.cell_far ⟨R, 4, none⟩ hRlt hRne).trans (cell_al e9 _)
        have f10 : w10.frozen? ⟨R, 4, none⟩ = false := (hgrow.frozen_far ⟨R, 4, none⟩ hRlt hRne).trans (blk_frozen (blk_alloc (HKW.out.go HP9.out).RE _) 4)
        have HKN : Hid (KI w b g c ts dp R t.p (k + 1) (pkl ts (exprp ts d) (k + 1) q0).1 (ys ++ [y]) (some ⟨g', 0, none⟩) cap' (pkl ts (exprp ts d) (k + 1) q0).2 (w10.setCell ⟨R, 4, none⟩ (.slice (some ⟨g', 0, none⟩) (k + 1) cap'))) := Lib.hid (by
          have := HKW.out.next HP9.out HAT9.out hown hgrow hor
          rw [HQ1.out] at this
          exact this)
        clear hrow hRne hRlt hown hgrow hor
        refine hK.out _ _ (SL.cons e10 SL.nil) (fun hS => ?_)
        clear hK K
        try simp only [Act.put, List.setIfInBounds_toArray, List.set_cons_zero, List.set_cons_succ]
        (refine wpAnyS_free 6 (v := ?_) rfl (by kernel_rfl) (by kernel_rfl) (by kernel_rfl) (by simp) (fun _ _ _ h => h) (Or.inl ⟨by rfl, ?_⟩) hS (fun hS => ?_); rotate_left; · ((intro w; go_simp) <;> with_reducible rfl); try simp only [Act.put, List.setIfInBounds_toArray, List.set_cons_zero, List.set_cons_succ])
        (refine wpAnyS_one 7 rfl (by kernel_rfl) (by rfl) (fun K hK => ?_); go_simp)
        refine hK.out _ _ (SL.past (by kernel_rfl) SL.nil) (fun hS => ?_)
        clear hK K
        try simp only [Act.put, List.setIfInBounds_toArray, List.set_cons_zero, List.set_cons_succ]
        refine wpAnyS_done (by kernel_rfl) ?_ _
        clear e4 e9 e10 f10
        go_wp2
        go_roundg f2
        case measure => omega
        case rel => exact ⟨f2, k + 1, z + 1, some ⟨g', 0, none⟩, cap', ys ++ [y], rfl, HF.out, by have := HZ.out; omega, rfl, HKN⟩
end Go.Proofs.YtcdgjgoplogiiaaDoor.PT
