/- parse.Program. -/
import Derived.Test.YtcdgjgoplogiiaaDoorDec
import Derived.Deep.DeepCutAuto
namespace Go.Proofs.YtcdgjgoplogiiaaDoor.PT
open Go.RowKit Go.Lib
set_option linter.unusedVariables false
set_option linter.unusedSimpArgs false
abbrev TPg : TypeId := 27
theorem infoTD : (Tryd.prog.info? TD).map (fun i => (i.zero, i.size, i.bytes)) = some (some (.agg #[.bool false, .int .i64 0, .string ByteArray.empty, .int .i64 0, .string ByteArray.empty, .int .i64 0]), 6, 64) := by kernel_rfl
theorem infoTB : (Tryd.prog.info? TB').map (fun i => (i.zero, i.size, i.bytes)) = some (some (.slice none 0 0), 1, 24) := by kernel_rfl
theorem dcl_one (x : Dcl) : ∀ u ∈ x.cells, u.oneCell' = true := by
  intro u hu
  simp [Dcl.cells] at hu
  rcases hu with rfl | rfl | rfl | rfl | rfl | rfl <;> rfl
/-- A program's variable in block O, while it is filled. -/
structure GI (w : World) (b g c : Nat) (ts : List Tok) (O : Nat) (ds : List Dcl) (A : Option Addr) (n cc : Nat) (th : List Blk) (vs : List (Option Addr × Nat × Nat)) (A' : Option Addr) (n' cc' : Nat) (q : PS) (wr : World) : Prop where
  pm : PM wr b g c ts q 0
  bel : Below w.heap.size w wr
  hb : w.heap.size < b
  P0 : wr.heap[w.heap.size]? = some (.cells #[.slice none 0 0, .slice none 0 0] TPg (0, 0))
  out : wr.heap[O]? = some (.cells #[.slice A n cc, .slice A' n' cc'] TPg (0, 0))
  hO : w.heap.size < O
  own : wr.ownsRow (w.heap.size + 1) TD 6 (.slice A n cc) n (ds.flatMap Dcl.cells)
  own' : wr.ownsRow (w.heap.size + 1) TB' 1 (.slice A' n' cc') n' (vs.map tcell)
  tv : TsV th (fun i => w.heap.size ≤ i) wr vs
theorem TsV.mono {ts : List Blk} {P P' : Nat → Prop} {w w' : World} {vs : List (Option Addr × Nat × Nat)} (h : TsV ts P w vs) (hP : ∀ g, P g → g < w.heap.size → P' g) (hk : ∀ g, P g → g < w.heap.size → w'.heap[g]? = w.heap[g]?) : TsV ts P' w' vs := h.stay hP (Stay.of hk) (Stay.of hk)
theorem TsV.gb {ts : List Blk} {P : Nat → Prop} {w w' : World} {vs : List (Option Addr × Nat × Nat)} {b g c : Nat} {tks : List Tok} {q : PS} {dp : Nat} (h : TsV ts P w vs) (hm : PM w b g c tks q dp) (hg : w.grownBy w' (some b)) : TsV ts P w' vs :=
  h.stay (fun _ h _ => h) (fun i cs _ hc => (blk_pm hm hg hc (by decide)).trans hc.symm) (fun i cs _ hc => (blk_pm hm hg hc (by decide)).trans hc.symm)
theorem TsV.app {a b : List Blk} {P : Nat → Prop} {w : World} {l m : List (Option Addr × Nat × Nat)} (h : TsV a P w l) (h' : TsV b P w m) : TsV (a ++ b) P w (l ++ m) := by
  induction a generalizing l with
  | nil => rw [show l = [] from h]; exact h'
  | cons t r ih =>
    obtain ⟨v, vs, rfl, h1, h2⟩ := h
    exact ⟨v, vs ++ m, rfl, h1, ih h2⟩
theorem bel_gb {w w1 w2 : World} {b : Nat} (h : Below w.heap.size w w1) (hb : w.heap.size < b) (k : w1.grownBy w2 (some b)) : Below w.heap.size w w2 :=
  h.trans ⟨k.os, k.tape, k.output, k.size, fun i hi => k.block i (Nat.lt_of_lt_of_le hi h.size) (fun e => by injection e with e; omega)⟩
theorem bel_grow {w w1 w2 : World} {row : Option Nat} (h : Below w.heap.size w w1) (k : w1.grownBy w2 row) (hr : ∀ r, row = some r → w.heap.size ≤ r) : Below w.heap.size w w2 :=
  h.trans ⟨k.os, k.tape, k.output, k.size, fun i hi => k.block i (Nat.lt_of_lt_of_le hi h.size) (fun e => by have := hr i e.symm; omega)⟩
section
variable {w : World} {b g c : Nat} {ts : List Tok} {O : Nat} {ds : List Dcl} {A : Option Addr} {n cc : Nat} {th : List Blk} {vs : List (Option Addr × Nat × Nat)} {A' : Option Addr} {n' cc' : Nat} {q q' : PS} {wr w' w7 w9 : World}
theorem GI.go (h : GI w b g c ts O ds A n cc th vs A' n' cc' q wr) (hp : PT wr b g c ts q' 0 w') : GI w b g c ts O ds A n cc th vs A' n' cc' q' w' :=
  ⟨hp.1, bel_gb h.bel h.hb hp.2, h.hb, blk_pm h.pm hp.2 h.P0 (by decide), blk_pm h.pm hp.2 h.out (by decide), h.hO, own_pm h.own h.pm hp.2 (by decide), own_pm h.own' h.pm hp.2 (by decide), h.tv.gb h.pm hp.2⟩
theorem GI.below (h : GI w b g c ts O ds A n cc th vs A' n' cc' q wr) (hb : Below wr.heap.size wr w') : GI w b g c ts O ds A n cc th vs A' n' cc' q w' := h.go (PT.of h.pm hb)
theorem GI.lt (h : GI w b g c ts O ds A n cc th vs A' n' cc' q wr) : O < wr.heap.size := lt_heap h.out
/-- A row of another type is not touched by an append. -/
theorem own_grow {w w' : World} {B s n B' s' n' : Nat} {E E' : TypeId} {v v' : Value} {xs xs' : List Value} (h : w.ownsRow B E s v n xs) (h' : w.ownsRow B' E' s' v' n' xs') (hE : E ≠ E') (hg : w.grownBy w' v'.ownBlock) : w'.ownsRow B E s v n xs := by
  refine ⟨h.1, ?_⟩
  rcases h.2 with h1 | ⟨g', cap, cur, h1, h2, h3, h4⟩
  · exact .inl h1
  · refine .inr ⟨g', cap, cur, h1, h2, (hg.block g' (lt_heap h3) (fun e => ?_)).trans h3, h4⟩
    obtain ⟨_, cur', hc⟩ := own_blk h' e.symm
    rw [h3] at hc
    injection hc with hc; injection hc with _ hc _
    exact hE hc
theorem blk_grow {w w' : World} {B s n i : Nat} {E E' : TypeId} {v : Value} {xs : List Value} {cs : Array Value} (h' : w.ownsRow B E' s v n xs) (hg : w.grownBy w' v.ownBlock) (hi : w.heap[i]? = some (.cells cs E (0, 0))) (hE : E ≠ E') : w'.heap[i]? = some (.cells cs E (0, 0)) :=
  (hg.block i (lt_heap hi) (fun e => by
    obtain ⟨_, cur', hc⟩ := own_blk h' e.symm
    rw [hi] at hc
    injection hc with hc; injection hc with _ hc _
    exact hE hc)).trans hi
/-- One declaration more. -/
theorem GI.decl (h : GI w b g c ts O ds A n cc th vs A' n' cc' q wr) {d : Dcl} {g' cap' : Nat} (hp : PT wr b g c ts q' 0 w7) (hown : w9.ownsRow (w.heap.size + 1) TD 6 (.slice (some ⟨g', 0, none⟩) (n + 1) cap') (n + 1) (ds.flatMap Dcl.cells ++ d.cells))
    (hgrow : (w7.alloc (.cells d.cells.toArray TD)).grownBy w9 (Value.slice A n cc).ownBlock) :
    GI w b g c ts O (ds ++ [d]) (some ⟨g', 0, none⟩) (n + 1) cap' th vs A' n' cc' q' (w9.setCell ⟨O, 0, none⟩ (.slice (some ⟨g', 0, none⟩) (n + 1) cap')) := by
  have h7 := h.go hp
  have hO := h.hO
  have own8 := h7.own.alloc (.cells d.cells.toArray TD)
  have far : ∀ i, i ≠ O → (w9.setCell ⟨O, 0, none⟩ (.slice (some ⟨g', 0, none⟩) (n + 1) cap')).heap[i]? = w9.heap[i]? := fun i hi => Below.heap_setCell _ _ _ _ hi
  have out9 := blk_grow own8 hgrow (blk_alloc h7.out (.cells d.cells.toArray TD)) (by decide)
  have offO : ∀ {i : Nat} {cs : Array Value} {E : TypeId}, w9.heap[i]? = some (.cells cs E (0, 0)) → E ≠ TPg → i ≠ O := fun {i cs E} hi hE e => by
    subst e
    rw [out9] at hi
    injection hi with hi; injection hi with _ hi _
    exact hE hi.symm
  have keepR : ∀ {B E s m : Nat} {v : Value} {xs : List Value}, w9.ownsRow B E s v m xs → E ≠ TPg → (w9.setCell ⟨O, 0, none⟩ (.slice (some ⟨g', 0, none⟩) (n + 1) cap')).ownsRow B E s v m xs := fun {B E s m v xs} hr hE => ⟨hr.1, hr.2.imp id fun ⟨ga, cap, cur, h1, h2, h3, h4⟩ => ⟨ga, cap, cur, h1, h2, (far ga (offO h3 hE)).trans h3, h4⟩⟩
  refine ⟨((h7.pm.alloc _).grow hgrow (by decide) fun r hr => (own_blk own8 hr).2).off (by decide) out9 far, (bel_grow (h7.bel.alloc h7.bel.size _) hgrow fun r hr => by have := (own_blk own8 hr).1; omega).setCell (p := ⟨O, 0, none⟩) (Nat.le_of_lt hO) _, h.hb, (far _ (by omega)).trans (blk_grow own8 hgrow (blk_alloc h7.P0 _) (by decide)), blk_put out9 0 _ rfl, hO, ?_, keepR (own_grow (h7.own'.alloc _) own8 (by decide) hgrow) (by decide), ?_⟩
  · rw [List.flatMap_append, List.flatMap_cons, List.flatMap_nil, List.append_nil]
    exact keepR hown (by decide)
  · refine (h7.tv.mono (w' := w7.alloc (.cells d.cells.toArray TD)) (fun _ h _ => h) fun i _ hi => Below.heap_alloc _ _ _ hi).stay (fun _ h _ => h) (fun i cs _ hc => ?_) (fun i cs _ hc => ?_)
    · have h9 := blk_grow own8 hgrow hc (by decide)
      exact ((far i (offO h9 (by decide))).trans h9).trans hc.symm
    · have h9 := blk_grow own8 hgrow hc (by decide)
      exact ((far i (offO h9 (by decide))).trans h9).trans hc.symm
/-- One thread more. -/
theorem GI.thread (h : GI w b g c ts O ds A n cc th vs A' n' cc' q wr) {t : Blk} {v : Option Addr × Nat × Nat} {g' cap' : Nat} (hp : PT wr b g c ts q' 0 w7) (hb : Bs t (fun i => wr.heap.size ≤ i) w7 v.1 v.2.1 v.2.2) (hown : w9.ownsRow (w.heap.size + 1) TB' 1 (.slice (some ⟨g', 0, none⟩) (n' + 1) cap') (n' + 1) (vs.map tcell ++ [tcell v]))
    (hgrow : (w7.alloc (.cells #[tcell v] TB')).grownBy w9 (Value.slice A' n' cc').ownBlock) :
    GI w b g c ts O ds A n cc (th ++ [t]) (vs ++ [v]) (some ⟨g', 0, none⟩) (n' + 1) cap' q' (w9.setCell ⟨O, 1, none⟩ (.slice (some ⟨g', 0, none⟩) (n' + 1) cap')) := by
  have h7 := h.go hp
  have hO := h.hO
  have hs := h.bel.size
  have own8 := h7.own'.alloc (.cells #[tcell v] TB')
  have far : ∀ i, i ≠ O → (w9.setCell ⟨O, 1, none⟩ (.slice (some ⟨g', 0, none⟩) (n' + 1) cap')).heap[i]? = w9.heap[i]? := fun i hi => Below.heap_setCell _ _ _ _ hi
  have out9 := blk_grow own8 hgrow (blk_alloc h7.out (.cells #[tcell v] TB')) (by decide)
  have offO : ∀ {i : Nat} {cs : Array Value} {E : TypeId}, w9.heap[i]? = some (.cells cs E (0, 0)) → E ≠ TPg → i ≠ O := fun {i cs E} hi hE e => by
    subst e
    rw [out9] at hi
    injection hi with hi; injection hi with _ hi _
    exact hE hi.symm
  have keepR : ∀ {B E s m : Nat} {v : Value} {xs : List Value}, w9.ownsRow B E s v m xs → E ≠ TPg → (w9.setCell ⟨O, 1, none⟩ (.slice (some ⟨g', 0, none⟩) (n' + 1) cap')).ownsRow B E s v m xs := fun {B E s m v xs} hr hE => ⟨hr.1, hr.2.imp id fun ⟨ga, cap, cur, h1, h2, h3, h4⟩ => ⟨ga, cap, cur, h1, h2, (far ga (offO h3 hE)).trans h3, h4⟩⟩
  have kept : ∀ {bb : List Blk} {ll : List (Option Addr × Nat × Nat)} {P : Nat → Prop}, TsV bb P w7 ll → TsV bb P (w9.setCell ⟨O, 1, none⟩ (.slice (some ⟨g', 0, none⟩) (n' + 1) cap')) ll := fun {bb ll P} ht => by
    refine (ht.mono (w' := w7.alloc (.cells #[tcell v] TB')) (fun _ h _ => h) fun i _ hi => Below.heap_alloc _ _ _ hi).stay (fun _ h _ => h) (fun i cs _ hc => ?_) (fun i cs _ hc => ?_)
    · have h9 := blk_grow own8 hgrow hc (by decide)
      exact ((far i (offO h9 (by decide))).trans h9).trans hc.symm
    · have h9 := blk_grow own8 hgrow hc (by decide)
      exact ((far i (offO h9 (by decide))).trans h9).trans hc.symm
  refine ⟨((h7.pm.alloc _).grow hgrow (by decide) fun r hr => (own_blk own8 hr).2).off (by decide) out9 far, (bel_grow (h7.bel.alloc h7.bel.size _) hgrow fun r hr => by have := (own_blk own8 hr).1; omega).setCell (p := ⟨O, 1, none⟩) (Nat.le_of_lt hO) _, h.hb, (far _ (by omega)).trans (blk_grow own8 hgrow (blk_alloc h7.P0 _) (by decide)), blk_put out9 1 _ rfl, hO, keepR (own_grow (h7.own.alloc _) own8 (by decide) hgrow) (by decide), ?_, TsV.app (kept h7.tv) ⟨v, [], rfl, ?_, rfl⟩⟩
  · rw [List.map_append, List.map_cons, List.map_nil]
    exact keepR hown (by decide)
  · have : TsV [t] (fun i => wr.heap.size ≤ i) w7 [v] := ⟨v, [], rfl, hb, rfl⟩
    obtain ⟨v2, r2, e, hb2, _⟩ := kept this
    injection e with e1 _
    subst e1
    exact hb2.mono (fun i hi _ => Nat.le_trans hs hi) fun _ _ _ => rfl
theorem GI.dsA (h : GI w b g c ts O ds A n cc th vs A' n' cc' q wr) : DsA ds (fun i => w.heap.size ≤ i) wr A n cc := by
  have h1 := h.own.1
  rw [flat_len Dcl.cells 6 (fun _ => rfl)] at h1
  refine ⟨by omega, ?_⟩
  rcases h.own.2 with ⟨e, e0⟩ | ⟨g', cap, cur, e, h2, h3, h4, h5, h6, h7⟩
  · left
    rw [e0] at h1
    injection e with a1 a2 a3
    exact ⟨a1, e0, a3, by rw [List.length_eq_zero_iff.1 (show ds.length = 0 by omega)]; rfl⟩
  · right
    have hrow := Row.own h.own g' cap (by rw [e])
    injection e with a1 a2 a3
    exact ⟨g', a1, by show w.heap.size ≤ g'; omega, by omega, by omega, hrow⟩
theorem GI.thA (h : GI w b g c ts O ds A n cc th vs A' n' cc' q wr) : ThA th (fun i => w.heap.size ≤ i) wr A' n' cc' := by
  have h1 := h.own'.1
  have h2' : vs.length = th.length := by
    have := h.tv
    clear h h1
    induction th generalizing vs with
    | nil => rw [show vs = [] from this]; rfl
    | cons t r ih => obtain ⟨v, l, rfl, _, h2⟩ := this; simp [ih h2]
  refine ⟨by simp at h1; omega, vs, h.tv, ?_⟩
  rcases h.own'.2 with ⟨e, e0⟩ | ⟨g', cap, cur, e, h2, h3, h4, h5, h6, h7⟩
  · left
    rw [e0] at h1
    injection e with a1 a2 a3
    exact ⟨a1, e0, a3, List.length_eq_zero_iff.1 (by omega)⟩
  · right
    have hrow := Row.own h.own' g' cap (by rw [e])
    injection e with a1 a2 a3
    exact ⟨g', a1, by show w.heap.size ≤ g'; omega, by omega, by omega, hrow⟩
end
theorem GI.dsR {w : World} {b g c : Nat} {ts : List Tok} {O : Nat} {ds : List Dcl} {A : Option Addr} {n cc : Nat} {th : List Blk} {vs : List (Option Addr × Nat × Nat)} {A' : Option Addr} {n' cc' : Nat} {q : PS} {wr w' : World} (h : GI w b g c ts O ds A n cc th vs A' n' cc' q wr) (hk : ∀ i, i ≠ w.heap.size → w'.heap[i]? = wr.heap[i]?) : DsA ds (fun i => w.heap.size ≤ i) w' A n cc := by
  obtain ⟨h1, h2⟩ := h.dsA
  refine ⟨h1, h2.stay (fun _ h _ => h) fun i cs _ hc => hk i ?_⟩
  rintro rfl
  rw [h.P0] at hc
  injection hc with hc; injection hc with _ hc _
  exact absurd hc (by decide)
theorem GI.thR {w : World} {b g c : Nat} {ts : List Tok} {O : Nat} {ds : List Dcl} {A : Option Addr} {n cc : Nat} {th : List Blk} {vs : List (Option Addr × Nat × Nat)} {A' : Option Addr} {n' cc' : Nat} {q : PS} {wr w' : World} (h : GI w b g c ts O ds A n cc th vs A' n' cc' q wr) (hk : ∀ i, i ≠ w.heap.size → w'.heap[i]? = wr.heap[i]?) : ThA th (fun i => w.heap.size ≤ i) w' A' n' cc' := by
  obtain ⟨h1, vs', h2, h3⟩ := h.thA
  have st : ∀ {E : TypeId} {P : Nat → Prop}, E ≠ TPg → Stay E P wr w' := fun {E P} hE i cs _ hc => hk i (by
    rintro rfl
    rw [h.P0] at hc
    injection hc with hc; injection hc with _ hc _
    exact hE hc.symm)
  exact ⟨h1, vs', h2.stay (fun _ h _ => h) (st (by decide)) (st (by decide)), h3.stay (fun _ h _ => h) (st (by decide))⟩
/-- What parse.Program returns. -/
def ProgPost (s : ByteArray) (w : World) (e : Ending) (w' : World) : Prop := Below w.heap.size w w' ∧ match parse s with
  | .ok p => ∃ A n c A' n' c', e = .returned (.tuple #[.agg #[.slice A n c, .slice A' n' c'], .nilIface]) ∧ DsA p.ds (fun i => w.heap.size ≤ i) w' A n c ∧ ThA p.ts (fun i => w.heap.size ≤ i) w' A' n' c'
  | .error x => ∃ u, e = .returned (.tuple #[.agg #[.slice none 0 0, .slice none 0 0], u]) ∧ ErrV w' 0 u x.1 x.2
theorem ErrV.below {w w' : World} {B : Nat} {v : Value} {n p : Nat} (h : ErrV w B v n p) (hb : Below w.heap.size w w') : ErrV w' B v n p := by
  obtain ⟨g, h1, h2, h3⟩ := h
  exact ⟨g, h1, h2, blk_below h3 hb⟩
/-- The declarations that are still to be read. -/
def DL (ts : List Tok) (res : List Dcl × PS) (f n : Nat) (ds : List Dcl) (q : PS) : Prop := res = (ds ++ (declsp ts f q).1, (declsp ts f q).2) ∧ n + f = 64
def TL (ts : List Tok) (res : List Blk × PS) (f n : Nat) (th : List Blk) (q : PS) : Prop := res = (th ++ (threadsp ts f q).1, (threadsp ts f q).2) ∧ n + f = 16
theorem DL.stop {ts : List Tok} {res : List Dcl × PS} {f n : Nat} {ds : List Dcl} {q : PS} (h : DL ts res f n ds q) (hq : q.e.isSome = true ∨ isp ts ⟨#[116, 104, 114, 101, 97, 100]⟩ q = true) : res = (ds, q) := by
  have hc : (q.e.isSome || isp ts ⟨#[116, 104, 114, 101, 97, 100]⟩ q) = true := by rcases hq with e | e <;> simp [e]
  have e : declsp ts f q = ([], q) := by
    cases f with
    | zero => unfold declsp; rw [if_pos hc]
    | succ f => unfold declsp; rw [if_pos hc]
  rw [h.1, e, List.append_nil]
theorem DL.full {ts : List Tok} {res : List Dcl × PS} {n : Nat} {ds : List Dcl} {q : PS} (h : DL ts res 0 n ds q) (hq : q.e = none) (hi : isp ts ⟨#[116, 104, 114, 101, 97, 100]⟩ q = false) : res = (ds, failp ts 6 q) := by
  have e : declsp ts 0 q = ([], failp ts 6 q) := by unfold declsp; rw [if_neg (by rw [hq, hi]; decide)]
  rw [h.1, e, List.append_nil]
theorem DL.next {ts : List Tok} {res : List Dcl × PS} {f n : Nat} {ds : List Dcl} {q : PS} (h : DL ts res (f + 1) n ds q) (hq : q.e = none) (hi : isp ts ⟨#[116, 104, 114, 101, 97, 100]⟩ q = false) : DL ts res f (n + 1) (ds ++ [(declp ts q).1]) (declp ts q).2 := by
  have e : declsp ts (f + 1) q = ((declp ts q).1 :: (declsp ts f (declp ts q).2).1, (declsp ts f (declp ts q).2).2) := by
    show (if _ then _ else _) = _
    rw [if_neg (by rw [hq, hi]; decide)]
  refine ⟨?_, by have := h.2; omega⟩
  rw [h.1, e, List.append_assoc]; rfl
theorem TL.stop {ts : List Tok} {res : List Blk × PS} {f n : Nat} {th : List Blk} {q : PS} (h : TL ts res f n th q) (hq : q.e.isSome = true ∨ (nxt ts q).k = 0) : res = (th, q) := by
  have hc : (q.e.isSome || (nxt ts q).k == 0) = true := by rcases hq with e | e <;> simp [e]
  have e : threadsp ts f q = ([], q) := by
    cases f with
    | zero => unfold threadsp; rw [if_pos hc]
    | succ f => unfold threadsp; rw [if_pos hc]
  rw [h.1, e, List.append_nil]
theorem TL.full {ts : List Tok} {res : List Blk × PS} {n : Nat} {th : List Blk} {q : PS} (h : TL ts res 0 n th q) (hq : q.e = none) (hi : ¬ (nxt ts q).k = 0) : res = (th, failp ts 6 q) := by
  have e : threadsp ts 0 q = ([], failp ts 6 q) := by unfold threadsp; rw [if_neg (by rw [hq]; simp [hi])]
  rw [h.1, e, List.append_nil]
theorem TL.next {ts : List Tok} {res : List Blk × PS} {f n : Nat} {th : List Blk} {q : PS} (h : TL ts res (f + 1) n th q) (hq : q.e = none) (hi : ¬ (nxt ts q).k = 0) : TL ts res f (n + 1) (th ++ [(blockp ts (stmtp ts 40) (wantp ts ⟨#[116, 104, 114, 101, 97, 100]⟩ q)).1]) (blockp ts (stmtp ts 40) (wantp ts ⟨#[116, 104, 114, 101, 97, 100]⟩ q)).2 := by
  have e : threadsp ts (f + 1) q = ((blockp ts (stmtp ts 40) (wantp ts ⟨#[116, 104, 114, 101, 97, 100]⟩ q)).1 :: (threadsp ts f (blockp ts (stmtp ts 40) (wantp ts ⟨#[116, 104, 114, 101, 97, 100]⟩ q)).2).1, (threadsp ts f (blockp ts (stmtp ts 40) (wantp ts ⟨#[116, 104, 114, 101, 97, 100]⟩ q)).2).2) := by
    show (if _ then _ else _) = _
    rw [if_neg (by rw [hq]; simp [hi])]
  refine ⟨?_, by have := h.2; omega⟩
  rw [h.1, e, List.append_assoc]; rfl
set_option maxRecDepth 100000 in
set_option maxHeartbeats 16000000 in
theorem prog_calls (s : ByteArray) (w : World) (htoks : ∀ ts, cut s = .ok ts → Toks ts ∧ 0 < ts.length) : Calls Tryd.prog 12 #[.string s] w (ProgPost s w) := by
  have hcut := cut_calls s (w.alloc (.cells #[.slice none 0 0, .slice none 0 0] TPg))
  unfold CutPost at hcut
  cases hc : cut s with
  | error x =>
    rw [hc] at hcut
    have HR : Hid (parse s = .error x) := Lib.hid (by unfold parse; rw [hc])
    have HC := Lib.hid hcut
    clear hcut hc htoks
    go_enter Tryd.func12, Tryd.ntmps12
    go_wp2_with fail
    refine HC.out.mono ?_
    rintro e w1 ⟨hb, u, rfl, hu⟩
    obtain ⟨gF, hg1, rfl, hg3⟩ := hu
    have HB := Lib.hid hb
    have HF := Lib.hid hg3
    have HP : Hid (w1.heap[w.heap.size]? = some (.cells #[.slice none 0 0, .slice none 0 0] TPg (0, 0))) := Lib.hid (blk_below (blk_new _ _) hb)
    have p0 : w1.cell? ⟨w.heap.size, 0, none⟩ = some (.slice none 0 0) := (blk_cell HP.out 0).trans rfl
    have p1 : w1.cell? ⟨w.heap.size, 1, none⟩ = some (.slice none 0 0) := (blk_cell HP.out 1).trans rfl
    have k0 : w1.frozen? ⟨w.heap.size, 0, none⟩ = false := blk_frozen HP.out 0
    have k1 : w1.frozen? ⟨w.heap.size, 1, none⟩ = false := blk_frozen HP.out 1
    have hgw : w.heap.size + 1 ≤ gF := by simpa using hg1
    clear hb hg1 hg3
    go_wp2
    obtain ⟨W2, hW2⟩ : ∃ W2, W2 = (w1.setCell ⟨w.heap.size, 0, none⟩ (.slice none 0 0)).setCell ⟨w.heap.size, 1, none⟩ (.slice none 0 0) := ⟨_, rfl⟩
    have HP2 : W2.heap[w.heap.size]? = some (.cells #[.slice none 0 0, .slice none 0 0] TPg (0, 0)) := by rw [hW2]; exact blk_put (blk_put HP.out 0 _ rfl) 1 _ rfl
    have HB2 : Below w.heap.size w W2 := by
      rw [hW2]
      exact ((((Below.refl w.heap.size w).alloc (Nat.le_refl _) _).trans (HB.out.mono (by simp))).setCell (p := ⟨w.heap.size, 0, none⟩) (Nat.le_refl _) _).setCell (p := ⟨w.heap.size, 1, none⟩) (Nat.le_refl _) _
    have HF2 : W2.heap[gF]? = some (.cells #[.int .i64 x.2, .iface 51 (.int .i64 x.1)] TF (0, 0)) := by
      rw [hW2]
      exact blk_far (blk_far HF.out (p := ⟨w.heap.size, 0, none⟩) (by show gF ≠ w.heap.size; omega) _) (p := ⟨w.heap.size, 1, none⟩) (by show gF ≠ w.heap.size; omega) _
    rw [← hW2]
    clear hW2
    have r0 : W2.cell? ⟨w.heap.size, 0, none⟩ = some (.slice none 0 0) := (blk_cell HP2 0).trans rfl
    have r1 : W2.cell? ⟨w.heap.size, 1, none⟩ = some (.slice none 0 0) := (blk_cell HP2 1).trans rfl
    refine bodyPost_ret (v := .tuple #[.agg #[.slice none 0 0, .slice none 0 0], .iface 106 (.pointer (some ⟨gF, 0, none⟩))]) (by simp [results, Tryd.results12, go_sem, r0, r1]) rfl ?_
    refine ⟨HB2, ?_⟩
    rw [HR.out]
    exact ⟨_, rfl, gF, Nat.zero_le _, rfl, HF2⟩
  | ok ts =>
    rw [hc] at hcut
    obtain ⟨hts, hpos⟩ := htoks ts hc
    have HR : Hid (parse s = progp ts) := Lib.hid (by unfold parse; rw [hc])
    obtain ⟨rd, hrd⟩ : ∃ rd, rd = declsp ts 64 ⟨0, none⟩ := ⟨_, rfl⟩
    obtain ⟨rt, hrt⟩ : ∃ rt, rt = threadsp ts 16 rd.2 := ⟨_, rfl⟩
    have HPR : Hid (progp ts = match rt.2.e with | none => .ok ⟨rd.1, rt.1⟩ | some x => .error x) := Lib.hid (by rw [hrt, hrd]; rfl)
    have HRD := Lib.hid hrd
    have HRT := Lib.hid hrt
    have HC := Lib.hid hcut
    have HT := Lib.hid hts
    have HPOS := Lib.hid hpos
    clear hcut hc htoks hts hpos hrd hrt
    go_enter Tryd.func12, Tryd.ntmps12
    go_upto_block 0 with (go_at_call 27; refine HC.out.mono ?_; rintro e w1 ⟨hb, v, rfl, hown, hle⟩; obtain ⟨g, c, rfl, hg1, hg2⟩ := hown.form HPOS.out; have HB := Lib.hid hb; have HOWN := Lib.hid hown; clear hb hown hle)
    obtain ⟨b, hbb⟩ : ∃ b, b = w1.heap.size := ⟨_, rfl⟩
    obtain ⟨O, hOO⟩ : ∃ O, O = w1.heap.size + 1 := ⟨_, rfl⟩
    obtain ⟨W0, hW0⟩ : ∃ W0, W0 = (w1.alloc (.cells #[.slice (some ⟨g, 0, none⟩) ts.length c, .int .i64 0, .nilIface, .int .i64 0] TP)).alloc (.cells #[.slice none 0 0, .slice none 0 0] TPg) := ⟨_, rfl⟩
    have hw1 : w.heap.size + 1 ≤ w1.heap.size := by simpa using HB.out.size
    have HG0 : Hid (GI w b g c ts O [] none 0 0 [] [] none 0 0 ⟨0, none⟩ W0 ∧ DL ts rd 64 0 [] ⟨0, none⟩) := Lib.hid (by
      have hrow := Row.own HOWN.out g c rfl
      obtain ⟨_, cur, hcur⟩ := own_blk HOWN.out (r := g) rfl
      obtain ⟨h4, h5⟩ : ts.length ≤ c ∧ c ≤ maxLen := by
        rcases HOWN.out.2 with ⟨e, _⟩ | ⟨_, cap, _, e, _, _, h3, h4, _⟩
        · cases e
        · injection e with _ _ e; subst e; exact ⟨h3, h4⟩
      have e1 : W0.heap[b]? = some (.cells #[.slice (some ⟨g, 0, none⟩) ts.length c, .int .i64 0, .nilIface, .int .i64 0] TP (0, 0)) := by rw [hW0, hbb]; exact blk_alloc (blk_new _ _) _
      have e2 : W0.heap[O]? = some (.cells #[.slice none 0 0, .slice none 0 0] TPg (0, 0)) := by
        rw [hW0, hOO]
        have := blk_new (w1.alloc (.cells #[.slice (some ⟨g, 0, none⟩) ts.length c, .int .i64 0, .nilIface, .int .i64 0] TP)) (.cells #[.slice none 0 0, .slice none 0 0] TPg)
        simpa using this
      have e3 : ∀ i, i < w1.heap.size → W0.heap[i]? = w1.heap[i]? := fun i hi => by
        rw [hW0]
        exact (Below.heap_alloc _ _ _ (by simp; omega)).trans (Below.heap_alloc _ _ _ hi)
      refine ⟨⟨⟨⟨_, e1, rfl⟩, hrow.same (e3 g hg2), ⟨h4, h5⟩, HPOS.out⟩, ?_, by omega, (e3 _ (by omega)).trans (blk_below (blk_new _ _) HB.out), e2, by omega, ⟨rfl, .inl ⟨rfl, rfl⟩⟩, ⟨rfl, .inl ⟨rfl, rfl⟩⟩, rfl⟩, by rw [HRD.out]; rfl, rfl⟩
      rw [hW0]
      exact ((((Below.refl w.heap.size w).alloc (Nat.le_refl _) _).trans (HB.out.mono (by simp))).alloc (by omega) _).alloc (by simp; omega) _)
    show Code.wp _ _ _ _ ((w1.alloc (.cells #[.slice (some ⟨g, 0, none⟩) ts.length c, .int .i64 0, .nilIface, .int .i64 0] TP)).alloc (.cells #[.slice none 0 0, .slice none 0 0] TPg))
    rw [← hW0, ← hOO, ← hbb]
    have hbO : b ≠ O := by omega
    clear hW0 hbb hOO hw1 hg1 hg2
    go_cut [] (fun wx => ∃ (n : Nat) (ds : List Dcl) (A : Option Addr) (cc : Nat) (q1 : PS), Hid (GI w b g c ts O ds A n cc [] [] none 0 0 q1 wx ∧ rd = (ds, q1)))
    case first =>
      go_wp2_with fail
      go_loopg [36] 64 (fun f _ wr => ∃ (f' n : Nat) (ds : List Dcl) (A : Option Addr) (cc : Nat) (q1 : PS), f = f' ∧ Hid (GI w b g c ts O ds A n cc [] [] none 0 0 q1 wr ∧ DL ts rd f' n ds q1))
      case atStart => exact ⟨_, _, _, _, _, _, rfl, HG0⟩
      case round =>
        obtain ⟨f', n, ds, A, cc, q1, hff, HK⟩ := hrel
        have hbl := HK.out.1.pm.lt
        have hOl := HK.out.1.lt
        rcases HK.out.1.pm.errc with ⟨e1, c2⟩ | ⟨e1, g', c2⟩
        · have his := is_calls b g c ts q1 0 HT.out ⟨#[116, 104, 114, 101, 97, 100]⟩ wr HK.out.1.pm
          cases hi : isp ts ⟨#[116, 104, 114, 101, 97, 100]⟩ q1 with
          | true =>
            rw [hi] at his
            have HIS := Lib.hid his
            have HD := Lib.hid (HK.out.2.stop (.inr hi))
            clear his hi e1 hff
            go_wp2_with (go_at_call 28; refine HIS.out.mono ?_; rintro e w4 ⟨rfl, hb4⟩; have HK4 := Lib.hid (HK.out.1.below hb4); clear hb4)
            go_meet
            case rel => exact ⟨_, _, _, _, _, Lib.hid ⟨HK4.out, HD.out⟩⟩
          | false =>
            rw [hi] at his
            have HIS := Lib.hid his
            have hn := HK.out.2.2
            by_cases hn64 : n = 64
            · subst hn64
              obtain rfl : f' = 0 := by omega
              have HD := Lib.hid (HK.out.2.full e1 hi)
              clear his hi e1 hff hn
              go_wp2_with (first
                | (go_at_call 28; refine HIS.out.mono ?_; rintro e w4 ⟨rfl, hb4⟩; have HK4 := Lib.hid (HK.out.1.below hb4); clear hb4; have o4 : w4.cell? ⟨O, 0, none⟩ = some (.slice A 64 cc) := (blk_cell HK4.out.out 0).trans rfl)
                | (go_at_call 29; refine (fail_calls b g c ts q1 0 6 HT.out w4 HK4.out.pm).mono ?_; rintro e w5 ⟨rfl, hp5⟩; have HK5 := Lib.hid (HK4.out.go hp5); clear hp5))
              go_meet
              case rel => exact ⟨_, _, _, _, _, Lib.hid ⟨HK5.out, HD.out⟩⟩
            · obtain ⟨f2, rfl⟩ : ∃ f2, f' = f2 + 1 := ⟨f' - 1, by omega⟩
              subst hff
              have HD := Lib.hid (HK.out.2.next e1 hi)
              have hn2 : n ≤ 63 := by omega
              have hn3 : ¬ (n : Int) = 64 := by omega
              have hn4 : ((n : Int) == 64) = false := by simpa using hn3
              clear his hi e1 hn hn64
              go_wp2_with (go_at_call 28; refine HIS.out.mono ?_; rintro e w4 ⟨rfl, hb4⟩; have HK4 := Lib.hid (HK.out.1.below hb4); clear hb4; have o4 : w4.cell? ⟨O, 0, none⟩ = some (.slice A n cc) := (blk_cell HK4.out.out 0).trans rfl)
              have HPD : Hid (PM w4.drew b g c ts q1 0) := Lib.hid (HK4.out.pm.keep fun _ _ => rfl)
              obtain ⟨i0, hi, hz0, hz1, hz2⟩ := info_parts infoTD
              refine wp_region_S [(7, fun w' => w'.cell? ⟨O, 0, none⟩ = some (.slice A n cc))] (by kernel_rfl) (SL.cons (cell_dr o4) SL.nil) (fun hS => ?_)
              (refine wpAnyS_free 0 (v := ?_) rfl (by kernel_rfl) (by kernel_rfl) (by kernel_rfl) (by simp) (fun _ _ _ h => h) (Or.inl ⟨by rfl, ?_⟩) hS (fun hS => ?_); rotate_left; · ((intro w; go_simp) <;> with_reducible rfl); try simp only [Act.put, List.setIfInBounds_toArray, List.set_cons_zero, List.set_cons_succ])
              (refine wpAnyS_free 2 (v := ?_) rfl (by kernel_rfl) (by kernel_rfl) (by kernel_rfl) (by simp) (fun _ _ _ h => h) (Or.inl ⟨by rfl, ?_⟩) hS (fun hS => ?_); rotate_left; · ((intro w; go_simp) <;> with_reducible rfl); try simp only [Act.put, List.setIfInBounds_toArray, List.set_cons_zero, List.set_cons_succ])
              (refine wpAnyS_load 1 7 (v := ?_) (List.mem_singleton.2 rfl) rfl (by kernel_rfl) (by kernel_rfl) (by kernel_rfl) (by kernel_rfl) (by kernel_rfl) (by simp) (fun _ _ _ h => h) (Or.inl ⟨by rfl, ?_⟩) hS (fun hS => ?_); rotate_left; · ((intro w hSw; (try dsimp only at hSw); go_simp) <;> with_reducible rfl); try simp only [Act.put, List.setIfInBounds_toArray, List.set_cons_zero, List.set_cons_succ])
              (refine wpAnyS_one 3 rfl (by kernel_rfl) (by rfl) (fun K hK => ?_); go_simp)
              (refine (pdecl_any b g c ts q1 0 w4.drew HT.out HPD.out).mono ?_; rintro e w9 ⟨rfl, hp9⟩; have HP9 : Hid (PT w4 b g c ts (declp ts q1).2 0 w9) := Lib.hid ⟨hp9.1, ⟨hp9.2.os, hp9.2.tape, hp9.2.output, hp9.2.size, hp9.2.block⟩⟩; clear hp9; have HK9 := Lib.hid (HK4.out.go HP9.out); have e9 : w9.cell? ⟨O, 0, none⟩ = some (.slice A n cc) := (blk_cell HK9.out.out 0).trans rfl)
              refine hK.out _ _ (SL.cons e9 SL.nil) (fun hS => ?_)
              clear hK K
              try simp only [Act.put, List.setIfInBounds_toArray, List.set_cons_zero, List.set_cons_succ]
              (refine wpAnyS_one 4 rfl (by kernel_rfl) (by rfl) (fun K hK => ?_); go_simp)
              refine hK.out _ _ (SL.cons (cell_al e9 _) SL.nil) (fun hS => ?_)
              clear hK K
              try simp only [Act.put, List.setIfInBounds_toArray, List.set_cons_zero, List.set_cons_succ]
              (refine wpAnyS_one 5 rfl (by kernel_rfl) (by rfl) (fun K hK => ?_); refine wp_append_lies _ (.tmp 37) (.tmp 40) 24 (by rfl) (w.heap.size + 1) TD i0 (.agg #[.bool false, .int .i64 0, .string ByteArray.empty, .int .i64 0, .string ByteArray.empty, .int .i64 0]) 6 64 Tryd.underlying24 hi hz0 hz1 hz2 (by rfl) (by decide) (.slice A n cc) n (List.flatMap Dcl.cells ds) (by rfl) (HK9.out.own.alloc _) ⟨w9.heap.size, 0, none⟩ 1 1 (declp ts q1).1.cells (by rfl) (by rfl) (news_new rfl) (dcl_one _) (by decide) (by unfold maxLen; omega) (by omega) (by have := HK9.out.bel.size; have := lt_heap HK9.out.P0; simp; omega) (w9.heap.size + 1) (by simp) ?_; intro g' cap' w10 hown hgrow hor hlt)
              have out10 := blk_grow (HK9.out.own.alloc (.cells (declp ts q1).1.cells.toArray TD)) hgrow (blk_alloc HK9.out.out _) (by decide)
              have e10 : w10.cell? ⟨O, 0, none⟩ = some (.slice A n cc) := (blk_cell out10 0).trans rfl
              have f10 : w10.frozen? ⟨O, 0, none⟩ = false := blk_frozen out10 0
              have HKN := Lib.hid (HK4.out.decl HP9.out hown hgrow)
              clear hown hgrow hor out10
              refine hK.out _ _ (SL.cons e10 SL.nil) (fun hS => ?_)
              clear hK K
              try simp only [Act.put, List.setIfInBounds_toArray, List.set_cons_zero, List.set_cons_succ]
              (refine wpAnyS_free 6 (v := ?_) rfl (by kernel_rfl) (by kernel_rfl) (by kernel_rfl) (by simp) (fun _ _ _ h => h) (Or.inl ⟨by rfl, ?_⟩) hS (fun hS => ?_); rotate_left; · ((intro w; go_simp) <;> with_reducible rfl); try simp only [Act.put, List.setIfInBounds_toArray, List.set_cons_zero, List.set_cons_succ])
              (refine wpAnyS_one 7 rfl (by kernel_rfl) (by rfl) (fun K hK => ?_); go_simp)
              refine hK.out _ _ (SL.past (by kernel_rfl) SL.nil) (fun hS => ?_)
              clear hK K
              try simp only [Act.put, List.setIfInBounds_toArray, List.set_cons_zero, List.set_cons_succ]
              refine wpAnyS_done (by kernel_rfl) ?_ _
              clear e9 e10 f10
              go_wp2
              go_roundg f2
              case measure => omega
              case rel => exact ⟨_, _, _, _, _, _, rfl, Lib.hid ⟨HKN.out, HD.out⟩⟩
        · have HD := Lib.hid (HK.out.2.stop (.inl e1))
          clear e1 hff
          go_wp2
          go_meet
          case rel => exact ⟨_, _, _, _, _, Lib.hid ⟨HK.out.1, HD.out⟩⟩
    case rest =>
      obtain ⟨n, ds, A, cc, q1, HG⟩ := hcut
      clear HG0
      go_upto_block 2 with fail
      go_cut [] (fun wx => ∃ (n' : Nat) (th : List Blk) (vs : List (Option Addr × Nat × Nat)) (A' : Option Addr) (cc' : Nat) (q2 : PS), Hid (GI w b g c ts O ds A n cc th vs A' n' cc' q2 wx ∧ rt = (th, q2)))
      case first =>
        have HG1 : Hid (GI w b g c ts O ds A n cc [] [] none 0 0 q1 wc ∧ TL ts rt 16 0 [] q1) := Lib.hid ⟨HG.out.1, by rw [HRT.out, HG.out.2]; rfl, rfl⟩
        go_wp2_with fail
        go_loopg [62] 16 (fun f _ wr => ∃ (f' n' : Nat) (th : List Blk) (vs : List (Option Addr × Nat × Nat)) (A' : Option Addr) (cc' : Nat) (q2 : PS), f = f' ∧ Hid (GI w b g c ts O ds A n cc th vs A' n' cc' q2 wr ∧ TL ts rt f' n' th q2))
        case atStart => exact ⟨_, _, _, _, _, _, _, rfl, HG1⟩
        case round =>
          obtain ⟨f', n', th, vs, A', cc', q2, hff, HK⟩ := hrel
          have hbl := HK.out.1.pm.lt
          have hOl := HK.out.1.lt
          rcases HK.out.1.pm.errc with ⟨e1, c2⟩ | ⟨e1, g', c2⟩
          · have hnx := next_calls b g c ts q2 0 HT.out wr HK.out.1.pm
            obtain ⟨t, ht⟩ : ∃ t, t = nxt ts q2 := ⟨_, rfl⟩
            rw [← ht] at hnx
            have HNX := Lib.hid hnx
            obtain ⟨kk, hkk⟩ : ∃ kk : Int, kk = t.k := ⟨_, rfl⟩
            have hfd : ∀ w : World, (Instr.field TK (tokV t) 0).run Tryd.prog w = .ok (.int .i64 kk) w := by rw [hkk]; exact tok_kind t
            by_cases hk : kk = 0
            · have HD := Lib.hid (HK.out.2.stop (.inr (by rw [← ht]; omega)))
              subst hk
              clear hnx e1 hff ht hkk
              go_wp2_with (go_at_call 31; refine HNX.out.mono ?_; rintro e w4 ⟨rfl, hb4⟩; have HK4 := Lib.hid (HK.out.1.below hb4); clear hb4)
              go_meet
              case rel => exact ⟨_, _, _, _, _, _, Lib.hid ⟨HK4.out, HD.out⟩⟩
            · have hkn : ¬ (nxt ts q2).k = 0 := by rw [← ht]; omega
              have hn := HK.out.2.2
              by_cases hn16 : n' = 16
              · subst hn16
                obtain rfl : f' = 0 := by omega
                have HD := Lib.hid (HK.out.2.full e1 hkn)
                clear hnx e1 hff hn ht hkk hkn
                go_wp2_with (first
                  | (go_at_call 31; refine HNX.out.mono ?_; rintro e w4 ⟨rfl, hb4⟩; have HK4 := Lib.hid (HK.out.1.below hb4); clear hb4; have o4 : w4.cell? ⟨O, 1, none⟩ = some (.slice A' 16 cc') := (blk_cell HK4.out.out 1).trans rfl)
                  | (go_at_call 29; refine (fail_calls b g c ts q2 0 6 HT.out w4 HK4.out.pm).mono ?_; rintro e w5 ⟨rfl, hp5⟩; have HK5 := Lib.hid (HK4.out.go hp5); clear hp5))
                go_meet
                case rel => exact ⟨_, _, _, _, _, _, Lib.hid ⟨HK5.out, HD.out⟩⟩
              · obtain ⟨f2, rfl⟩ : ∃ f2, f' = f2 + 1 := ⟨f' - 1, by omega⟩
                subst hff
                have HD := Lib.hid (HK.out.2.next e1 hkn)
                have hn2 : n' ≤ 15 := by omega
                have hn3 : ¬ (n' : Int) = 16 := by omega
                have hn4 : ((n' : Int) == 16) = false := by simpa using hn3
                obtain ⟨q3, hq3⟩ : ∃ q3, q3 = wantp ts ⟨#[116, 104, 114, 101, 97, 100]⟩ q2 := ⟨_, rfl⟩
                rw [← hq3] at HD
                have HQ3 := Lib.hid hq3
                clear hnx e1 hn hn16 ht hkk hkn hq3
                go_wp2_with (first
                  | (go_at_call 31; refine HNX.out.mono ?_; rintro e w3 ⟨rfl, hb4⟩; have HK3 := Lib.hid (HK.out.1.below hb4); clear hb4; have o3 : w3.cell? ⟨O, 1, none⟩ = some (.slice A' n' cc') := (blk_cell HK3.out.out 1).trans rfl)
                  | (go_at_call 32; refine (want_calls b g c ts q2 0 HT.out ⟨#[116, 104, 114, 101, 97, 100]⟩ _ HK3.out.pm).mono ?_; rintro e w4 ⟨rfl, hp⟩; rw [← HQ3.out] at hp; have HK4 := Lib.hid (HK3.out.go hp); clear hp o3; have o4 : w4.cell? ⟨O, 1, none⟩ = some (.slice A' n' cc') := (blk_cell HK4.out.out 1).trans rfl))
                have HPD : Hid (PM w4.drew b g c ts q3 0) := Lib.hid (HK4.out.pm.keep fun _ _ => rfl)
                obtain ⟨i0, hi, hz0, hz1, hz2⟩ := info_parts infoTB
                refine wp_region_S [(7, fun w' => w'.cell? ⟨O, 1, none⟩ = some (.slice A' n' cc'))] (by kernel_rfl) (SL.cons (cell_dr o4) SL.nil) (fun hS => ?_)
                (refine wpAnyS_free 0 (v := ?_) rfl (by kernel_rfl) (by kernel_rfl) (by kernel_rfl) (by simp) (fun _ _ _ h => h) (Or.inl ⟨by rfl, ?_⟩) hS (fun hS => ?_); rotate_left; · ((intro w; go_simp) <;> with_reducible rfl); try simp only [Act.put, List.setIfInBounds_toArray, List.set_cons_zero, List.set_cons_succ])
                (refine wpAnyS_free 2 (v := ?_) rfl (by kernel_rfl) (by kernel_rfl) (by kernel_rfl) (by simp) (fun _ _ _ h => h) (Or.inl ⟨by rfl, ?_⟩) hS (fun hS => ?_); rotate_left; · ((intro w; go_simp) <;> with_reducible rfl); try simp only [Act.put, List.setIfInBounds_toArray, List.set_cons_zero, List.set_cons_succ])
                (refine wpAnyS_load 1 7 (v := ?_) (List.mem_singleton.2 rfl) rfl (by kernel_rfl) (by kernel_rfl) (by kernel_rfl) (by kernel_rfl) (by kernel_rfl) (by simp) (fun _ _ _ h => h) (Or.inl ⟨by rfl, ?_⟩) hS (fun hS => ?_); rotate_left; · ((intro w hSw; (try dsimp only at hSw); go_simp) <;> with_reducible rfl); try simp only [Act.put, List.setIfInBounds_toArray, List.set_cons_zero, List.set_cons_succ])
                (refine wpAnyS_one 3 rfl (by kernel_rfl) (by rfl) (fun K hK => ?_); go_simp)
                (refine (block_any 40 b g c ts q3 0 w4.drew (by rfl) HT.out HPD.out).mono ?_; rintro e w9 ⟨A1, n1, c1, rfl, hbs, hp9⟩; have HP9 : Hid (PT w4 b g c ts (blockp ts (stmtp ts 40) q3).2 0 w9) := Lib.hid ⟨hp9.1, ⟨hp9.2.os, hp9.2.tape, hp9.2.output, hp9.2.size, hp9.2.block⟩⟩; have HBS : Hid (Bs (blockp ts (stmtp ts 40) q3).1 (fun i => w4.heap.size ≤ i) w9 A1 n1 c1) := Lib.hid hbs; clear hp9 hbs; have HK9 := Lib.hid (HK4.out.go HP9.out); have e9 : w9.cell? ⟨O, 1, none⟩ = some (.slice A' n' cc') := (blk_cell HK9.out.out 1).trans rfl)
                refine hK.out _ _ (SL.cons e9 SL.nil) (fun hS => ?_)
                clear hK K
                try simp only [Act.put, List.setIfInBounds_toArray, List.set_cons_zero, List.set_cons_succ]
                (refine wpAnyS_one 4 rfl (by kernel_rfl) (by rfl) (fun K hK => ?_); go_simp)
                refine hK.out _ _ (SL.cons (cell_al e9 _) SL.nil) (fun hS => ?_)
                clear hK K
                try simp only [Act.put, List.setIfInBounds_toArray, List.set_cons_zero, List.set_cons_succ]
                (refine wpAnyS_one 5 rfl (by kernel_rfl) (by rfl) (fun K hK => ?_); refine wp_append_lies _ (.tmp 63) (.tmp 66) 25 (by rfl) (w.heap.size + 1) TB' i0 (.slice none 0 0) 1 24 Tryd.underlying25 hi hz0 hz1 hz2 (by rfl) (by decide) (.slice A' n' cc') n' (List.map tcell vs) (by rfl) (HK9.out.own'.alloc _) ⟨w9.heap.size, 0, none⟩ 1 1 [tcell (A1, n1, c1)] (by rfl) (by rfl) (news_new rfl) (by intro u hu; simp at hu; subst hu; rfl) (by decide) (by unfold maxLen; omega) (by omega) (by have := HK9.out.bel.size; have := lt_heap HK9.out.P0; simp; omega) (w9.heap.size + 1) (by simp) ?_; intro g' cap' w10 hown hgrow hor hlt)
                have out10 := blk_grow (HK9.out.own'.alloc (.cells #[tcell (A1, n1, c1)] TB')) hgrow (blk_alloc HK9.out.out _) (by decide)
                have e10 : w10.cell? ⟨O, 1, none⟩ = some (.slice A' n' cc') := (blk_cell out10 1).trans rfl
                have f10 : w10.frozen? ⟨O, 1, none⟩ = false := blk_frozen out10 1
                have HKN := Lib.hid (HK4.out.thread (v := (A1, n1, c1)) HP9.out HBS.out hown hgrow)
                clear hown hgrow hor out10
                refine hK.out _ _ (SL.cons e10 SL.nil) (fun hS => ?_)
                clear hK K
                try simp only [Act.put, List.setIfInBounds_toArray, List.set_cons_zero, List.set_cons_succ]
                (refine wpAnyS_free 6 (v := ?_) rfl (by kernel_rfl) (by kernel_rfl) (by kernel_rfl) (by simp) (fun _ _ _ h => h) (Or.inl ⟨by rfl, ?_⟩) hS (fun hS => ?_); rotate_left; · ((intro w; go_simp) <;> with_reducible rfl); try simp only [Act.put, List.setIfInBounds_toArray, List.set_cons_zero, List.set_cons_succ])
                (refine wpAnyS_one 7 rfl (by kernel_rfl) (by rfl) (fun K hK => ?_); go_simp)
                refine hK.out _ _ (SL.past (by kernel_rfl) SL.nil) (fun hS => ?_)
                clear hK K
                try simp only [Act.put, List.setIfInBounds_toArray, List.set_cons_zero, List.set_cons_succ]
                refine wpAnyS_done (by kernel_rfl) ?_ _
                clear e9 e10 f10
                go_wp2
                go_roundg f2
                case measure => omega
                case rel => exact ⟨_, _, _, _, _, _, _, rfl, Lib.hid ⟨HKN.out, HD.out⟩⟩
          · have HD := Lib.hid (HK.out.2.stop (.inl e1))
            clear e1 hff
            go_wp2
            go_meet
            case rel => exact ⟨_, _, _, _, _, _, Lib.hid ⟨HK.out.1, HD.out⟩⟩
      case rest =>
        obtain ⟨n', th, vs, A', cc', q2, HG2⟩ := hcut
        have HQ : Hid (progp ts = match q2.e with | none => .ok ⟨ds, th⟩ | some x => .error x) := Lib.hid (by rw [HPR.out, HG2.out.2, HG.out.2])
        have HP := Lib.hid HG2.out.1.P0
        have HO := Lib.hid HG2.out.1.out
        have hbl := HG2.out.1.pm.lt
        have hwO := HG2.out.1.hO
        have hwb := HG2.out.1.hb
        have p0 := (blk_cell HP.out 0).trans (show _ = some (Value.slice none 0 0) from rfl)
        have p1 := (blk_cell HP.out 1).trans (show _ = some (Value.slice none 0 0) from rfl)
        have k0 := blk_frozen HP.out 0
        have k1 := blk_frozen HP.out 1
        have o0 := (blk_cell HO.out 0).trans (show _ = some (Value.slice A n cc) from rfl)
        have o1 := (blk_cell HO.out 1).trans (show _ = some (Value.slice A' n' cc') from rfl)
        have hbel := Lib.hid HG2.out.1.bel
        have hset : ∀ (u v : Value) (wz : World), wz.heap[w.heap.size]? = some (.cells #[.slice none 0 0, .slice none 0 0] TPg (0, 0)) → ((wz.setCell ⟨w.heap.size, 0, none⟩ u).setCell ⟨w.heap.size, 1, none⟩ v).heap[w.heap.size]? = some (.cells #[u, v] TPg (0, 0)) := fun u v wz h => blk_put (blk_put h 0 _ rfl) 1 _ rfl
        have HSET := Lib.hid hset
        clear hset
        rcases HG2.out.1.pm.errc with ⟨e1, c2⟩ | ⟨e1, g', c2⟩
        · have HE := Lib.hid e1
          clear e1
          go_wp2
          obtain ⟨W2, hW2⟩ : ∃ W2, W2 = (wc.setCell ⟨w.heap.size, 0, none⟩ (.slice A n cc)).setCell ⟨w.heap.size, 1, none⟩ (.slice A' n' cc') := ⟨_, rfl⟩
          have HP2 : W2.heap[w.heap.size]? = some (.cells #[.slice A n cc, .slice A' n' cc'] TPg (0, 0)) := by rw [hW2]; exact HSET.out _ _ _ HP.out
          have far : ∀ i, i ≠ w.heap.size → W2.heap[i]? = wc.heap[i]? := fun i hi => by rw [hW2]; exact (Below.heap_setCell _ _ _ _ hi).trans (Below.heap_setCell _ _ _ _ hi)
          have HB2 : Below w.heap.size w W2 := by rw [hW2]; exact (hbel.out.setCell (p := ⟨w.heap.size, 0, none⟩) (Nat.le_refl _) _).setCell (p := ⟨w.heap.size, 1, none⟩) (Nat.le_refl _) _
          rw [← hW2]
          clear hW2
          have r0 := (blk_cell HP2 0).trans (show _ = some (Value.slice A n cc) from rfl)
          have r1 := (blk_cell HP2 1).trans (show _ = some (Value.slice A' n' cc') from rfl)
          refine bodyPost_ret (v := .tuple #[.agg #[.slice A n cc, .slice A' n' cc'], .nilIface]) (by simp [results, Tryd.results12, go_sem, r0, r1]) rfl ?_
          refine ⟨HB2, ?_⟩
          rw [HR.out, HQ.out, HE.out]
          exact ⟨_, _, _, _, _, _, rfl, HG2.out.1.dsR far, HG2.out.1.thR far⟩
        · have hpm := HG2.out.1.pm
          obtain ⟨x, hx⟩ : ∃ x, q2.e = some x := by cases hq : q2.e <;> simp_all
          obtain ⟨⟨ev, hb1, he1⟩, _⟩ := hpm
          rw [hx] at he1
          obtain ⟨gF, _, rfl, hF⟩ := he1
          have c2 : wc.cell? ⟨b, 2, none⟩ = some (.iface 106 (.pointer (some ⟨gF, 0, none⟩))) := (blk_cell hb1 2).trans rfl
          have HX := Lib.hid hx
          have HF := Lib.hid hF
          have hne : b ≠ w.heap.size := by omega
          clear hx hF hb1 e1
          go_wp2_with fail
          refine wp_region_S [(6, fun w' => w'.cell? ⟨b, 2, none⟩ = some (.iface 106 (.pointer (some ⟨gF, 0, none⟩))))] (by kernel_rfl) (SL.cons (cell_dr c2) SL.nil) (fun hS => ?_)
          (refine wpAnyS_free 0 (v := ?_) rfl (by kernel_rfl) (by kernel_rfl) (by kernel_rfl) (by simp) (fun _ _ _ h => h) (Or.inl ⟨by rfl, ?_⟩) hS (fun hS => ?_); rotate_left; · ((intro w; go_simp) <;> with_reducible rfl); try simp only [Act.put, List.setIfInBounds_toArray, List.set_cons_zero, List.set_cons_succ])
          (refine wpAnyS_free 1 (v := ?_) rfl (by kernel_rfl) (by kernel_rfl) (by kernel_rfl) (by simp) (fun _ _ _ h => h) (Or.inl ⟨by rfl, ?_⟩) hS (fun hS => ?_); rotate_left; · ((intro w; go_simp) <;> with_reducible rfl); try simp only [Act.put, List.setIfInBounds_toArray, List.set_cons_zero, List.set_cons_succ])
          (refine wpAnyS_free 2 (v := ?_) rfl (by kernel_rfl) (by kernel_rfl) (by kernel_rfl) (by simp) (fun _ _ _ h => h) (Or.inl ⟨by rfl, ?_⟩) hS (fun hS => ?_); rotate_left; · ((intro w; go_simp) <;> with_reducible rfl); try simp only [Act.put, List.setIfInBounds_toArray, List.set_cons_zero, List.set_cons_succ])
          (refine wpAnyS_free 3 (v := ?_) rfl (by kernel_rfl) (by kernel_rfl) (by kernel_rfl) (by simp) (fun _ _ _ h => h) (Or.inl ⟨by rfl, ?_⟩) hS (fun hS => ?_); rotate_left; · ((intro w; go_simp) <;> with_reducible rfl); try simp only [Act.put, List.setIfInBounds_toArray, List.set_cons_zero, List.set_cons_succ])
          (refine wpAnyS_load 4 6 (v := ?_) (List.mem_singleton.2 rfl) rfl (by kernel_rfl) (by kernel_rfl) (by kernel_rfl) (by kernel_rfl) (by kernel_rfl) (by simp) (fun _ _ _ h => h) (Or.inl ⟨by rfl, ?_⟩) hS (fun hS => ?_); rotate_left; · ((intro w hSw; (try dsimp only at hSw); go_simp) <;> with_reducible rfl); try simp only [Act.put, List.setIfInBounds_toArray, List.set_cons_zero, List.set_cons_succ])
          (refine wpAnyS_one 5 rfl (by kernel_rfl) (by rfl) (fun K hK => ?_); go_simp)
          refine hK.out _ _ (SL.cons ((World.cell?_setCell_other _ _ _ _ (fun e => hne (congrArg Addr.block e).symm)).trans ((World.cell?_setCell_other _ _ _ _ (fun e => hne (congrArg Addr.block e).symm)).trans (cell_dr c2))) SL.nil) (fun hS => ?_)
          clear hK K
          try simp only [Act.put, List.setIfInBounds_toArray, List.set_cons_zero, List.set_cons_succ]
          (refine wpAnyS_one 6 rfl (by kernel_rfl) (by rfl) (fun K hK => ?_); go_simp)
          refine hK.out _ _ (SL.past (by kernel_rfl) SL.nil) (fun hS => ?_)
          clear hK K
          try simp only [Act.put, List.setIfInBounds_toArray, List.set_cons_zero, List.set_cons_succ]
          refine wpAnyS_done (by kernel_rfl) ?_ _
          go_wp2
          obtain ⟨W2, hW2⟩ : ∃ W2, W2 = ((wc.setCell ⟨w.heap.size, 0, none⟩ (.slice none 0 0)).setCell ⟨w.heap.size, 1, none⟩ (.slice none 0 0)).drew := ⟨_, rfl⟩
          have HP2 : W2.heap[w.heap.size]? = some (.cells #[.slice none 0 0, .slice none 0 0] TPg (0, 0)) := by rw [hW2]; exact HSET.out _ _ _ HP.out
          have HB2 : Below w.heap.size w W2 := by rw [hW2]; exact ((hbel.out.setCell (p := ⟨w.heap.size, 0, none⟩) (Nat.le_refl _) _).setCell (p := ⟨w.heap.size, 1, none⟩) (Nat.le_refl _) _).drew
          have hgP : gF ≠ w.heap.size := by
            rintro rfl
            have h1 := HF.out
            rw [HP.out] at h1
            injection h1 with h1; injection h1 with _ h1 _
            exact absurd h1 (by decide)
          have HF2 : W2.heap[gF]? = some (.cells #[.int .i64 x.2, .iface 51 (.int .i64 x.1)] TF (0, 0)) := by
            rw [hW2]
            exact (Below.heap_setCell _ _ _ _ hgP).trans ((Below.heap_setCell _ _ _ _ hgP).trans HF.out)
          rw [← hW2]
          clear hW2
          have r0 := (blk_cell HP2 0).trans (show _ = some (Value.slice none 0 0) from rfl)
          have r1 := (blk_cell HP2 1).trans (show _ = some (Value.slice none 0 0) from rfl)
          refine bodyPost_ret (v := .tuple #[.agg #[.slice none 0 0, .slice none 0 0], .iface 106 (.pointer (some ⟨gF, 0, none⟩))]) (by simp [results, Tryd.results12, go_sem, r0, r1]) rfl ?_
          refine ⟨HB2, ?_⟩
          rw [HR.out, HQ.out, HX.out]
          exact ⟨_, rfl, gF, Nat.zero_le _, rfl, HF2⟩
end Go.Proofs.YtcdgjgoplogiiaaDoor.PT
