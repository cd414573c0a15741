/- (*parser).simple: an expression is appended. -/
import Derived.Test.YtcdgjgoplogiiaaDoorSim
namespace Go.Proofs.YtcdgjgoplogiiaaDoor.PT
open Go.RowKit Go.Lib
set_option linter.unusedVariables false
set_option linter.unusedSimpArgs false
def put6 (cs : Array Value) (o : Nat) (x : EV) : Array Value :=
  (((((cs.setIfInBounds o (.int .i64 x.k)).setIfInBounds (o + 1) (.int .i64 x.o)).setIfInBounds (o + 2) (.string x.s)).setIfInBounds (o + 3) (.int .u64 x.v)).setIfInBounds (o + 4) (.slice x.A x.n x.c)).setIfInBounds (o + 5) (.int .i64 x.p)
theorem put6_size (cs : Array Value) (o : Nat) (x : EV) : (put6 cs o x).size = cs.size := by simp [put6]
theorem put6_get (cs : Array Value) (o : Nat) (x : EV) (h : o + 6 ≤ cs.size) (j : Nat) : (put6 cs o x)[j]? = if j < o ∨ o + 6 ≤ j then cs[j]? else x.cells[j - o]? := by
  unfold put6
  split
  · rename_i hj
    rw [Array.getElem?_setIfInBounds_ne (by omega), Array.getElem?_setIfInBounds_ne (by omega), Array.getElem?_setIfInBounds_ne (by omega), Array.getElem?_setIfInBounds_ne (by omega), Array.getElem?_setIfInBounds_ne (by omega), Array.getElem?_setIfInBounds_ne (by omega)]
  · rename_i hj
    rcases (show j = o ∨ j = o + 1 ∨ j = o + 2 ∨ j = o + 3 ∨ j = o + 4 ∨ j = o + 5 by omega) with rfl | rfl | rfl | rfl | rfl | rfl
    · rw [Array.getElem?_setIfInBounds_ne (by omega), Array.getElem?_setIfInBounds_ne (by omega), Array.getElem?_setIfInBounds_ne (by omega), Array.getElem?_setIfInBounds_ne (by omega), Array.getElem?_setIfInBounds_ne (by omega), Array.getElem?_setIfInBounds_self_of_lt (by omega), show j - j = 0 by omega]; rfl
    · rw [Array.getElem?_setIfInBounds_ne (by omega), Array.getElem?_setIfInBounds_ne (by omega), Array.getElem?_setIfInBounds_ne (by omega), Array.getElem?_setIfInBounds_ne (by omega), Array.getElem?_setIfInBounds_self_of_lt (by simp; omega), show o + 1 - o = 1 by omega]; rfl
    · rw [Array.getElem?_setIfInBounds_ne (by omega), Array.getElem?_setIfInBounds_ne (by omega), Array.getElem?_setIfInBounds_ne (by omega), Array.getElem?_setIfInBounds_self_of_lt (by simp; omega), show o + 2 - o = 2 by omega]; rfl
    · rw [Array.getElem?_setIfInBounds_ne (by omega), Array.getElem?_setIfInBounds_ne (by omega), Array.getElem?_setIfInBounds_self_of_lt (by simp; omega), show o + 3 - o = 3 by omega]; rfl
    · rw [Array.getElem?_setIfInBounds_ne (by omega), Array.getElem?_setIfInBounds_self_of_lt (by simp; omega), show o + 4 - o = 4 by omega]; rfl
    · rw [Array.getElem?_setIfInBounds_self_of_lt (by simp; omega), show o + 5 - o = 5 by omega]; rfl
theorem put6_take (cur : Array Value) (xs : List Value) (n : Nat) (z x : EV) (hx : xs.length = n * 6) (h : cur.toList.take ((n + 1) * 6) = xs ++ z.cells) (hs : (n + 1) * 6 ≤ cur.size) : (put6 cur (n * 6) x).toList.take ((n + 1) * 6) = xs ++ x.cells := by
  have hlz : z.cells.length = 6 := rfl
  have hlx : x.cells.length = 6 := rfl
  apply List.ext_getElem?
  intro j
  have hj0 : (cur.toList.take ((n + 1) * 6))[j]? = (xs ++ z.cells)[j]? := by rw [h]
  rw [List.getElem?_take] at hj0 ⊢
  by_cases hj : j < (n + 1) * 6
  · rw [if_pos hj] at hj0 ⊢
    rw [Array.getElem?_toList] at hj0 ⊢
    rw [put6_get cur (n * 6) x (by omega)]
    by_cases h1 : j < n * 6
    · rw [if_pos (.inl h1), hj0, List.getElem?_append_left (by omega), List.getElem?_append_left (by omega)]
    · rw [if_neg (by omega), List.getElem?_append_right (by omega), hx]
  · rw [if_neg hj, List.getElem?_eq_none (by simp; omega)]
/-- An expression stored into a row. -/
def set6o (w : World) (g o : Nat) (x : EV) : World :=
  (((((w.setCell ⟨g, o, none⟩ (.int .i64 x.k)).setCell ⟨g, o + 1, none⟩ (.int .i64 x.o)).setCell ⟨g, o + 2, none⟩ (.string x.s)).setCell ⟨g, o + 3, none⟩ (.int .u64 x.v)).setCell ⟨g, o + 4, none⟩ (.slice x.A x.n x.c)).setCell ⟨g, o + 5, none⟩ (.int .i64 x.p)
theorem set6o_far (w : World) (g o : Nat) (x : EV) (i : Nat) (h : i ≠ g) : (set6o w g o x).heap[i]? = w.heap[i]? := by
  unfold set6o
  rw [Below.heap_setCell _ _ _ _ h, Below.heap_setCell _ _ _ _ h, Below.heap_setCell _ _ _ _ h, Below.heap_setCell _ _ _ _ h, Below.heap_setCell _ _ _ _ h, Below.heap_setCell _ _ _ _ h]
theorem set6o_blk {w : World} {g : Nat} {cs : Array Value} {E : TypeId} (h : w.heap[g]? = some (.cells cs E (0, 0))) (o : Nat) (x : EV) : (set6o w g o x).heap[g]? = some (.cells (put6 cs o x) E (0, 0)) := by
  unfold set6o put6
  exact blk_set (blk_set (blk_set (blk_set (blk_set (blk_set h _ _) _ _) _ _) _ _) _ _) _ _
theorem set6o_g2 {w w1 : World} {b S g : Nat} (h : G2 w w1 b S) (hg : w.heap.size ≤ g) (o : Nat) (x : EV) : G2 w (set6o w1 g o x) b S := by
  unfold set6o
  exact (((((h.far hg _).far hg _).far hg _).far hg _).far hg _).far hg _
/-- One expression more. -/
theorem SI.app {w : World} {b g c : Nat} {ts : List Tok} {dp S : Nat} {sv : SV} {es : List Tree} {ys : List EV} {q : PS} {w8 w10 W2 : World} {y : EV} {t : Tree} {g' cap' : Nat} (h : SI w b g c ts dp S sv es ys q w8)
    (hat : At t (fun i => w.heap.size ≤ i ∧ (Value.slice sv.eA sv.en sv.ec).ownBlock ≠ some i) w8 y)
    (hown : w10.ownsRow w.heap.size TE 6 (.slice (some ⟨g', 0, none⟩) (sv.en + 1) cap') (sv.en + 1) (ys.flatMap EV.cells ++ ze.cells))
    (hgrow : w8.grownBy w10 (Value.slice sv.eA sv.en sv.ec).ownBlock) (hor : (Value.slice sv.eA sv.en sv.ec).ownBlock = some g' ∨ g' = w8.heap.size)
    (hW : W2 = (set6o w10 g' (sv.en * 6) y).setCell ⟨S, 2, none⟩ (.slice (some ⟨g', 0, none⟩) (sv.en + 1) cap') ∨ W2 = set6o (w10.setCell ⟨S, 2, none⟩ (.slice (some ⟨g', 0, none⟩) (sv.en + 1) cap')) g' (sv.en * 6) y) :
    SI w b g c ts dp S { sv with eA := some ⟨g', 0, none⟩, en := sv.en + 1, ec := cap' } (es ++ [t]) (ys ++ [y]) q W2 := by
  have hlt := h.lt
  have s8 := h.gb.size
  have hb : ∀ r, (Value.slice sv.eA sv.en sv.ec).ownBlock = some r → w.heap.size ≤ r ∧ r < w8.heap.size := fun r hr => by
    obtain ⟨a1, cur, a2⟩ := own_blk h.own hr
    exact ⟨a1, lt_heap a2⟩
  have hg' : w.heap.size ≤ g' := by rcases hor with e | e; exact (hb g' e).1; omega
  have hne : g' ≠ S := by omega
  have old : ∀ i, i < w8.heap.size → (Value.slice sv.eA sv.en sv.ec).ownBlock ≠ some i → w10.heap[i]? = w8.heap[i]? := fun i hi hne => hgrow.block i hi (Ne.symm hne)
  have hS10 : w10.heap[S]? = some (.cells sv.cells.toArray TS (0, 0)) := (old S (lt_heap h.blk) (fun e => by have := (hb S e).1; omega)).trans h.blk
  have p10 : PM w10 b g c ts q dp := h.pm.grow hgrow (by decide) fun r hr => (own_blk h.own hr).2
  have g10 : G2 w w10 b S := h.gb.grow hgrow fun r hr => (hb r hr).1
  obtain ⟨gA, cap, cur, e, o2, o3, o4, o5, o6, o7⟩ : ∃ gA cap cur, (Value.slice (some ⟨g', 0, none⟩) (sv.en + 1) cap') = .slice (some ⟨gA, 0, none⟩) (sv.en + 1) cap ∧ w.heap.size ≤ gA ∧ w10.heap[gA]? = some (.cells cur TE (0, 0)) ∧ sv.en + 1 ≤ cap ∧ cap ≤ maxLen ∧ cur.size = cap * 6 ∧ cur.toList.take ((sv.en + 1) * 6) = ys.flatMap EV.cells ++ ze.cells := by
    rcases hown.2 with ⟨_, e⟩ | h
    · omega
    · exact h
  injection e with e1 e2 e3
  injection e1 with e1
  injection e1 with e1
  subst e1; subst e3
  have far : ∀ i, i ≠ S → i ≠ g' → W2.heap[i]? = w10.heap[i]? := fun i h1 h2 => by
    rcases hW with rfl | rfl
    · exact (Below.heap_setCell _ _ _ _ h1).trans (set6o_far _ _ _ _ _ h2)
    · exact (set6o_far _ _ _ _ _ h2).trans (Below.heap_setCell _ _ _ _ h1)
  have eS : W2.heap[S]? = some (.cells (SV.cells { sv with eA := some ⟨g', 0, none⟩, en := sv.en + 1, ec := cap' }).toArray TS (0, 0)) := by
    rcases hW with rfl | rfl
    · exact blk_put ((set6o_far _ _ _ _ _ (Ne.symm hne)).trans hS10) 2 _ rfl
    · exact (set6o_far _ _ _ _ _ (Ne.symm hne)).trans (blk_put hS10 2 _ rfl)
  have eg : W2.heap[g']? = some (.cells (put6 cur (sv.en * 6) y) TE (0, 0)) := by
    rcases hW with rfl | rfl
    · exact blk_far (set6o_blk o3 _ _) (p := ⟨S, 2, none⟩) hne _
    · exact set6o_blk (blk_far o3 (p := ⟨S, 2, none⟩) hne _) _ _
  have hG : G2 w W2 b S := by
    rcases hW with rfl | rfl
    · exact (set6o_g2 g10 hg' _ _).set _ _
    · exact set6o_g2 (g10.set _ _) hg' _ _
  have hP : PM W2 b g c ts q dp := p10.rows fun i cs E' hi hE' => far i (by
      rintro rfl
      rw [hS10] at hi
      injection hi with hi; injection hi with _ hi _
      subst hi
      rcases hE' with e | e | e <;> exact absurd e (by decide)) (by
      rintro rfl
      rw [o3] at hi
      injection hi with hi; injection hi with _ hi _
      subst hi
      rcases hE' with e | e | e <;> exact absurd e (by decide))
  have hlen := h.own.1
  refine ⟨hP, hG, eS, ⟨?_, .inr ⟨g', cap', _, rfl, o2, eg, o4, o5, (put6_size _ _ _).trans o6, ?_⟩⟩, FA.app ?_ ⟨y, [], rfl, ?_, rfl⟩, hlt⟩
  · rw [List.flatMap_append, List.flatMap_cons, List.flatMap_nil, List.append_nil, List.length_append, hlen]
    show sv.en * 6 + 6 = (sv.en + 1) * 6
    omega
  · rw [List.flatMap_append, List.flatMap_cons, List.flatMap_nil, List.append_nil]
    exact put6_take cur _ sv.en ze y hlen o7 (by rw [o6]; exact Nat.mul_le_mul_right 6 o4)
  · refine (h.fa.stay (w' := w10) (P' := fun i => w.heap.size ≤ i ∧ (Value.slice (some ⟨g', 0, none⟩) (sv.en + 1) cap').ownBlock ≠ some i) (fun i hi hl => ⟨hi.1, ?_⟩) (fun i cs hi hc => old i (lt_heap hc) hi.2)).mono (fun _ h _ => h) (fun i hi _ => far i (by have := hi.1; omega) (fun e => hi.2 (by rw [e]; rfl)))
    intro e
    have e' : g' = i := by injection e
    rcases hor with e1 | e1
    · exact hi.2 (by rw [e1, e'])
    · omega
  · refine (hat.stay (w' := w10) (P' := fun i => w.heap.size ≤ i ∧ (Value.slice (some ⟨g', 0, none⟩) (sv.en + 1) cap').ownBlock ≠ some i) (fun i hi hl => ⟨hi.1, ?_⟩) (fun i cs hi hc => old i (lt_heap hc) hi.2)).mono (fun _ h _ => h) (fun i hi _ => far i (by have := hi.1; omega) (fun e => hi.2 (by rw [e]; rfl)))
    intro e
    have e' : g' = i := by injection e
    rcases hor with e1 | e1
    · exact hi.2 (by rw [e1, e'])
    · omega
end Go.Proofs.YtcdgjgoplogiiaaDoor.PT
