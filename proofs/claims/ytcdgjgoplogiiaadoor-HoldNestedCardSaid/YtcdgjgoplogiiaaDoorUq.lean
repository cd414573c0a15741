/- The parser's expressions: words that the cases of unary share. -/
import Derived.Test.YtcdgjgoplogiiaaDoorExp
import Derived.Deep.AppendLies
namespace Go.Proofs.YtcdgjgoplogiiaaDoor.PT
open Go.RowKit Go.Lib
set_option linter.unusedVariables false
set_option linter.unusedSimpArgs false
/-- A sign is taken. -/
theorem take_yes {b g c : Nat} {ts : List Tok} {q : PS} {dp : Nat} {x : ByteArray} (hts : Toks ts) (hi : isp ts x q = true) (w : World) (h : PM w b g c ts q dp) :
    Calls Tryd.prog 55 #[.pointer (some ⟨b, 0, none⟩), .string x] w fun e w' => e = .returned (.bool true) ∧ PT w b g c ts (adv q) dp w' := by
  have := take_calls b g c ts q dp hts x w h
  rw [hi] at this
  exact this
theorem take_no {b g c : Nat} {ts : List Tok} {q : PS} {dp : Nat} {x : ByteArray} (hts : Toks ts) (hi : isp ts x q = false) (w : World) (h : PM w b g c ts q dp) :
    Calls Tryd.prog 55 #[.pointer (some ⟨b, 0, none⟩), .string x] w fun e w' => e = .returned (.bool false) ∧ PT w b g c ts q dp w' := by
  have := take_calls b g c ts q dp hts x w h
  rw [hi] at this
  exact this
theorem blk_pm' {w w' : World} {b g c : Nat} {ts : List Tok} {q q' : PS} {dp dp' : Nat} (hm : PM w b g c ts q dp) (hp : PT w b g c ts q' dp' w') {g' : Nat} {cs : Array Value} {E : TypeId} (h : w.heap[g']? = some (.cells cs E (0, 0))) (hE : E ≠ TP) : w'.heap[g']? = some (.cells cs E (0, 0)) := blk_pm hm hp.2 h hE
theorem keepT {w : World} {x R j : Nat} {v a0 a1 a2 a3 a4 a5 : Value} (hne : x ≠ R) (h : w.cell? ⟨x, j, none⟩ = some v) :
    ((((((w.setCell ⟨R, 0, none⟩ a0).setCell ⟨R, 1, none⟩ a1).setCell ⟨R, 2, none⟩ a2).setCell ⟨R, 3, none⟩ a3).setCell ⟨R, 4, none⟩ a4).setCell ⟨R, 5, none⟩ a5).cell? ⟨x, j, none⟩ = some v := by
  have ne : ∀ i, (⟨R, i, none⟩ : Addr) ≠ ⟨x, j, none⟩ := fun i e => hne (congrArg Addr.block e).symm
  rw [World.cell?_setCell_other _ _ _ _ (ne 5), World.cell?_setCell_other _ _ _ _ (ne 4), World.cell?_setCell_other _ _ _ _ (ne 3), World.cell?_setCell_other _ _ _ _ (ne 2), World.cell?_setCell_other _ _ _ _ (ne 1), World.cell?_setCell_other _ _ _ _ (ne 0)]
  exact h
abbrev tokA (t : Tok) : Array Value := #[.int .i64 t.k, .string t.s, .int .u64 t.v, .int .i64 t.p]
theorem cell_dr {w : World} {a : Addr} {v : Value} (h : w.cell? a = some v) : w.drew.cell? a = some v := h
/-! ### Appends to a row of its own -/
theorem own_blk {w : World} {B : Nat} {E : TypeId} {s n : Nat} {v : Value} {xs : List Value} (h : w.ownsRow B E s v n xs) {r : Nat} (hr : v.ownBlock = some r) : B ≤ r ∧ ∃ cur, w.heap[r]? = some (.cells cur E (0, 0)) := by
  rcases h.2 with ⟨e, _⟩ | ⟨g, cap, cur, e, hb, hg, _⟩
  · rw [e] at hr; cases hr
  · rw [e] at hr
    have : g = r := by injection hr
    subst this
    exact ⟨hb, cur, hg⟩
theorem gb_grow {w w1 w2 : World} {b row : Option Nat} (h : w.grownBy w1 b) (k : w1.grownBy w2 row) (hr : ∀ r, row = some r → w.heap.size ≤ r) : w.grownBy w2 b :=
  ⟨k.os.trans h.os, k.tape.trans h.tape, k.output.trans h.output, Nat.le_trans h.size k.size, fun i hi hne => (k.block i (Nat.lt_of_lt_of_le hi h.size) (fun e => by have := hr i e.symm; omega)).trans (h.block i hi hne)⟩
/-- The parser stays where its own blocks stay. -/
theorem PM.rows {w w' : World} {b g c : Nat} {ts : List Tok} {q : PS} {dp : Nat} (h : PM w b g c ts q dp) (hk : ∀ (i : Nat) (cs : Array Value) (E : TypeId), w.heap[i]? = some (.cells cs E (0, 0)) → E = TP ∨ E = TK ∨ E = TF → w'.heap[i]? = w.heap[i]?) : PM w' b g c ts q dp := by
  obtain ⟨⟨ev, h1, he⟩, ⟨cur, h2, h5⟩, h3, h4⟩ := h
  refine ⟨⟨ev, (hk _ _ _ h1 (.inl rfl)).trans h1, ?_⟩, ⟨cur, (hk _ _ _ h2 (.inr (.inl rfl))).trans h2, h5⟩, h3, h4⟩
  unfold EO at he ⊢
  split
  · rename_i e; rw [e] at he; exact he
  · rename_i x e; rw [e] at he
    obtain ⟨g', a1, a2, a3⟩ := he
    exact ⟨g', a1, a2, (hk _ _ _ a3 (.inr (.inr rfl))).trans a3⟩
theorem PM.grow {w w' : World} {b g c : Nat} {ts : List Tok} {q : PS} {dp : Nat} (h : PM w b g c ts q dp) {row : Option Nat} (hg : w.grownBy w' row) {E : TypeId} (hE : E ≠ TP ∧ E ≠ TK ∧ E ≠ TF) (hr : ∀ r, row = some r → ∃ cur, w.heap[r]? = some (.cells cur E (0, 0))) : PM w' b g c ts q dp :=
  h.rows fun i cs E' hi hE' => hg.block i (lt_heap hi) (fun e => by
    obtain ⟨cur, hc⟩ := hr i e.symm
    rw [hi] at hc
    injection hc with hc; injection hc with _ hc _
    subst hc
    rcases hE' with e | e | e
    · exact hE.1 e
    · exact hE.2.1 e
    · exact hE.2.2 e)
theorem PT.grow {w w1 w2 : World} {b g c : Nat} {ts : List Tok} {q : PS} {dp : Nat} (h : PT w b g c ts q dp w1) {B s n : Nat} {v : Value} {xs : List Value} {E : TypeId} (hown : w1.ownsRow B E s v n xs) (hg : w1.grownBy w2 v.ownBlock) (hE : E ≠ TP ∧ E ≠ TK ∧ E ≠ TF) (hB : w.heap.size ≤ B) : PT w b g c ts q dp w2 :=
  ⟨h.1.grow hg hE (fun r hr => (own_blk hown hr).2), gb_grow h.2 hg (fun r hr => Nat.le_trans hB (own_blk hown hr).1)⟩
theorem infoTE : (Tryd.prog.info? TE).map (fun i => (i.zero, i.size, i.bytes)) = some (some (.agg #[.int .i64 0, .int .i64 0, .string ByteArray.empty, .int .u64 0, .slice none 0 0, .int .i64 0]), 6, 72) := by kernel_rfl
theorem ev_one (x : EV) : ∀ u ∈ x.cells, u.oneCell' = true := by
  intro u hu
  simp [EV.cells] at hu
  rcases hu with rfl | rfl | rfl | rfl | rfl | rfl <;> rfl
theorem ev_len (x : EV) : x.cells.length = 6 := rfl
end Go.Proofs.YtcdgjgoplogiiaaDoor.PT
