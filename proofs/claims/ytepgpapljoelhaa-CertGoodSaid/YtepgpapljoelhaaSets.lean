/- Sets of numbers: maps from int to bool, all true; the contracts of maps.Copy and live.into. -/
import Derived.Test.YtepgpapljoelhaaPAx1
import Derived.Maps.Own
import Derived.Maps.OwnOps
import Derived.Maps.OwnSet
import Derived.Maps.Views
import Derived.Maps.Range
import Derived.Maps.RangeWalk
import Derived.Lib.Hide
namespace Go.Proofs.Ytepgpapljoelhaa.PA
open Go.RowKit Go.WideMaps Go.Maps Go.Proofs.YtepgpapljoelhaaW.PrintWords
set_option linter.unusedVariables false
set_option linter.unusedSimpArgs false

theorem law3 : Keyed Try.prog 3 := int_keyed Try.underlying3
noncomputable abbrev R4 : Value → Option (DataW Unit × List MemPlace) := plainElem (H := Unit) Try.prog 4
abbrev ky (v : Int) : Lit := .int .i64 v
abbrev tt : DataW Unit := .lit (.bool true)
theorem ky_lit (v : Int) : WideAt.IsKeyLit (ky v) := trivial
theorem ky_inj {u v : Int} (h : ky u = ky v) : u = v := by injection h
/-- Block b is a set of numbers that reads as D. -/
structure OwnS (w : World) (b : Nat) (D : DataW Unit) : Prop where
  own : w.ownsMap Try.prog 3 R4 b (size D) D
  tidy : Tidy D
  yes : ∀ v z, has D (ky v) = true → D.atKey (ky v) z = tt
theorem OwnS.lt {w : World} {b : Nat} {D : DataW Unit} (h : OwnS w b D) : b < w.heap.size := h.own.lt
theorem renorm {w : World} {b n : Nat} {D : DataW Unit} (h : w.ownsMap Try.prog 3 R4 b n D) : w.ownsMap Try.prog 3 R4 b (size D) D := by
  obtain ⟨es, clock, hb, F, hs, rfl⟩ := h
  refine ⟨es, clock, hb, F, ?_, rfl⟩
  rw [size_eq, length_sorted]
  simp
theorem own_tidy {w : World} {b n : Nat} {D : DataW Unit} (h : w.ownsMap Try.prog 3 R4 b n D) : Tidy D := by
  obtain ⟨es, e, h1, _⟩ := h.entries law3
  exact ⟨es, e, h1⟩
theorem has_put (D : DataW Unit) (h : Tidy D) (u v : Int) (d : DataW Unit) : has (D.put (ky u) d) (ky v) = (decide (v = u) || has D (ky v)) := by
  by_cases e : v = u
  · subst e
    rw [has_put_same h.isMap (ky_lit v)]
    simp
  · rw [has_put_other (fun q => e (ky_inj q))]
    simp [e]
theorem OwnS.put {w : World} {b n : Nat} {D : DataW Unit} {u : Int} (h : w.ownsMap Try.prog 3 R4 b n (D.put (ky u) tt)) (ht : Tidy D) (hy : ∀ v z, has D (ky v) = true → D.atKey (ky v) z = tt) : OwnS w b (D.put (ky u) tt) := by
  refine ⟨renorm h, ht.put (ky_lit u) _, fun v z hv => ?_⟩
  by_cases e : v = u
  · subst e
    exact atKey_put_same ht.isMap (ky_lit v) _ _
  · rw [atKey_put_other (fun q => e (ky_inj q))]
    rw [has_put D ht] at hv
    simp [e] at hv
    exact hy v z hv
theorem OwnS.kept {w w' : World} {b : Nat} {D : DataW Unit} {row : Option Nat} (h : OwnS w b D) (hg : w.grownBy w' row) (hb : some b ≠ row) : OwnS w' b D := ⟨h.own.kept hg hb, h.tidy, h.yes⟩
theorem grown_of {w w' : World} (hb : Below w.heap.size w w') : w.grownBy w' none := ⟨hb.os, hb.tape, hb.output, hb.size, fun i hi _ => hb.block i hi⟩
theorem OwnS.below {w w' : World} {b : Nat} {D : DataW Unit} (h : OwnS w b D) (hb : Below w.heap.size w w') : OwnS w' b D := h.kept (grown_of hb) (by simp)
theorem OwnS.alloc {w : World} {b : Nat} {D : DataW Unit} (h : OwnS w b D) (o : Obj) : OwnS (w.alloc o) b D := h.below ((Below.refl _ _).alloc (Nat.le_refl _) o)

/-- D has grown to E, or is what it was. -/
def Grow (D E : DataW Unit) : Prop := size D ≤ size E ∧ (∀ v, has D (ky v) = true → has E (ky v) = true) ∧ (size E = size D → ∀ v, has E (ky v) = has D (ky v)) ∧ (size D < size E → ∃ v, has E (ky v) = true ∧ has D (ky v) = false)
theorem Grow.refl (D : DataW Unit) : Grow D D := ⟨Nat.le_refl _, fun _ h => h, fun _ _ => rfl, fun h => absurd h (Nat.lt_irrefl _)⟩
theorem Grow.put {D E : DataW Unit} (h : Grow D E) (ht : Tidy E) (u : Int) (d : DataW Unit) : Grow D (E.put (ky u) d) := by
  obtain ⟨h1, h2, h3, h4⟩ := h
  have hs := size_put (k := ky u) ht d
  cases hu : has E (ky u) with
  | true =>
    rw [hu] at hs
    simp only [if_true] at hs
    have hh : ∀ v, has (E.put (ky u) d) (ky v) = has E (ky v) := fun v => by
      rw [has_put E ht]
      by_cases e : v = u
      · subst e; rw [hu]; simp
      · simp [e]
    refine ⟨by omega, fun v hv => by rw [hh]; exact h2 v hv, fun q v => by rw [hh]; exact h3 (by omega) v, fun q => ?_⟩
    obtain ⟨v, a, b⟩ := h4 (by omega)
    exact ⟨v, by rw [hh]; exact a, b⟩
  | false =>
    rw [hu] at hs
    simp only [Bool.false_eq_true, if_false] at hs
    refine ⟨by omega, fun v hv => by rw [has_put E ht, h2 v hv]; simp, fun q => by omega, fun _ => ⟨u, by rw [has_put E ht]; simp, ?_⟩⟩
    cases hd : has D (ky u) with
    | false => rfl
    | true => rw [h2 u hd] at hu; cases hu

theorem bool_inv {v : Value} {y : DataW Unit × List MemPlace} (h : R4 v = some y) : ∃ c, v = .bool c := by
  unfold R4 plainElem at h
  rw [Try.underlying4] at h
  cases v <;> simp at h
  exact ⟨_, rfl⟩
theorem int_inv {key : Value} {kl : Lit} (h : keyOf Try.prog 3 key = some kl) : ∃ x, key = .int .i64 x := by
  obtain ⟨x, rfl, _⟩ := Maps.keyOf_int_inv Try.underlying3 h
  exact ⟨x, rfl⟩
theorem weaken {w w' : World} (h : w.grownBy w' none) (row : Option Nat) : w.grownBy w' row := ⟨h.os, h.tape, h.output, h.size, fun i hi _ => h.block i hi (by simp)⟩
/-- The step of a range over a set. -/
theorem wpList_next_set {w : World} {ops : Array Oper} {rest : List Oper} {o : Oper} {a : Act} {Q : Exit → Act → World → Prop} (hg : o.guard = none) (it : Operand) (hop : o.op = Op.next it false) (bb r n : Nat) (DB : DataW Unit) (left : Lit → Bool) (cnt : Nat)
    (hit : a.eval it = .pointer (some ⟨r, 0, none⟩)) (h : w.ranges Try.prog 3 R4 bb r n DB left cnt) (hy : ∀ v z, has DB (ky v) = true → DB.atKey (ky v) z = tt)
    (hDone : cnt = 0 → (∀ kl, left kl = false) → wpList Try.prog ops Q rest (a.put o.dst (.tuple #[.bool false])) w)
    (hMore : ∀ (x : Int) (w' : World) (cnt' : Nat), (Lit.int .i64 x).wf = true → left (ky x) = true → has DB (ky x) = true → w'.ranges Try.prog 3 R4 bb r n DB (fun z => left z && !z.sameKey (ky x)) cnt' → cnt' < cnt →
      w.grownBy w' (some r) → w'.heap.size = w.heap.size → (Instr.entry (.pointer (some ⟨r, 0, none⟩))).run Try.prog w' = .ok (.tuple #[.int .i64 x, .bool true]) w' → wpList Try.prog ops Q rest (a.put o.dst (.tuple #[.bool true, .int .i64 x, .bool true])) w') :
    wpList Try.prog ops Q (o :: rest) a w := by
  refine wpList_next_ranges w hg it hop 3 law3 R4 (Value.int .i64) Value.bool (fun key kl h => int_inv h) (fun v y h => bool_inv h) bb r n DB left cnt hit h hDone ?_
  intro x c kl y w' cnt' hkey hlk hv hat hrg hlt hgr hsz hen
  obtain ⟨x', ex, rfl, hwx⟩ := Maps.keyOf_int_inv Try.underlying3 hkey
  cases ex
  have hh : has DB (ky x) = true := has_true_of_atKey hat
  have e1 := (hy x tt hh).symm.trans (hat tt)
  have e2 := plainElem_bool (H := Unit) Try.underlying4 c
  have e3 : y = (.lit (.bool c), []) := Option.some.inj (hv.symm.trans e2)
  rw [e3] at e1
  have hc : c = true := by
    injection e1 with e1
    injection e1 with e1
    exact e1.symm
  subst hc
  exact hMore x w' cnt' hwx hlk hh hrg hlt hgr hsz hen

theorem put_size {D : DataW Unit} (h : Tidy D) (x : Int) : size (D.put (ky x) tt) ≤ size D + 1 := by
  rw [size_put h]
  split <;> omega
theorem copy_step {D DA DB : DataW Unit} {left : Lit → Bool} {x : Int} (ht : Tidy D) (h : ∀ v, has D (ky v) = (has DA (ky v) || has DB (ky v) && !left (ky v))) (hx : has DB (ky x) = true) (v : Int) :
    has (D.put (ky x) tt) (ky v) = (has DA (ky v) || has DB (ky v) && !(left (ky v) && !(ky v).sameKey (ky x))) := by
  rw [has_put D ht]
  by_cases e : v = x
  · subst e
    rw [WideAt.sameKey_self (ky_lit v), hx]
    simp
  · rw [sameKey_ne (fun q => e (ky_inj q)), h v]
    simp [e]
/-- What a copy into a set leaves. -/
def CopyPost (ba : Nat) (DA DB : DataW Unit) (w : World) (e : Ending) (w' : World) : Prop := e = .returned (.tuple #[]) ∧ ∃ D, OwnS w' ba D ∧ (∀ v, has D (ky v) = (has DA (ky v) || has DB (ky v))) ∧ size D ≤ size DA + size DB ∧ w.grownBy w' (some ba)
set_option maxHeartbeats 1000000 in
set_option maxRecDepth 100000 in
theorem copy_calls (ba bb : Nat) (DA DB : DataW Unit) (w : World) (hne : ba ≠ bb) (hA : OwnS w ba DA) (hB : OwnS w bb DB) (hsz : size DA + size DB < 1000000) :
    Calls Try.prog 22 #[.map (some ba), .map (some bb)] w (CopyPost ba DA DB w) := by
  have HA := Lib.hid hA
  have HB := Lib.hid hB
  clear hA hB
  have hlA := HA.out.lt
  have hlB := HB.out.lt
  go_enter Try.func22, Try.ntmps22
  go_wp2_with (first
    | (at_range; refine wpList_range_own _ rfl _ 48 rfl 3 4 law3 Try.underlying48 _ bb _ _ rfl HB.out.own ?_; intro w0 hrg0 hg0 hs0)
    | fail)
  go_frame
  go_loopw [4, 5] (fun _ _ wr => ∃ (left : Lit → Bool) (cnt : Nat) (D : DataW Unit), wr.ranges Try.prog 3 R4 bb w.heap.size (size DB) DB left cnt ∧ cnt ≤ size DB ∧ OwnS wr ba D ∧ (∀ v, has D (ky v) = (has DA (ky v) || (has DB (ky v) && !left (ky v)))) ∧ size D ≤ size DA + (size DB - cnt) ∧ w.grownBy wr (some ba)) (fun _ _ wr => wr.rangeLeft bb w.heap.size)
  case atStart =>
    refine ⟨_, _, DA, hrg0, Nat.le_refl _, HA.out.kept hg0 (by simp), fun v => ?_, by omega, weaken hg0 _⟩
    cases has DB (ky v) <;> simp
  case round =>
    obtain ⟨left, cnt, D, hrg, hcs, hown, hD, hsD, hgr⟩ := hrel
    have HO := Lib.hid hown
    have HD := Lib.hid hD
    have HG := Lib.hid hgr
    clear hown hD hgr
    go_wp2_with (first
      | (at_next; refine wpList_next_set rfl _ rfl bb w.heap.size _ _ _ _ rfl hrg HB.out.yes ?_ ?_)
      | fail)
    · intro hc0 hl0
      go_wp2
      go_end0
      refine ⟨rfl, D, HO.out, fun v => ?_, by omega, HG.out⟩
      rw [HD.out v, hl0]
      simp
    · intro x w1 cnt1 hwx hlx hhx hrg1 hlt hg1 hs1 hen
      have hown1 := HO.out.kept hg1 (by simp; omega)
      go_wp2_with (first
        | (at_mapUpdate; refine wpList_mapUpdate_own _ rfl _ _ _ 48 rfl 3 4 law3 Try.underlying48 _ ba _ _ rfl hown1.own (by unfold maxLen; omega) _ _ _ rfl rfl (keyOf_int_mk Try.underlying3 hwx) _ [] (plainElem_bool Try.underlying4 true) ?_; intro w2 hout2 hg2; go_frame)
        | fail)
      have hrg2 := hrg1.kept hg2 (fun e => by have := Option.some.inj e; omega) (fun e => by have := Option.some.inj e; omega)
      go_roundw
      case rel =>
        exact ⟨_, cnt1, _, hrg2, by omega, OwnS.put hout2 hown1.tidy hown1.yes, copy_step hown1.tidy HD.out hhx, by have := put_size hown1.tidy x; omega, (HG.out.andThen hg1 (fun j e => .inl (by injection e with e; omega))).andThen hg2 (fun j e => .inr e)⟩
      case measure => rw [hrg2.left_eq, hrg.left_eq]; exact hlt
end Go.Proofs.Ytepgpapljoelhaa.PA
