/- live.Of's rows are there, of every codes that fit. -/
import Derived.Test.YtepgpapljoelhaaGiv
namespace Go.Proofs.Ytepgpapljoelhaa.PA
open Go.RowKit Go.Proofs.YtepgpapljoelhaaW.PrintWords

theorem stepP_ge (l : List S37) (k : Nat) (p : Nat → Int → Bool) (i : Nat) (v : Int) (h : p i v = true) : stepP l k p i v = true := by
  unfold stepP
  by_cases e : i = k
  · subst e
    simp [h]
  · simp [e, h]
theorem passD_ge (l : List S37) : ∀ (k : Nat) (p : Nat → Int → Bool) (i : Nat) (v : Int), p i v = true → passD l k p i v = true
  | 0, _, _, _, h => h
  | k + 1, p, i, v, h => passD_ge l k _ i v (stepP_ge l k p i v h)
def InU (l : List S37) (p : Nat → Int → Bool) : Prop := ∀ i v, p i v = true → i < l.length ∧ v ∈ allUses l
theorem stepP_in (l : List S37) (k : Nat) (hk : k < l.length) (p : Nat → Int → Bool) (h : InU l p) : InU l (stepP l k p) := by
  intro i v q
  unfold stepP at q
  by_cases e : i = k
  · subst e
    refine ⟨hk, ?_⟩
    simp only [if_true, Bool.or_eq_true, Bool.and_eq_true] at q
    rcases q with (q | q) | q
    · exact (h _ _ q).2
    · obtain ⟨m, hm, hp⟩ := List.any_eq_true.1 q.1
      exact (h _ _ hp).2
    · refine List.mem_flatMap.2 ⟨cAt l i, ?_, by simpa using q⟩
      unfold cAt
      rw [List.getD_eq_getElem?_getD, List.getElem?_eq_getElem hk]
      exact List.getElem_mem _
  · rw [if_neg e] at q
    exact h i v q
theorem passD_in (l : List S37) : ∀ (k : Nat) (p : Nat → Int → Bool), k ≤ l.length → InU l p → InU l (passD l k p)
  | 0, _, _, h => h
  | k + 1, p, hk, h => passD_in l k _ (by omega) (stepP_in l k (by omega) p h)
theorem iterP_in (l : List S37) : ∀ j, InU l (iterP l j)
  | 0 => fun i v h => by cases h
  | j + 1 => passD_in l l.length _ (Nat.le_refl _) (iterP_in l j)
theorem countP_same {α : Type} {p q : α → Bool} : ∀ (L : List α), (∀ x ∈ L, p x = true → q x = true) → L.countP q ≤ L.countP p → ∀ x ∈ L, q x = p x
  | [], _, _ => fun x h => by cases h
  | a :: L, h, hc => fun x hx => by
    have hle : L.countP p ≤ L.countP q := List.countP_mono_left fun x hx => h x (List.mem_cons_of_mem _ hx)
    have ha := h a List.mem_cons_self
    rw [List.countP_cons, List.countP_cons] at hc
    have hrest : L.countP q ≤ L.countP p := by
      cases hp : p a <;> cases hq : q a <;> simp [hp, hq] at hc ha <;> omega
    rcases List.mem_cons.1 hx with rfl | hx
    · cases hp : p x <;> cases hq : q x <;> simp [hp, hq] at hc ha ⊢
      omega
    · exact countP_same L (fun x hx => h x (List.mem_cons_of_mem _ hx)) hrest x hx
def prs (l : List S37) : List (Nat × Int) := (List.range l.length).flatMap fun i => (allUses l).map fun v => (i, v)
theorem mem_prs {l : List S37} {i : Nat} {v : Int} (h : i < l.length ∧ v ∈ allUses l) : (i, v) ∈ prs l :=
  List.mem_flatMap.2 ⟨i, List.mem_range.2 h.1, List.mem_map.2 ⟨v, h.2, rfl⟩⟩
def cnt (l : List S37) (j : Nat) : Nat := (prs l).countP fun x => iterP l j x.1 x.2
theorem cnt_fix (l : List S37) (j : Nat) (h : cnt l (j + 1) ≤ cnt l j) : passD l l.length (iterP l j) = iterP l j := by
  have hs := countP_same (p := fun x : Nat × Int => iterP l j x.1 x.2) (q := fun x => iterP l (j + 1) x.1 x.2) (prs l) (fun x _ hx => passD_ge l l.length _ _ _ hx) h
  funext i v
  show iterP l (j + 1) i v = iterP l j i v
  by_cases c : i < l.length ∧ v ∈ allUses l
  · exact hs (i, v) (mem_prs c)
  · have a1 : iterP l (j + 1) i v = false := by
      cases hh : iterP l (j + 1) i v with
      | false => rfl
      | true => exact absurd (iterP_in l _ i v hh) c
    have a2 : iterP l j i v = false := by
      cases hh : iterP l j i v with
      | false => rfl
      | true => exact absurd (iterP_in l _ i v hh) c
    rw [a1, a2]
theorem exists_fix (l : List S37) : ∃ j, passD l l.length (iterP l j) = iterP l j := by
  refine Classical.byContradiction fun hno => ?_
  have hlt : ∀ j, cnt l j < cnt l (j + 1) := fun j => Nat.lt_of_not_le fun h => hno ⟨j, cnt_fix l j h⟩
  have hge : ∀ j, j ≤ cnt l j := fun j => by
    induction j with
    | zero => exact Nat.zero_le _
    | succ j ih => have := hlt j; omega
  have h1 := hge ((prs l).length + 1)
  have h2 : cnt l ((prs l).length + 1) ≤ (prs l).length := List.countP_le_length
  omega
theorem exists_nodup (p : Int → Bool) : ∀ U : List Int, ∃ s : List Int, s.Nodup ∧ ∀ v, v ∈ s ↔ v ∈ U ∧ p v = true
  | [] => ⟨[], List.nodup_nil, fun v => by simp⟩
  | u :: U => by
    obtain ⟨s, hs, hm⟩ := exists_nodup p U
    by_cases c : u ∈ s ∨ p u = false
    · refine ⟨s, hs, fun v => ?_⟩
      rw [hm v, List.mem_cons]
      constructor
      · exact fun h => ⟨.inr h.1, h.2⟩
      · rintro ⟨rfl | h, hp⟩
        · rcases c with c | c
          · exact (hm v).1 c
          · rw [c] at hp
            cases hp
        · exact ⟨h, hp⟩
    · have c1 : u ∉ s := fun h => c (.inl h)
      have c2 : p u = true := by
        cases h : p u with
        | true => rfl
        | false => exact absurd (.inr h) c
      refine ⟨u :: s, List.nodup_cons.2 ⟨c1, hs⟩, fun v => ?_⟩
      rw [List.mem_cons, List.mem_cons, hm v]
      constructor
      · rintro (rfl | h)
        · exact ⟨.inl rfl, c2⟩
        · exact ⟨.inr h.1, h.2⟩
      · rintro ⟨rfl | h, hp⟩
        · exact .inl rfl
        · exact .inr ⟨h, hp⟩
theorem exists_rows (l : List S37) : ∃ rows, IsRows l rows := by
  obtain ⟨j, hj⟩ := exists_fix l
  have hrow : ∀ i, ∃ s : List Int, s.Pairwise (· < ·) ∧ ∀ v, v ∈ s ↔ iterP l j i v = true := fun i => by
    obtain ⟨s, hs, hm⟩ := exists_nodup (iterP l j i) (allUses l)
    refine ⟨s.mergeSort (fun x y => decide (x ≤ y)), sorted_lt s hs, fun v => List.mem_mergeSort.trans ((hm v).trans ⟨fun h => h.2, fun h => ⟨(iterP_in l j i v h).2, h⟩⟩)⟩
  let row : Nat → List Int := fun i => (hrow i).choose
  refine ⟨(List.range l.length).map row, by simp, _, j, rfl, hj, fun i hi => ?_⟩
  rw [List.getElem_map, List.getElem_range]
  exact (hrow i).choose_spec
/-- live.Of's answer, at codes that fit. -/
theorem live_Of_some {l : List S37} (h : OfFit l) : ∃ rows, IsRows l rows ∧ ∀ k, live_Of.f k l = some rows := by
  obtain ⟨rows, hr⟩ := exists_rows l
  exact ⟨rows, hr, fun k => live_Of.eq k h hr⟩
#print axioms live_Of_some
end Go.Proofs.Ytepgpapljoelhaa.PA
