/- What alloc.Of answers, in plain words. -/
import Derived.Test.YthboknkpgbfmoaaSort
namespace Go.Proofs.Ythboknkpgbfmoaa.PA
set_option linter.unusedVariables false
set_option linter.unusedSimpArgs false

/-- Where values are, how many slots there are, and which values have registers. -/
structure PS where
  wh : Nat → Int
  sl : Nat
  ac : List Int
def put1 (wh : Nat → Int) (v : Nat) (x : Int) : Nat → Int := fun i => if i = v then x else wh i
/-- The least number from r on that is not in a list. -/
def least (l : List Int) : Nat → Nat → Nat
  | 0, r => r
  | f + 1, r => if l.contains (r : Int) then least l f (r + 1) else r
def regOf (l : List Int) : Nat := least l l.length 0
theorem nums_le {l : List Int} {r : Nat} (h : ∀ j, j < r → (j : Int) ∈ l) : r ≤ l.length := by
  have := nodup_le ((List.range r).map Int.ofNat) l (List.pairwise_map.2 (List.nodup_range.imp (fun hne e => hne (Int.ofNat.inj e)))) (fun x hx => by
    obtain ⟨j, hj, rfl⟩ := List.mem_map.1 hx
    exact h j (List.mem_range.1 hj))
  simpa using this
theorem least_eq {l : List Int} {r : Nat} (h0 : ∀ j, j < r → (j : Int) ∈ l) (h1 : ¬ (r : Int) ∈ l) : ∀ (f k : Nat), k ≤ r → r ≤ k + f → least l f k = r
  | 0, k, hk, hf => by unfold least; omega
  | f + 1, k, hk, hf => by
    unfold least
    by_cases e : k = r
    · subst e
      simp [h1]
    · have := h0 k (by omega)
      simp only [List.contains_eq_mem, this, decide_true, if_true]
      exact least_eq h0 h1 f (k + 1) (by omega) (by omega)
theorem regOf_eq {l : List Int} {r : Nat} (h0 : ∀ j, j < r → (j : Int) ∈ l) (h1 : ¬ (r : Int) ∈ l) : regOf l = r :=
  least_eq h0 h1 _ 0 (Nat.zero_le _) (by have := nums_le h0; omega)
theorem least_spec (l : List Int) : ∀ (f k : Nat), (∀ j, j < k → (j : Int) ∈ l) → l.length ≤ k + f → (∀ j, j < least l f k → (j : Int) ∈ l) ∧ ¬ (least l f k : Int) ∈ l
  | 0, k, h, hf => by
    unfold least
    refine ⟨h, fun hm => ?_⟩
    have : ∀ j, j < k + 1 → (j : Int) ∈ l := fun j hj => by
      by_cases e : j = k
      · subst e; exact hm
      · exact h j (by omega)
    have := nums_le this
    omega
  | f + 1, k, h, hf => by
    unfold least
    by_cases hm : (k : Int) ∈ l
    · simp only [List.contains_eq_mem, hm, decide_true, if_true]
      refine least_spec l f (k + 1) (fun j hj => ?_) (by omega)
      by_cases e : j = k
      · subst e; exact hm
      · exact h j (by omega)
    · rw [if_neg (by simp [hm])]
      exact ⟨h, hm⟩
theorem regOf_spec (l : List Int) : (∀ j, j < regOf l → (j : Int) ∈ l) ∧ ¬ (regOf l : Int) ∈ l := least_spec l _ 0 (fun j hj => by omega) (by omega)
/-- Which one ends last. -/
def lastStep (s : Nat → Int × Int) (last x : Int) : Int := if (s x.toNat).2 > (s last.toNat).2 then x else last
def lastOf (s : Nat → Int × Int) (v : Int) (ac : List Int) : Int := ac.foldl (lastStep s) v
def still (s : Nat → Int × Int) (v : Int) (ac : List Int) : List Int := ac.filter fun x => !decide ((s x.toNat).2 < (s v.toNat).1)
def regs (wh : Nat → Int) (ac : List Int) : List Int := ac.map fun x => wh x.toNat
/-- One value more. -/
def stepA (s : Nat → Int × Int) (st : PS) (v : Int) : PS :=
  let ac := still s v st.ac
  let r := regOf (regs st.wh ac)
  let last := lastOf s v ac
  if r < 5 then ⟨put1 st.wh v.toNat r, st.sl, ac ++ [v]⟩
  else if last = v then ⟨put1 st.wh v.toNat (-((st.sl : Int) + 1)), st.sl + 1, ac⟩
  else ⟨put1 (put1 st.wh v.toNat (st.wh last.toNat)) last.toNat (-((st.sl : Int) + 1)), st.sl + 1, (ac.filter fun x => !decide (x = last)) ++ [v]⟩
def nums (nv : Nat) : List Int := (List.range nv).map Int.ofNat
def keyS (s : Nat → Int × Int) (x : Int) : Int := (s x.toNat).1
/-- The values in the order in which they begin. -/
def ordOf (s : Nat → Int × Int) (nv n : Nat) : List Int := (List.range n).flatMap fun (k : Nat) => (nums nv).filter fun x => decide (keyS s x = (k : Int))
def allocF (s : Nat → Int × Int) (nv n : Nat) : PS := (ordOf s nv n).foldl (stepA s) ⟨fun _ => 0, 0, []⟩
theorem mem_nums {nv : Nat} {x : Int} : x ∈ nums nv ↔ 0 ≤ x ∧ x < nv := by
  unfold nums
  simp only [List.mem_map, List.mem_range]
  constructor
  · rintro ⟨j, hj, rfl⟩
    simp; omega
  · rintro ⟨h0, h1⟩
    exact ⟨x.toNat, by omega, by simp; omega⟩
theorem lastOf_mem {s : Nat → Int × Int} : ∀ (ac : List Int) (v : Int), lastOf s v ac = v ∨ lastOf s v ac ∈ ac
  | [], v => .inl rfl
  | x :: ac, v => by
    unfold lastOf
    rw [List.foldl_cons]
    have h := lastOf_mem (s := s) ac (lastStep s v x)
    unfold lastOf at h
    rcases h with h | h
    · rw [h]
      unfold lastStep
      split
      · exact .inr (by simp)
      · exact .inl rfl
    · exact .inr (by simp [h])
theorem flat_congr {α β : Type} {xs : List α} {f g : α → List β} (h : ∀ x ∈ xs, f x = g x) : xs.flatMap f = xs.flatMap g := by
  induction xs with
  | nil => rfl
  | cons x xs ih => simp only [List.flatMap_cons, h x (by simp), ih (fun y hy => h y (by simp [hy]))]
theorem filter_len {α : Type} (p : α → Bool) : ∀ (l : List α), l.length = (l.filter p).length + (l.filter fun x => !p x).length
  | [] => rfl
  | x :: l => by
    have := filter_len p l
    cases h : p x <;> simp [List.filter_cons, h] <;> omega
/-! ### A stable sort is one -/
theorem sorted_same {key : Int → Int} : ∀ (n : Nat) (c d : List Int), c.length = n → Same key c d → Srt key 0 n n c → Srt key 0 n n d → c = d
  | 0, c, d, hn, hs, _, _ => by
    rw [List.eq_nil_of_length_eq_zero hn, List.eq_nil_of_length_eq_zero (hs.1.symm.trans hn)]
  | n + 1, c, d, hn, hs, hc, hd => by
    match c, hn with
    | x :: c, hn =>
      match d, hs with
      | [], hs => simp [Same] at hs
      | y :: d, hs =>
        have hx : ∀ z ∈ x :: c, key x ≤ key z := fun z hz => by
          rcases List.mem_cons.1 hz with rfl | hz
          · exact Int.le_refl _
          · obtain ⟨i, hi, rfl⟩ := List.getElem_of_mem hz
            have := hc 0 (i + 1) (by omega) (by omega) (by simp at hn; omega) (by simp at hn; omega)
            simpa [List.getD_eq_getElem?_getD, hi] using this
        have hl : d.length = n := by have := hs.1; simp at this hn; omega
        have hy : ∀ z ∈ y :: d, key y ≤ key z := fun z hz => by
          rcases List.mem_cons.1 hz with rfl | hz
          · exact Int.le_refl _
          · obtain ⟨i, hi, rfl⟩ := List.getElem_of_mem hz
            have := hd 0 (i + 1) (by omega) (by omega) (by omega) (by omega)
            simpa [List.getD_eq_getElem?_getD, hi] using this
        have hxy : x ∈ y :: d := by
          have : x ∈ (x :: c).filter (fun z => decide (key z = key x)) := List.mem_filter.2 ⟨by simp, by simp⟩
          rw [hs.2] at this
          exact (List.mem_filter.1 this).1
        have hyx : y ∈ x :: c := by
          have : y ∈ (y :: d).filter (fun z => decide (key z = key y)) := List.mem_filter.2 ⟨by simp, by simp⟩
          rw [← hs.2] at this
          exact (List.mem_filter.1 this).1
        have hk : key x = key y := by
          have h1 := hx y hyx
          have h2 := hy x hxy
          omega
        have e : x = y := by
          have := hs.2 (key x)
          simp only [List.filter_cons, decide_true, if_true, hk.symm] at this
          injection this
        subst e
        have hs' : Same key c d := ⟨by have := hs.1; simpa using this, fun k => by
          have := hs.2 k
          simp only [List.filter_cons] at this
          split at this
          · injection this
          · exact this⟩
        have t : ∀ e : List Int, Srt key 0 (n + 1) (n + 1) (x :: e) → Srt key 0 n n e := fun e h p q h1 h2 h3 h4 => by
          have := h (p + 1) (q + 1) (by omega) (by omega) (by omega) (by omega)
          simpa [List.getD_eq_getElem?_getD] using this
        rw [sorted_same n c d (by simpa using hn) hs' (t c hc) (t d hd)]
theorem srt_of_pairwise {key : Int → Int} {c : List Int} (h : c.Pairwise fun x y => key x ≤ key y) : Srt key 0 c.length c.length c := fun p q h1 h2 h3 h4 => by
  have := List.pairwise_iff_getElem.1 h p q (by omega) h3 h2
  simpa [List.getD_eq_getElem?_getD, h3, show p < c.length by omega] using this
theorem pairwise_of_srt {key : Int → Int} {c : List Int} (h : Srt key 0 c.length c.length c) : c.Pairwise fun x y => key x ≤ key y := by
  rw [List.pairwise_iff_getElem]
  intro p q hp hq hpq
  have := h p q (by omega) hpq hq (by omega)
  simpa [List.getD_eq_getElem?_getD, hp, hq] using this
theorem filter_flat {key : Int → Int} (xs : List Int) (k : Int) : ∀ (n : Nat), ((List.range n).flatMap fun (j : Nat) => xs.filter fun x => decide (key x = (j : Int))).filter (fun x => decide (key x = k)) = if 0 ≤ k ∧ k < n then xs.filter (fun x => decide (key x = k)) else []
  | 0 => by
    rw [if_neg (by omega)]
    rfl
  | n + 1 => by
    rw [List.range_succ, List.flatMap_append, List.filter_append, filter_flat xs k n]
    simp only [List.flatMap_cons, List.flatMap_nil, List.append_nil, List.filter_filter]
    by_cases e : k = (n : Int)
    · subst e
      rw [if_neg (by omega), if_pos (by omega)]
      simp
    · have : (xs.filter fun x => decide (key x = k) && decide (key x = (n : Int))) = [] := by
        rw [List.filter_eq_nil_iff]
        intro x _
        simp
        omega
      rw [this, List.append_nil]
      by_cases h : 0 ≤ k ∧ k < (n : Int)
      · rw [if_pos h, if_pos (by omega)]
      · rw [if_neg h, if_neg (by omega)]
theorem flat_sorted {key : Int → Int} (xs : List Int) : ∀ (n : Nat), (((List.range n).flatMap fun (j : Nat) => xs.filter fun x => decide (key x = (j : Int))).Pairwise fun x y => key x ≤ key y) ∧ ∀ x ∈ ((List.range n).flatMap fun (j : Nat) => xs.filter fun x => decide (key x = (j : Int))), key x < n
  | 0 => by simp
  | n + 1 => by
    obtain ⟨h1, h2⟩ := flat_sorted (key := key) xs n
    rw [List.range_succ, List.flatMap_append]
    simp only [List.flatMap_cons, List.flatMap_nil, List.append_nil]
    refine ⟨List.pairwise_append.2 ⟨h1, ?_, fun x hx y hy => ?_⟩, fun x hx => ?_⟩
    · refine List.Pairwise.imp_of_mem (R := fun _ _ => True) (fun {a b} ha hb _ => ?_) (List.pairwise_of_forall (fun _ _ => trivial))
      have ha := (List.mem_filter.1 ha).2
      have hb := (List.mem_filter.1 hb).2
      simp at ha hb
      omega
    · have h3 := h2 x hx
      have h4 := (List.mem_filter.1 hy).2
      simp at h4
      omega
    · rcases List.mem_append.1 hx with hx | hx
      · have := h2 x hx
        omega
      · have h4 := (List.mem_filter.1 hx).2
        simp at h4
        omega
/-- What a list is that is as long as it should be, and has for each key what it should have. -/
theorem len_of_filters {key : Int → Int} : ∀ (n : Nat) (xs : List Int), (∀ x ∈ xs, 0 ≤ key x ∧ key x < n) → ((List.range n).flatMap fun (j : Nat) => xs.filter fun x => decide (key x = (j : Int))).length = xs.length
  | 0, xs, h => by
    have : xs = [] := by
      rw [List.eq_nil_iff_forall_not_mem]
      intro x hx
      have := h x hx
      omega
    simp [this]
  | n + 1, xs, h => by
    rw [List.range_succ, List.flatMap_append, List.length_append]
    simp only [List.flatMap_cons, List.flatMap_nil, List.append_nil]
    have h1 := len_of_filters (key := key) n (xs.filter fun x => !decide (key x = (n : Int))) (fun x hx => by
      obtain ⟨hx, hk⟩ := List.mem_filter.1 hx
      have := h x hx
      simp at hk
      omega)
    have h2 : ((List.range n).flatMap fun (j : Nat) => (xs.filter fun x => !decide (key x = (n : Int))).filter fun x => decide (key x = (j : Int))) = (List.range n).flatMap fun (j : Nat) => xs.filter fun x => decide (key x = (j : Int)) := by
      refine flat_congr fun j hj => ?_
      rw [List.filter_filter]
      refine List.filter_congr fun x hx => ?_
      have := List.mem_range.1 hj
      by_cases e : key x = (j : Int)
      · have : ¬ key x = (n : Int) := by omega
        simp [e]
        omega
      · simp [e]
    rw [h2] at h1
    rw [h1]
    have h3 := filter_len (fun x => decide (key x = (n : Int))) xs
    omega
theorem ord_unique {s : Nat → Int × Int} {nv n : Nat} {c : List Int} (hn : ∀ i, i < nv → (s i).1 < n) (hs : Same (keyS s) c ((nums nv).filter fun x => decide (keyS s x ≥ 0))) (hc : Srt (keyS s) 0 c.length c.length c) : c = ordOf s nv n := by
  have hx : ∀ x ∈ (nums nv).filter (fun x => decide (keyS s x ≥ 0)), 0 ≤ keyS s x ∧ keyS s x < n := fun x hx => by
    obtain ⟨h1, h2⟩ := List.mem_filter.1 hx
    obtain ⟨h3, h4⟩ := mem_nums.1 h1
    have := hn x.toNat (by omega)
    simp at h2
    exact ⟨h2, this⟩
  have e : ordOf s nv n = (List.range n).flatMap fun (j : Nat) => ((nums nv).filter fun x => decide (keyS s x ≥ 0)).filter fun x => decide (keyS s x = (j : Int)) := by
    unfold ordOf
    refine flat_congr fun j hj => ?_
    rw [List.filter_filter]
    refine List.filter_congr fun x _ => ?_
    by_cases e : keyS s x = (j : Int)
    · simp [e]
    · simp [e]
  have hl := len_of_filters n _ hx
  rw [← e] at hl
  have hs2 : Same (keyS s) c (ordOf s nv n) := by
    refine ⟨hs.1.trans hl.symm, fun k => ?_⟩
    rw [hs.2 k, e, filter_flat]
    split
    · rfl
    · rw [List.filter_eq_nil_iff]
      intro x hm
      have := hx x hm
      simp
      omega
  have hp := srt_of_pairwise (flat_sorted (key := keyS s) (nums nv) n).1
  have hp2 : Srt (keyS s) 0 (ordOf s nv n).length (ordOf s nv n).length (ordOf s nv n) := hp
  rw [← hs2.1] at hp2
  exact sorted_same c.length c _ rfl hs2 hc hp2
theorem mem_ordOf {s : Nat → Int × Int} {nv n : Nat} {x : Int} (h : x ∈ ordOf s nv n) : 0 ≤ x ∧ x < nv := by
  unfold ordOf at h
  obtain ⟨k, _, hx⟩ := List.mem_flatMap.1 h
  exact mem_nums.1 (List.mem_filter.1 hx).1
/-! ### What holds while values get places -/
def OkA (nv : Nat) (st : PS) : Prop := ∀ x ∈ st.ac, (0 ≤ x ∧ x < nv) ∧ 0 ≤ st.wh x.toNat ∧ st.wh x.toNat < 5
theorem put1_same (wh : Nat → Int) (v : Nat) (x : Int) : put1 wh v x v = x := by simp [put1]
theorem put1_other {wh : Nat → Int} {v i : Nat} (x : Int) (h : i ≠ v) : put1 wh v x i = wh i := by simp [put1, h]
theorem toNat_ne {x y : Int} (hx : 0 ≤ x) (hy : 0 ≤ y) (h : x ≠ y) : x.toNat ≠ y.toNat := by omega
theorem step_ok {s : Nat → Int × Int} {nv : Nat} {st : PS} {v : Int} (h : OkA nv st) (hv0 : 0 ≤ v) (hv1 : v < nv) (hv : ¬ v ∈ st.ac) : OkA nv (stepA s st v) ∧ (∀ x ∈ (stepA s st v).ac, x ∈ st.ac ∨ x = v) := by
  have hst : ∀ x ∈ still s v st.ac, x ∈ st.ac := fun x hx => (List.mem_filter.1 hx).1
  unfold stepA
  simp only
  split
  · rename_i hr
    refine ⟨fun x hx => ?_, fun x hx => ?_⟩
    · simp only [List.mem_append, List.mem_singleton] at hx
      rcases hx with hx | rfl
      · have h1 := h x (hst x hx)
        have hne : x ≠ v := fun e => hv (e ▸ hst x hx)
        simp only [put1_other _ (toNat_ne h1.1.1 hv0 hne)]
        exact h1
      · simp only [put1_same]
        omega
    · simp only [List.mem_append, List.mem_singleton] at hx
      exact hx.imp (hst x) id
  · split
    · refine ⟨fun x hx => ?_, fun x hx => .inl (hst x hx)⟩
      have h1 := h x (hst x hx)
      have hne : x ≠ v := fun e => hv (e ▸ hst x hx)
      simp only [put1_other _ (toNat_ne h1.1.1 hv0 hne)]
      exact h1
    · rename_i hl
      have hm := (lastOf_mem (s := s) (still s v st.ac) v).resolve_left hl
      have h2 := h _ (hst _ hm)
      refine ⟨fun x hx => ?_, fun x hx => ?_⟩
      · simp only [List.mem_append, List.mem_singleton] at hx
        rcases hx with hx | rfl
        · obtain ⟨hx, hn⟩ := List.mem_filter.1 hx
          simp only [Bool.not_eq_true', decide_eq_false_iff_not] at hn
          have h1 := h x (hst x hx)
          have hne : x ≠ v := fun e => hv (e ▸ hst x hx)
          simp only [put1_other _ (toNat_ne h1.1.1 h2.1.1 hn), put1_other _ (toNat_ne h1.1.1 hv0 hne)]
          exact h1
        · have hne : x.toNat ≠ (lastOf s x (still s x st.ac)).toNat := toNat_ne hv0 h2.1.1 (fun e => hl e.symm)
          simp only [put1_other _ hne, put1_same]
          exact ⟨⟨hv0, hv1⟩, h2.2⟩
      · simp only [List.mem_append, List.mem_singleton] at hx
        exact hx.imp (fun hx => hst x (List.mem_filter.1 hx).1) id
theorem fold_ok {s : Nat → Int × Int} {nv : Nat} : ∀ (L : List Int) (st : PS), OkA nv st → (∀ x ∈ L, 0 ≤ x ∧ x < nv ∧ ¬ x ∈ st.ac) → L.Nodup → OkA nv (L.foldl (stepA s) st) ∧ ∀ x ∈ (L.foldl (stepA s) st).ac, x ∈ st.ac ∨ x ∈ L
  | [], st, h, _, _ => ⟨h, fun x hx => .inl hx⟩
  | v :: L, st, h, hL, hn => by
    obtain ⟨h0, h1, h2⟩ := hL v (by simp)
    obtain ⟨h3, h4⟩ := step_ok (s := s) h h0 h1 h2
    obtain ⟨hn1, hn2⟩ := List.nodup_cons.1 hn
    obtain ⟨h5, h6⟩ := fold_ok L (stepA s st v) h3 (fun x hx => by
      obtain ⟨q0, q1, q2⟩ := hL x (by simp [hx])
      refine ⟨q0, q1, fun hm => ?_⟩
      rcases h4 x hm with h | h
      · exact q2 h
      · exact hn1 (h ▸ hx)) hn2
    refine ⟨h5, fun x hx => ?_⟩
    rcases h6 x hx with h | h
    · rcases h4 x h with h | h
      · exact .inl h
      · exact .inr (by simp [h])
    · exact .inr (by simp [h])
theorem step_nodup {s : Nat → Int × Int} {st : PS} {v : Int} (h : st.ac.Nodup) (hv : ¬ v ∈ st.ac) : (stepA s st v).ac.Nodup := by
  have h1 : (still s v st.ac).Nodup := h.filter _
  have h2 : ∀ x ∈ still s v st.ac, x ≠ v := fun x hx e => hv (e ▸ (List.mem_filter.1 hx).1)
  unfold stepA
  simp only
  split
  · exact List.nodup_append.2 ⟨h1, by simp, fun x hx y hy => by simp at hy; subst hy; exact h2 x hx⟩
  · split
    · exact h1
    · exact List.nodup_append.2 ⟨h1.filter _, by simp, fun x hx y hy => by simp at hy; subst hy; exact h2 x (List.mem_filter.1 hx).1⟩
theorem fold_nodup {s : Nat → Int × Int} {nv : Nat} : ∀ (L : List Int) (st : PS), OkA nv st → st.ac.Nodup → (∀ x ∈ L, 0 ≤ x ∧ x < nv ∧ ¬ x ∈ st.ac) → L.Nodup → (L.foldl (stepA s) st).ac.Nodup
  | [], st, _, h, _, _ => h
  | v :: L, st, h, hd, hL, hn => by
    obtain ⟨h0, h1, h2⟩ := hL v (by simp)
    obtain ⟨h3, h4⟩ := step_ok (s := s) h h0 h1 h2
    obtain ⟨hn1, hn2⟩ := List.nodup_cons.1 hn
    refine fold_nodup L (stepA s st v) h3 (step_nodup hd h2) (fun x hx => ?_) hn2
    obtain ⟨q0, q1, q2⟩ := hL x (by simp [hx])
    refine ⟨q0, q1, fun hm => ?_⟩
    rcases h4 x hm with h | h
    · exact q2 h
    · exact hn1 (h ▸ hx)
theorem ok_len {nv : Nat} {st : PS} (h : OkA nv st) (hn : st.ac.Nodup) : st.ac.length ≤ nv := by
  have := nodup_le st.ac (nums nv) hn (fun x hx => mem_nums.2 (h x hx).1)
  simpa [nums] using this
theorem nums_nodup (nv : Nat) : (nums nv).Nodup := List.pairwise_map.2 (List.nodup_range.imp (fun hne e => hne (Int.ofNat.inj e)))
theorem ordOf_nodup (s : Nat → Int × Int) (nv : Nat) : ∀ n, (ordOf s nv n).Nodup ∧ ∀ x ∈ ordOf s nv n, keyS s x < n
  | 0 => by simp [ordOf]
  | n + 1 => by
    obtain ⟨h1, h2⟩ := ordOf_nodup s nv n
    have e : ordOf s nv (n + 1) = ordOf s nv n ++ (nums nv).filter (fun x => decide (keyS s x = (n : Int))) := by
      unfold ordOf
      rw [List.range_succ, List.flatMap_append]
      simp
    rw [e]
    refine ⟨List.nodup_append.2 ⟨h1, (nums_nodup nv).filter _, fun x hx y hy e => ?_⟩, fun x hx => ?_⟩
    · subst e
      have := h2 x hx
      have := (List.mem_filter.1 hy).2
      simp at this
      omega
    · rcases List.mem_append.1 hx with hx | hx
      · have := h2 x hx
        omega
      · have := (List.mem_filter.1 hx).2
        simp at this
        omega
theorem ordOf_succ (s : Nat → Int × Int) (nv n : Nat) : ordOf s nv (n + 1) = ordOf s nv n ++ (nums nv).filter (fun x => decide (keyS s x = (n : Int))) := by
  unfold ordOf
  rw [List.range_succ, List.flatMap_append]
  simp
end Go.Proofs.Ythboknkpgbfmoaa.PA
