/- The plain law of AllocApart: values that meet are apart; each slot has one value. -/
import Derived.Test.YthboknkpgbfmoaaWnt
namespace Go.Proofs.Ythboknkpgbfmoaa.PA
set_option linter.unusedVariables false
set_option linter.unusedSimpArgs false

def meet (s : Nat → Int × Int) (x y : Int) : Prop := (s x.toNat).1 ≤ (s y.toNat).2 ∧ (s y.toNat).1 ≤ (s x.toNat).2
/-- How many values are in slots. -/
def negs (wh : Nat → Int) (L : List Int) : Nat := (L.filter fun x => decide (wh x.toNat < 0)).length
structure InvA (s : Nat → Int × Int) (nv : Nat) (L : List Int) (st : PS) : Prop where
  /-- Those with registers have some, each another. -/
  ac : ∀ x ∈ st.ac, x ∈ L ∧ 0 ≤ st.wh x.toNat ∧ st.wh x.toNat < 5
  ne : ∀ x ∈ st.ac, ∀ y ∈ st.ac, x ≠ y → st.wh x.toNat ≠ st.wh y.toNat
  /-- Values that meet are apart. -/
  apart : ∀ x ∈ L, ∀ y ∈ L, x ≠ y → meet s x y → st.wh x.toNat ≠ st.wh y.toNat
  /-- Who has a register and is no longer active has ended ahead of the last one's begin. -/
  gone : ∀ x ∈ L, 0 ≤ st.wh x.toNat → x ∈ st.ac ∨ ∃ v ∈ L, (s x.toNat).2 < (s v.toNat).1
  low : ∀ x ∈ L, -(st.sl : Int) ≤ st.wh x.toNat ∧ st.wh x.toNat < 5
  cnt : negs st.wh L = st.sl
  rest : ∀ i : Nat, ¬ (i : Int) ∈ L → st.wh i = 0
theorem negs_congr {wh wh' : Nat → Int} {L : List Int} (h : ∀ x ∈ L, (wh x.toNat < 0 ↔ wh' x.toNat < 0)) : negs wh L = negs wh' L := by
  unfold negs
  congr 1
  refine List.filter_congr fun x hx => ?_
  have := h x hx
  simp [this]
theorem negs_snoc (wh : Nat → Int) (L : List Int) (v : Int) : negs wh (L ++ [v]) = negs wh L + if wh v.toNat < 0 then 1 else 0 := by
  unfold negs
  rw [List.filter_append, List.length_append]
  by_cases h : wh v.toNat < 0 <;> simp [h]
theorem negs_one {wh wh' : Nat → Int} {a : Int} : ∀ (L : List Int), L.Nodup → a ∈ L → (∀ x ∈ L, x ≠ a → (wh x.toNat < 0 ↔ wh' x.toNat < 0)) → 0 ≤ wh a.toNat → wh' a.toNat < 0 → negs wh' L = negs wh L + 1
  | [], _, h, _, _, _ => absurd h (by simp)
  | x :: L, hn, hm, h, h0, h1 => by
    obtain ⟨n1, n2⟩ := List.nodup_cons.1 hn
    have e : ∀ w : Nat → Int, negs w (x :: L) = (if w x.toNat < 0 then 1 else 0) + negs w L := fun w => by
      unfold negs
      by_cases h : w x.toNat < 0
      · simp [List.filter_cons, h]; omega
      · simp [List.filter_cons, h]
    rw [e, e]
    by_cases hx : x = a
    · subst hx
      have : negs wh' L = negs wh L := negs_congr fun y hy => (h y (by simp [hy]) (fun q => n1 (q ▸ hy))).symm
      rw [this, if_pos h1, if_neg (by omega)]
      omega
    · have hm2 : a ∈ L := (List.mem_cons.1 hm).resolve_left (fun q => hx q.symm)
      have := negs_one L n2 hm2 (fun y hy hne => h y (by simp [hy]) hne) h0 h1
      rw [this]
      have h2 := h x (by simp) hx
      by_cases q : wh x.toNat < 0
      · rw [if_pos q, if_pos (h2.1 q)]; omega
      · rw [if_neg q, if_neg (fun z => q (h2.2 z))]; omega
theorem step_apart {s : Nat → Int × Int} {nv : Nat} {L : List Int} {st : PS} {v : Int} (h : InvA s nv L st) (hL : ∀ x ∈ L, 0 ≤ x) (hn : L.Nodup) (hv0 : 0 ≤ v) (hv : ¬ v ∈ L) (hord : ∀ x ∈ L, (s x.toNat).1 ≤ (s v.toNat).1) (hse : (s v.toNat).1 ≤ (s v.toNat).2) : InvA s nv (L ++ [v]) (stepA s st v) := by
  obtain ⟨h1, h2, h3, h4, h5, h6, h7⟩ := h
  have hst : ∀ x ∈ still s v st.ac, x ∈ st.ac := fun x hx => (List.mem_filter.1 hx).1
  have hto : ∀ x ∈ L, x.toNat ≠ v.toNat := fun x hx => toNat_ne (hL x hx) hv0 (fun e => hv (e ▸ hx))
  have hmeet : ∀ x ∈ L, meet s x v → 0 ≤ st.wh x.toNat → x ∈ still s v st.ac := fun x hx hm h0 => by
    rcases h4 x hx h0 with h | ⟨u, hu, hlt⟩
    · refine List.mem_filter.2 ⟨h, ?_⟩
      have := hm.2
      simp
      omega
    · have := hord u hu
      have := hm.2
      omega
  have hgone : ∀ x ∈ L, 0 ≤ st.wh x.toNat → x ∈ still s v st.ac ∨ ∃ u ∈ L ++ [v], (s x.toNat).2 < (s u.toNat).1 := fun x hx h0 => by
    rcases h4 x hx h0 with h | ⟨u, hu, hlt⟩
    · by_cases q : (s x.toNat).2 < (s v.toNat).1
      · exact .inr ⟨v, by simp, q⟩
      · exact .inl (List.mem_filter.2 ⟨h, by simp; omega⟩)
    · exact .inr ⟨u, by simp [hu], hlt⟩
  have hvwh : st.wh v.toNat = 0 := by
    have := h7 v.toNat (by rw [Int.toNat_of_nonneg hv0]; exact hv)
    exact this
  have hreg := regOf_spec (regs st.wh (still s v st.ac))
  have hrne : ∀ x ∈ still s v st.ac, st.wh x.toNat ≠ (regOf (regs st.wh (still s v st.ac)) : Int) := fun x hx e => hreg.2 (List.mem_map.2 ⟨x, hx, e⟩)
  generalize hr : regOf (regs st.wh (still s v st.ac)) = r at *
  have hsym : ∀ {x y : Int}, meet s x y → meet s y x := fun h => ⟨h.2, h.1⟩
  unfold stepA
  simp only [hr]
  split
  · rename_i h5r
    have ho : ∀ x ∈ L, put1 st.wh v.toNat (r : Int) x.toNat = st.wh x.toNat := fun x hx => put1_other _ (hto x hx)
    have hvv : put1 st.wh v.toNat (r : Int) v.toNat = (r : Int) := put1_same _ _ _
    refine ⟨fun x hx => ?_, fun x hx y hy hne => ?_, fun x hx y hy hne hm => ?_, fun x hx h0 => ?_, fun x hx => ?_, ?_, fun i hi => ?_⟩
    · simp only [List.mem_append, List.mem_singleton] at hx ⊢
      rcases hx with hx | rfl
      · have := h1 x (hst x hx)
        rw [ho x this.1]
        exact ⟨.inl this.1, this.2⟩
      · rw [hvv]
        exact ⟨.inr rfl, by omega, by omega⟩
    · simp only [List.mem_append, List.mem_singleton] at hx hy
      rcases hx with hx | rfl <;> rcases hy with hy | rfl
      · simp only [ho x (h1 x (hst x hx)).1, ho y (h1 y (hst y hy)).1]
        exact h2 x (hst x hx) y (hst y hy) hne
      · simp only [ho x (h1 x (hst x hx)).1, hvv]
        exact hrne x hx
      · simp only [ho y (h1 y (hst y hy)).1, hvv]
        exact (hrne y hy).symm
      · exact absurd rfl hne
    · simp only [List.mem_append, List.mem_singleton] at hx hy
      have key : ∀ x ∈ L, meet s x v → st.wh x.toNat ≠ (r : Int) := fun x hx hm => by
        by_cases h0 : 0 ≤ st.wh x.toNat
        · exact hrne x (hmeet x hx hm h0)
        · omega
      rcases hx with hx | rfl <;> rcases hy with hy | rfl
      · simp only [ho x hx, ho y hy]
        exact h3 x hx y hy hne hm
      · simp only [ho x hx, hvv]
        exact key x hx hm
      · simp only [ho y hy, hvv]
        exact (key y hy (hsym hm)).symm
      · exact absurd rfl hne
    · simp only [List.mem_append, List.mem_singleton] at hx
      rcases hx with hx | rfl
      · simp only [ho x hx] at h0
        rcases hgone x hx h0 with h | h
        · exact .inl (by simp [h])
        · exact .inr h
      · exact .inl (by simp)
    · simp only [List.mem_append, List.mem_singleton] at hx
      rcases hx with hx | rfl
      · simp only [ho x hx]
        exact h5 x hx
      · simp only [hvv]
        omega
    · simp only
      rw [negs_snoc, hvv, if_neg (by omega), negs_congr (wh' := st.wh) (fun x hx => by rw [ho x hx])]
      exact h6
    · simp only [List.mem_append, List.mem_singleton, not_or] at hi
      simp only
      rw [put1_other _ (fun e => hi.2 (by omega))]
      exact h7 i hi.1
  · rename_i h5r
    split
    · have ho : ∀ x ∈ L, put1 st.wh v.toNat (-((st.sl : Int) + 1)) x.toNat = st.wh x.toNat := fun x hx => put1_other _ (hto x hx)
      have hvv : put1 st.wh v.toNat (-((st.sl : Int) + 1)) v.toNat = -((st.sl : Int) + 1) := put1_same _ _ _
      refine ⟨fun x hx => ?_, fun x hx y hy hne => ?_, fun x hx y hy hne hm => ?_, fun x hx h0 => ?_, fun x hx => ?_, ?_, fun i hi => ?_⟩
      · have := h1 x (hst x hx)
        simp only [ho x this.1]
        exact ⟨by simp [this.1], this.2⟩
      · simp only [ho x (h1 x (hst x hx)).1, ho y (h1 y (hst y hy)).1]
        exact h2 x (hst x hx) y (hst y hy) hne
      · simp only [List.mem_append, List.mem_singleton] at hx hy
        rcases hx with hx | rfl <;> rcases hy with hy | rfl
        · simp only [ho x hx, ho y hy]
          exact h3 x hx y hy hne hm
        · simp only [ho x hx, hvv]
          have := (h5 x hx).1
          omega
        · simp only [ho y hy, hvv]
          have := (h5 y hy).1
          omega
        · exact absurd rfl hne
      · simp only [List.mem_append, List.mem_singleton] at hx
        rcases hx with hx | rfl
        · simp only [ho x hx] at h0
          exact hgone x hx h0
        · simp only [hvv] at h0
          omega
      · simp only [List.mem_append, List.mem_singleton] at hx
        rcases hx with hx | rfl
        · simp only [ho x hx]
          have := h5 x hx
          omega
        · simp only [hvv]
          omega
      · simp only
        rw [negs_snoc, hvv, if_pos (by omega), negs_congr (wh' := st.wh) (fun x hx => by rw [ho x hx]), h6]
      · simp only [List.mem_append, List.mem_singleton, not_or] at hi
        simp only
        rw [put1_other _ (fun e => hi.2 (by omega))]
        exact h7 i hi.1
    · rename_i hl
      generalize hlast : lastOf s v (still s v st.ac) = la at *
      have hm0 : la ∈ still s v st.ac := by
        have := lastOf_mem (s := s) (still s v st.ac) v
        rw [hlast] at this
        exact this.resolve_left hl
      have hla := h1 la (hst la hm0)
      have hlv : v.toNat ≠ la.toNat := (hto la hla.1).symm
      have ho : ∀ x ∈ L, x ≠ la → put1 (put1 st.wh v.toNat (st.wh la.toNat)) la.toNat (-((st.sl : Int) + 1)) x.toNat = st.wh x.toNat := fun x hx hne => by
        rw [put1_other _ (toNat_ne (hL x hx) (hL la hla.1) hne), put1_other _ (hto x hx)]
      have hvv : put1 (put1 st.wh v.toNat (st.wh la.toNat)) la.toNat (-((st.sl : Int) + 1)) v.toNat = st.wh la.toNat := by rw [put1_other _ hlv, put1_same]
      have hll : put1 (put1 st.wh v.toNat (st.wh la.toNat)) la.toNat (-((st.sl : Int) + 1)) la.toNat = -((st.sl : Int) + 1) := put1_same _ _ _
      have hf : ∀ x, x ∈ (still s v st.ac).filter (fun x => !decide (x = la)) → x ∈ still s v st.ac ∧ x ≠ la := fun x hx => by
        obtain ⟨q1, q2⟩ := List.mem_filter.1 hx
        simp at q2
        exact ⟨q1, q2⟩
      refine ⟨fun x hx => ?_, fun x hx y hy hne => ?_, fun x hx y hy hne hm => ?_, fun x hx h0 => ?_, fun x hx => ?_, ?_, fun i hi => ?_⟩
      · simp only [List.mem_append, List.mem_singleton] at hx ⊢
        rcases hx with hx | rfl
        · obtain ⟨q1, q2⟩ := hf x hx
          have := h1 x (hst x q1)
          rw [ho x this.1 q2]
          exact ⟨.inl this.1, this.2⟩
        · rw [hvv]
          exact ⟨.inr rfl, hla.2⟩
      · simp only [List.mem_append, List.mem_singleton] at hx hy
        rcases hx with hx | rfl <;> rcases hy with hy | rfl
        · obtain ⟨q1, q2⟩ := hf x hx
          obtain ⟨q3, q4⟩ := hf y hy
          simp only [ho x (h1 x (hst x q1)).1 q2, ho y (h1 y (hst y q3)).1 q4]
          exact h2 x (hst x q1) y (hst y q3) hne
        · obtain ⟨q1, q2⟩ := hf x hx
          simp only [ho x (h1 x (hst x q1)).1 q2, hvv]
          exact h2 x (hst x q1) la (hst la hm0) q2
        · obtain ⟨q1, q2⟩ := hf y hy
          simp only [ho y (h1 y (hst y q1)).1 q2, hvv]
          exact h2 la (hst la hm0) y (hst y q1) (fun e => q2 e.symm)
        · exact absurd rfl hne
      · simp only [List.mem_append, List.mem_singleton] at hx hy
        have keyv : ∀ x ∈ L, x ≠ la → meet s x v → st.wh x.toNat ≠ st.wh la.toNat := fun x hx hne hm => by
          by_cases h0 : 0 ≤ st.wh x.toNat
          · exact h2 x (hst x (hmeet x hx hm h0)) la (hst la hm0) hne
          · omega
        have keyl : ∀ x ∈ L, st.wh x.toNat ≠ -((st.sl : Int) + 1) := fun x hx => by
          have := (h5 x hx).1
          omega
        rcases hx with hx | rfl <;> rcases hy with hy | rfl
        · by_cases ex : x = la
          · subst ex
            simp only [hll, ho y hy (fun e => hne e.symm)]
            exact (keyl y hy).symm
          · by_cases ey : y = la
            · subst ey
              simp only [hll, ho x hx ex]
              exact keyl x hx
            · simp only [ho x hx ex, ho y hy ey]
              exact h3 x hx y hy hne hm
        · by_cases ex : x = la
          · subst ex
            simp only [hll, hvv]
            omega
          · simp only [ho x hx ex, hvv]
            exact keyv x hx ex hm
        · by_cases ey : y = la
          · subst ey
            simp only [hll, hvv]
            omega
          · simp only [ho y hy ey, hvv]
            exact (keyv y hy ey (hsym hm)).symm
        · exact absurd rfl hne
      · simp only [List.mem_append, List.mem_singleton] at hx
        rcases hx with hx | rfl
        · by_cases ex : x = la
          · subst ex
            simp only [hll] at h0
            omega
          · simp only [ho x hx ex] at h0
            rcases hgone x hx h0 with h | h
            · exact .inl (by simp [h, ex])
            · exact .inr h
        · exact .inl (by simp)
      · simp only [List.mem_append, List.mem_singleton] at hx
        rcases hx with hx | rfl
        · by_cases ex : x = la
          · subst ex
            simp only [hll]
            omega
          · simp only [ho x hx ex]
            have := h5 x hx
            omega
        · simp only [hvv]
          omega
      · simp only
        rw [negs_snoc, hvv, if_neg (by omega), negs_one (wh := st.wh) (a := la) L hn hla.1 (fun x hx hne => by rw [ho x hx hne]) hla.2.1 (by rw [hll]; omega), h6]
      · simp only [List.mem_append, List.mem_singleton, not_or] at hi
        simp only
        rw [put1_other _ (fun e => hi.1 (by rw [e, Int.toNat_of_nonneg (hL la hla.1)]; exact hla.1)), put1_other _ (fun e => hi.2 (by omega))]
        exact h7 i hi.1
theorem fold_apart {s : Nat → Int × Int} {nv : Nat} : ∀ (M L : List Int) (st : PS), InvA s nv L st → (L ++ M).Nodup → (∀ x ∈ L ++ M, 0 ≤ x ∧ (s x.toNat).1 ≤ (s x.toNat).2) → (L ++ M).Pairwise (fun x y => (s x.toNat).1 ≤ (s y.toNat).1) → InvA s nv (L ++ M) (M.foldl (stepA s) st)
  | [], L, st, h, _, _, _ => by simpa using h
  | v :: M, L, st, h, hn, h0, hp => by
    have e : L ++ v :: M = (L ++ [v]) ++ M := by simp
    obtain ⟨n1, n2, n3⟩ := List.nodup_append.1 hn
    obtain ⟨p1, p2, p3⟩ := List.pairwise_append.1 hp
    have h1 := step_apart h (fun x hx => (h0 x (by simp [hx])).1) n1 (h0 v (by simp)).1 (fun hv => n3 v hv v (by simp) rfl) (fun x hx => p3 x hx v (by simp)) (h0 v (by simp)).2
    rw [e] at hn h0 hp ⊢
    exact fold_apart M (L ++ [v]) _ h1 hn h0 hp
/-- What becomes of all values. -/
theorem alloc_apart {s : Nat → Int × Int} {nv n : Nat} (hs : ∀ i, i < nv → s i = (-1, -1) ∨ (0 ≤ (s i).1 ∧ (s i).1 ≤ (s i).2 ∧ (s i).2 < n)) :
    (∀ i, i < nv → -((allocF s nv n).sl : Int) ≤ (allocF s nv n).wh i ∧ (allocF s nv n).wh i < 5) ∧ (∀ i j, i < nv → j < nv → i ≠ j → 0 ≤ (s i).1 → 0 ≤ (s j).1 → (s i).1 ≤ (s j).2 → (s j).1 ≤ (s i).2 → (allocF s nv n).wh i ≠ (allocF s nv n).wh j) ∧ negs (allocF s nv n).wh (nums nv) = (allocF s nv n).sl := by
  have hmem : ∀ x, x ∈ ordOf s nv n ↔ (0 ≤ x ∧ x < nv) ∧ 0 ≤ (s x.toNat).1 := fun x => by
    unfold ordOf
    simp only [List.mem_flatMap, List.mem_filter, mem_nums, List.mem_range, decide_eq_true_eq]
    constructor
    · rintro ⟨k, hk, hx, e⟩
      unfold keyS at e
      exact ⟨hx, by omega⟩
    · rintro ⟨hx, h0⟩
      rcases hs x.toNat (by omega) with h | h
      · rw [h] at h0
        simp at h0
      · exact ⟨(s x.toNat).1.toNat, by omega, hx, by unfold keyS; omega⟩
  obtain ⟨hn, _⟩ := ordOf_nodup s nv n
  have hpw : (ordOf s nv n).Pairwise (fun x y => (s x.toNat).1 ≤ (s y.toNat).1) := (flat_sorted (key := keyS s) (nums nv) n).1
  have hse : ∀ x ∈ ordOf s nv n, 0 ≤ x ∧ (s x.toNat).1 ≤ (s x.toNat).2 := fun x hx => by
    have h := (hmem x).1 hx
    rcases hs x.toNat (by omega) with q | q
    · rw [q]; simp; omega
    · omega
  have h0 : InvA s nv [] ⟨fun _ => 0, 0, []⟩ := ⟨by simp, by simp, by simp, by simp, by simp, rfl, fun _ _ => rfl⟩
  have h := fold_apart (ordOf s nv n) [] _ h0 (by simpa using hn) (by simpa using hse) (by simpa using hpw)
  rw [List.nil_append] at h
  have hF : (ordOf s nv n).foldl (stepA s) ⟨fun _ => 0, 0, []⟩ = allocF s nv n := rfl
  rw [hF] at h
  have hout : ∀ i, i < nv → ¬ (i : Int) ∈ ordOf s nv n → (allocF s nv n).wh i = 0 := fun i _ hi => h.rest i hi
  refine ⟨fun i hi => ?_, fun i j hi hj hne h1 h2 h3 h4 => ?_, ?_⟩
  · by_cases q : (i : Int) ∈ ordOf s nv n
    · have := h.low _ q
      rwa [Int.toNat_natCast] at this
    · rw [hout i hi q]
      omega
  · have := h.apart (i : Int) ((hmem _).2 ⟨by omega, by simpa using h1⟩) (j : Int) ((hmem _).2 ⟨by omega, by simpa using h2⟩) (by omega) ⟨by simpa using h3, by simpa using h4⟩
    simpa using this
  · rw [← h.cnt]
    have hsub : negs (allocF s nv n).wh (nums nv) = negs (allocF s nv n).wh (ordOf s nv n) := by
      unfold negs
      have e1 := nodup_le ((nums nv).filter fun x => decide ((allocF s nv n).wh x.toNat < 0)) ((ordOf s nv n).filter fun x => decide ((allocF s nv n).wh x.toNat < 0)) ((nums_nodup nv).filter _) (fun x hx => by
        obtain ⟨q1, q2⟩ := List.mem_filter.1 hx
        have hr := mem_nums.1 q1
        simp only [decide_eq_true_eq] at q2
        refine List.mem_filter.2 ⟨?_, by simpa using q2⟩
        by_cases q : x ∈ ordOf s nv n
        · exact q
        · have := hout x.toNat (by omega) (by rw [Int.toNat_of_nonneg hr.1]; exact q)
          omega)
      have e2 := nodup_le ((ordOf s nv n).filter fun x => decide ((allocF s nv n).wh x.toNat < 0)) ((nums nv).filter fun x => decide ((allocF s nv n).wh x.toNat < 0)) (hn.filter _) (fun x hx => by
        obtain ⟨q1, q2⟩ := List.mem_filter.1 hx
        exact List.mem_filter.2 ⟨mem_nums.2 (mem_ordOf q1), q2⟩)
      omega
    exact hsub
end Go.Proofs.Ythboknkpgbfmoaa.PA
