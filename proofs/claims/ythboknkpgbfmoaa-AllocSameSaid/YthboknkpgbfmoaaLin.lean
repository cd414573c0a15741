/- What lives in codes that go straight on: each value is set once and told once. -/
import Derived.Test.YthboknkpgbfmoaaSpan
namespace Go.Proofs.Ythboknkpgbfmoaa.PA
open Go.RowKit Go.Proofs.YthboknkpgbfmoaaW.PrintWords
set_option linter.unusedVariables false
set_option linter.unusedSimpArgs false

/-- What is live ahead of a place, of what lives behind it. -/
def ahead (l : List S60) (p : Nat → Int → Bool) (k : Nat) (v : Int) : Bool := ((nextOf (cAt l k) k l.length).any (fun m => p m.toNat v) && keep (db (cAt l k)) (dv (cAt l k)) v) || (us (cAt l k)).contains v
theorem stepP_at (l : List S60) (k : Nat) (p : Nat → Int → Bool) (i : Nat) (v : Int) : stepP l k p i v = if i = k then (p k v || ahead l p k v) else p i v := by
  unfold stepP ahead
  by_cases e : i = k
  · simp [e, Bool.or_assoc]
  · simp [e]
theorem stepP_le {l : List S60} {k : Nat} {p : Nat → Int → Bool} {i : Nat} {v : Int} (h : p i v = true) : stepP l k p i v = true := by
  rw [stepP_at]
  by_cases e : i = k
  · subst e; simp [h]
  · simp [e, h]
theorem passD_le {l : List S60} : ∀ (m : Nat) {p : Nat → Int → Bool} {i : Nat} {v : Int}, p i v = true → passD l m p i v = true
  | 0, _, _, _, h => h
  | m + 1, _, _, _, h => passD_le m (stepP_le h)
theorem passD_fix {l : List S60} {p : Nat → Int → Bool} : ∀ (m : Nat), passD l m p = p → ∀ k, k < m → stepP l k p = p
  | 0, _, k, hk => absurd hk (by omega)
  | m + 1, h, k, hk => by
    have h1 : stepP l m p = p := by
      funext i v
      cases hp : p i v with
      | true => exact stepP_le hp
      | false =>
        cases hs : stepP l m p i v with
        | false => rfl
        | true =>
          have h2 : passD l (m + 1) p i v = true := passD_le m hs
          rw [h, hp] at h2
          exact h2.symm
    by_cases e : k = m
    · subst e; exact h1
    · have h2 : passD l m (stepP l m p) = p := h
      rw [h1] at h2
      exact passD_fix m h2 k (by omega)
theorem ahead_mono {l : List S60} {p q : Nat → Int → Bool} (h : ∀ i v, p i v = true → q i v = true) {k : Nat} {v : Int} (ha : ahead l p k v = true) : ahead l q k v = true := by
  unfold ahead at ha ⊢
  simp only [Bool.or_eq_true, Bool.and_eq_true, List.any_eq_true] at ha ⊢
  rcases ha with ⟨⟨m, hm, hp⟩, hk⟩ | hu
  · exact .inl ⟨⟨m, hm, h _ _ hp⟩, hk⟩
  · exact .inr hu
def Supp (l : List S60) (p : Nat → Int → Bool) : Prop := ∀ k v, p k v = true → k < l.length ∧ ahead l p k v = true
theorem supp_step {l : List S60} {p : Nat → Int → Bool} {k : Nat} (hk : k < l.length) (h : Supp l p) : Supp l (stepP l k p) := fun i v hi => by
  rw [stepP_at] at hi
  have hm : ∀ i v, p i v = true → stepP l k p i v = true := fun i v => stepP_le
  by_cases e : i = k
  · subst e
    rw [if_pos rfl, Bool.or_eq_true] at hi
    rcases hi with hi | hi
    · exact ⟨hk, ahead_mono hm (h i v hi).2⟩
    · exact ⟨hk, ahead_mono hm hi⟩
  · rw [if_neg e] at hi
    exact ⟨(h i v hi).1, ahead_mono hm (h i v hi).2⟩
theorem supp_pass {l : List S60} : ∀ (m : Nat) {p : Nat → Int → Bool}, m ≤ l.length → Supp l p → Supp l (passD l m p)
  | 0, _, _, h => h
  | m + 1, _, hm, h => supp_pass m (by omega) (supp_step (by omega) h)
theorem supp_iter (l : List S60) : ∀ j, Supp l (iterP l j)
  | 0 => fun k v h => by simp [iterP] at h
  | j + 1 => supp_pass l.length (Nat.le_refl _) (supp_iter l j)
theorem lives_eq {l : List S60} {P : Nat → Int → Bool} (h : Lives l P) : (∀ k v, k < l.length → P k v = ahead l P k v) ∧ ∀ k v, l.length ≤ k → P k v = false := by
  obtain ⟨j, hj, hfix⟩ := h
  have hs := supp_iter l j
  rw [← hj] at hs
  refine ⟨fun k v hk => ?_, fun k v hk => ?_⟩
  · have h1 := congrFun (congrFun (passD_fix l.length hfix k hk) k) v
    rw [stepP_at, if_pos rfl] at h1
    cases ha : ahead l P k v with
    | true => rw [ha, Bool.or_true] at h1; exact h1.symm
    | false =>
      cases hp : P k v with
      | false => rfl
      | true => have := (hs k v hp).2; rw [ha] at this; cases this
  · cases hp : P k v with
    | false => rfl
    | true => have := (hs k v hp).1; omega

/-- Codes that go straight on, in which value v is set at a v and told at b v. -/
structure Straight (l : List S60) (nv : Nat) (a b : Nat → Nat) : Prop where
  ab : ∀ v, v < nv → a v < b v ∧ b v < l.length
  on : ∀ k, k < l.length → jm (cAt l k) = false ∧ (go (cAt l k) = true ∨ k + 1 = l.length)
  sets : ∀ k v, k < l.length → v < nv → (db (cAt l k) && decide ((v : Int) = dv (cAt l k))) = decide (a v = k)
  tells : ∀ k v, k < l.length → v < nv → (us (cAt l k)).contains (v : Int) = decide (b v = k)
theorem straight_next {l : List S60} {nv : Nat} {a b : Nat → Nat} (h : Straight l nv a b) {k : Nat} (hk : k < l.length) (p : Nat → Bool) (hp : ∀ i, l.length ≤ i → p i = false) : (nextOf (cAt l k) k l.length).any (fun m => p m.toNat) = p (k + 1) := by
  obtain ⟨hj, hg⟩ := h.on k hk
  unfold nextOf
  simp only [hj, Bool.false_eq_true, false_and, if_false]
  by_cases hlt : k + 1 < l.length
  · have hgo : go (cAt l k) = true := hg.resolve_right (by omega)
    have h2 : (k : Int) + 1 < (l.length : Int) := by omega
    simp only [hgo, h2, and_self, if_true, List.any_cons, List.any_nil, Bool.or_false]
    congr 1
  · have h2 : ¬ (k : Int) + 1 < (l.length : Int) := by omega
    simp only [h2, and_false, if_false, List.any_nil]
    exact (hp _ (by omega)).symm
theorem straight_live {l : List S60} {nv : Nat} {a b : Nat → Nat} (h : Straight l nv a b) {P : Nat → Int → Bool} (hP : Lives l P) (v : Nat) (hv : v < nv) : ∀ (d k : Nat), k + d = l.length → P k (v : Int) = decide (a v < k ∧ k ≤ b v)
  | 0, k, hd => by
    rw [(lives_eq hP).2 k v (by omega)]
    have := h.ab v hv
    symm
    simp
    omega
  | d + 1, k, hd => by
    have hk : k < l.length := by omega
    have ih := straight_live h hP v hv d (k + 1) (by omega)
    have hab := h.ab v hv
    have hse := h.sets k v hk hv
    have hte := h.tells k v hk hv
    rw [(lives_eq hP).1 k v hk]
    unfold ahead keep
    rw [straight_next h hk (fun i => P i (v : Int)) (fun i hi => (lives_eq hP).2 i v hi), ih, hte]
    have hkp : (!db (cAt l k) || decide ((v : Int) ≠ dv (cAt l k))) = !decide (a v = k) := by
      rw [← hse, Bool.not_and, decide_not]
    rw [hkp]
    by_cases h1 : b v = k
    · have : a v < k ∧ k ≤ b v := by omega
      simp [h1, this]
    · by_cases h2 : a v = k
      · have : ¬ (a v < k ∧ k ≤ b v) := by omega
        simp [h1, h2]
      · have : (a v < k + 1 ∧ k + 1 ≤ b v) ↔ (a v < k ∧ k ≤ b v) := by omega
        simp [h1, h2, this]
theorem straight_touch {l : List S60} {nv : Nat} {a b : Nat → Nat} (h : Straight l nv a b) {P : Nat → Int → Bool} (hP : Lives l P) (v : Nat) (hv : v < nv) {k : Nat} (hk : k < l.length) : touch l P k v = decide (a v ≤ k ∧ k ≤ b v) := by
  have hab := h.ab v hv
  have h0 := straight_live h hP v hv (l.length - k) k (by omega)
  have h1 := straight_live h hP v hv (l.length - (k + 1)) (k + 1) (by omega)
  unfold touch
  rw [straight_next h hk (fun i => P i (v : Int)) (fun i hi => (lives_eq hP).2 i v hi), h0, h1, h.sets k v hk hv]
  rw [Bool.eq_iff_iff]
  simp only [Bool.or_eq_true, decide_eq_true_eq]
  omega
theorem straight_spF {l : List S60} {nv : Nat} {a b : Nat → Nat} (h : Straight l nv a b) {P : Nat → Int → Bool} (hP : Lives l P) (v : Nat) (hv : v < nv) : ∀ k, k ≤ l.length → SpF l P k v = if k ≤ a v then (-1, -1) else ((a v : Int), ((min (k - 1) (b v) : Nat) : Int))
  | 0, _ => by simp [SpF]
  | k + 1, hk => by
    have ih := straight_spF h hP v hv k (by omega)
    have ht := straight_touch h hP v hv (k := k) (by omega)
    have hab := h.ab v hv
    unfold SpF mkP
    rw [ht, ih]
    by_cases h1 : k < a v
    · have q1 : ¬ (a v ≤ k ∧ k ≤ b v) := by omega
      have q2 : k ≤ a v := by omega
      have q3 : k + 1 ≤ a v := by omega
      simp [q1, q2, q3]
    · by_cases h2 : k = a v
      · subst h2
        have q1 : a v ≤ a v ∧ a v ≤ b v := by omega
        have q3 : ¬ a v + 1 ≤ a v := by omega
        simp only [q1, decide_true, if_true, Nat.le_refl, if_neg q3, mk1]
        have : min (a v) (b v) = a v := by omega
        simp [this]
      · have q2 : ¬ k ≤ a v := by omega
        have q3 : ¬ k + 1 ≤ a v := by omega
        by_cases h3 : k ≤ b v
        · have q1 : a v ≤ k ∧ k ≤ b v := by omega
          simp only [q1, and_self, decide_true, if_true, if_neg q2, if_neg q3, mk1]
          have e1 : ¬ ((a v : Int) < 0) := by omega
          have e2 : min (k + 1 - 1) (b v) = k := by omega
          rw [if_neg e1, e2]
        · have q1 : ¬ (a v ≤ k ∧ k ≤ b v) := by omega
          simp only [q1, decide_false, Bool.false_eq_true, if_false, if_neg q2, if_neg q3]
          have e2 : min (k + 1 - 1) (b v) = min (k - 1) (b v) := by omega
          rw [e2]
theorem straight_spans {l : List S60} {nv : Nat} {a b : Nat → Nat} (h : Straight l nv a b) {P : Nat → Int → Bool} (hP : Lives l P) (v : Nat) (hv : v < nv) : SpF l P l.length v = ((a v : Int), (b v : Int)) := by
  have hab := h.ab v hv
  rw [straight_spF h hP v hv l.length (Nat.le_refl _), if_neg (by omega)]
  have : min (l.length - 1) (b v) = b v := by omega
  rw [this]
end Go.Proofs.Ythboknkpgbfmoaa.PA
