/- The plain law of AllocSame: values that are named otherwise, in the same order, get the same places. -/
import Derived.Test.YthboknkpgbfmoaaLin
import Derived.Test.YthboknkpgbfmoaaApart
import Derived.Test.YthboknkpgbfmoaaSml
namespace Go.Proofs.Ythboknkpgbfmoaa.PA
open Go.Proofs.YthboknkpgbfmoaaW.PrintWords
set_option linter.unusedVariables false
set_option linter.unusedSimpArgs false

/-- A code whose values are named by twice their numbers. -/
def twC (c : S60) : S60 := ⟨c.f0, c.f1, 2 * c.f2, if c.f3 > 0 then 2 * c.f3 else c.f3, 2 * c.f4, 2 * c.f5, c.f6, c.f7⟩
def tw (l : List S60) : List S60 := l.map twC
theorem tw_len (l : List S60) : (tw l).length = l.length := by simp [tw]
theorem tw_at (l : List S60) (k : Nat) (hk : k < l.length) : cAt (tw l) k = twC (cAt l k) := by
  unfold cAt tw
  rw [List.getD_eq_getElem?_getD, List.getD_eq_getElem?_getD, List.getElem?_map, List.getElem?_eq_getElem hk]
  rfl
theorem tw_db (c : S60) : db (twC c) = db c := rfl
theorem tw_dv (c : S60) (h : db c = true) : dv (twC c) = 2 * dv c := by
  unfold db at h
  have h := of_decide_eq_true h
  unfold dv twC
  simp only [if_pos h]
theorem tw_us {c : S60} (h : Few8 c) : us (twC c) = (us c).map (2 * ·) := by
  obtain ⟨_, _, ⟨_, h3⟩, _, _⟩ := h
  have e3 : (if c.f3 > 0 then 2 * c.f3 else c.f3) = if c.f3 ≥ 0 then 2 * c.f3 else c.f3 := by
    by_cases q : c.f3 > 0
    · rw [if_pos q, if_pos (by omega)]
    · by_cases q2 : c.f3 = 0
      · rw [q2]; simp
      · rw [if_neg q, if_neg (by omega)]
  unfold us twC
  simp only [e3]
  by_cases n3 : c.f3 ≥ 0
  · have n4 : 2 * c.f3 ≥ 0 := by omega
    simp only [if_pos n3, if_pos n4]
    repeat' split
    all_goals simp
  · have hq : c.f0 = 4 ∨ c.f0 = 5 := by
      rcases h3 with h | h
      · omega
      · exact h.2
    rcases hq with e | e
    · simp [e, n3]
    · simp [e, n3]
theorem tw_next (c : S60) (k n : Int) : nextOf (twC c) k n = nextOf c k n := rfl
theorem contains_tw (l : List Int) (v : Int) : (l.map (2 * ·)).contains (2 * v) = l.contains v := by
  rw [Bool.eq_iff_iff]
  simp only [List.contains_eq_mem, decide_eq_true_eq, List.mem_map]
  constructor
  · rintro ⟨x, hx, e⟩
    have : x = v := by omega
    exact this ▸ hx
  · intro h
    exact ⟨v, h, rfl⟩
theorem contains_odd (l : List Int) (v : Int) : (l.map (2 * ·)).contains (2 * v + 1) = false := by
  rw [Bool.eq_false_iff]
  simp only [ne_eq, List.contains_eq_mem, decide_eq_true_eq, List.mem_map, not_exists, not_and]
  intro x hx e
  omega
/-- The rows of two lists of codes go together. -/
def Pair (p p' : Nat → Int → Bool) : Prop := ∀ i v, p' i (2 * v) = p i v ∧ p' i (2 * v + 1) = false
theorem pair_ahead {l : List S60} (hf : ∀ c ∈ l, Few8 c) {p p' : Nat → Int → Bool} (h : Pair p p') {k : Nat} (hk : k < l.length) (v : Int) : ahead (tw l) p' k (2 * v) = ahead l p k v ∧ ahead (tw l) p' k (2 * v + 1) = false := by
  have hc : Few8 (cAt l k) := by
    unfold cAt
    rw [List.getD_eq_getElem?_getD, List.getElem?_eq_getElem hk]
    exact hf _ (List.getElem_mem hk)
  unfold ahead
  rw [tw_at l k hk, tw_len, tw_next, tw_us hc, contains_tw, contains_odd, tw_db]
  have e1 : ∀ m : Int, p' m.toNat (2 * v) = p m.toNat v := fun m => (h _ v).1
  have e2 : ∀ m : Int, p' m.toNat (2 * v + 1) = false := fun m => (h _ v).2
  simp only [e1, e2]
  refine ⟨?_, by simp⟩
  congr 2
  unfold keep
  cases hd : db (cAt l k) with
  | false => rfl
  | true =>
    rw [tw_dv _ hd]
    have : (2 * v ≠ 2 * dv (cAt l k)) ↔ (v ≠ dv (cAt l k)) := by omega
    simp [this]
theorem pair_step {l : List S60} (hf : ∀ c ∈ l, Few8 c) {p p' : Nat → Int → Bool} (h : Pair p p') {k : Nat} (hk : k < l.length) : Pair (stepP l k p) (stepP (tw l) k p') := fun i v => by
  rw [stepP_at, stepP_at, stepP_at]
  by_cases e : i = k
  · subst e
    obtain ⟨a1, a2⟩ := pair_ahead hf h hk v
    rw [if_pos rfl, if_pos rfl, if_pos rfl, (h i v).1, (h i v).2, a1, a2]
    exact ⟨rfl, rfl⟩
  · rw [if_neg e, if_neg e, if_neg e]
    exact h i v
theorem pair_pass {l : List S60} (hf : ∀ c ∈ l, Few8 c) : ∀ (m : Nat) {p p' : Nat → Int → Bool}, m ≤ l.length → Pair p p' → Pair (passD l m p) (passD (tw l) m p')
  | 0, _, _, _, h => h
  | m + 1, _, _, hm, h => pair_pass hf m (by omega) (pair_step hf h (by omega))
theorem pair_iter {l : List S60} (hf : ∀ c ∈ l, Few8 c) : ∀ j, Pair (iterP l j) (iterP (tw l) j)
  | 0 => fun i v => ⟨rfl, rfl⟩
  | j + 1 => by
    have := pair_pass hf l.length (Nat.le_refl _) (pair_iter hf j)
    show Pair (passD l l.length (iterP l j)) (passD (tw l) (tw l).length (iterP (tw l) j))
    rw [tw_len]
    exact this
theorem lives_late {l : List S60} {P : Nat → Int → Bool} (h : Lives l P) : ∃ j, ∀ d, P = iterP l (j + d) := by
  obtain ⟨j, rfl, hj⟩ := h
  refine ⟨j, fun d => ?_⟩
  induction d with
  | zero => rfl
  | succ d ih =>
    show _ = passD l l.length (iterP l (j + d))
    rw [← ih, hj]
theorem pair_lives {l : List S60} (hf : ∀ c ∈ l, Few8 c) {P P' : Nat → Int → Bool} (h : Lives l P) (h' : Lives (tw l) P') : Pair P P' := by
  obtain ⟨i, hi⟩ := lives_late h
  obtain ⟨j, hj⟩ := lives_late h'
  have h1 := hi j
  have h2 := hj i
  rw [Nat.add_comm j i] at h2
  rw [h1, h2]
  exact pair_iter hf (i + j)
theorem pair_touch {l : List S60} (hf : ∀ c ∈ l, Few8 c) {P P' : Nat → Int → Bool} (h : Pair P P') {k : Nat} (hk : k < l.length) (i : Nat) : touch (tw l) P' k (2 * i) = touch l P k i ∧ touch (tw l) P' k (2 * i + 1) = false := by
  unfold touch
  rw [tw_at l k hk, tw_len, tw_next, tw_db]
  have c1 : (((2 * i : Nat) : Int)) = 2 * (i : Int) := by omega
  have c2 : (((2 * i + 1 : Nat) : Int)) = 2 * (i : Int) + 1 := by omega
  rw [c1, c2]
  have e1 : ∀ m : Int, P' m.toNat (2 * (i : Int)) = P m.toNat (i : Int) := fun m => (h _ _).1
  have e2 : ∀ m : Int, P' m.toNat (2 * (i : Int) + 1) = false := fun m => (h _ _).2
  simp only [e1, e2, (h k (i : Int)).1, (h k (i : Int)).2]
  cases hd : db (cAt l k) with
  | false => simp
  | true =>
    rw [tw_dv _ hd]
    have q1 : (2 * (i : Int) = 2 * dv (cAt l k)) ↔ ((i : Int) = dv (cAt l k)) := by omega
    have q2 : ¬ (2 * (i : Int) + 1 = 2 * dv (cAt l k)) := by omega
    simp [q1, q2]
theorem pair_spF {l : List S60} (hf : ∀ c ∈ l, Few8 c) {P P' : Nat → Int → Bool} (h : Pair P P') (i : Nat) : ∀ k, k ≤ l.length → SpF (tw l) P' k (2 * i) = SpF l P k i ∧ SpF (tw l) P' k (2 * i + 1) = (-1, -1)
  | 0, _ => ⟨rfl, rfl⟩
  | k + 1, hk => by
    obtain ⟨i1, i2⟩ := pair_spF hf h i k (by omega)
    obtain ⟨t1, t2⟩ := pair_touch hf h (k := k) (by omega) i
    unfold SpF mkP
    rw [t1, t2, i1, i2]
    exact ⟨rfl, rfl⟩
/-! ### What alloc.Of makes of spans that go together -/
structure Twin (st st' : PS) : Prop where
  wh : ∀ i : Nat, st'.wh (2 * i) = st.wh i
  sl : st'.sl = st.sl
  ac : st'.ac = st.ac.map (2 * ·)
theorem dbl_nat {x : Int} (h : 0 ≤ x) : (2 * x).toNat = 2 * x.toNat := by omega
theorem still_tw {s s' : Nat → Int × Int} (hs : ∀ i, s' (2 * i) = s i) {v : Int} (hv : 0 ≤ v) : ∀ (ac : List Int), (∀ x ∈ ac, 0 ≤ x) → still s' (2 * v) (ac.map (2 * ·)) = (still s v ac).map (2 * ·)
  | [], _ => rfl
  | x :: ac, h => by
    have ih := still_tw hs hv ac (fun y hy => h y (by simp [hy]))
    have hx := h x (by simp)
    unfold still at ih ⊢
    simp only [List.map_cons, List.filter_cons, dbl_nat hx, dbl_nat hv, hs] at ih ⊢
    split
    · simp only [List.map_cons, ih]
    · exact ih
theorem regs_tw {wh wh' : Nat → Int} (hw : ∀ i : Nat, wh' (2 * i) = wh i) : ∀ (ac : List Int), (∀ x ∈ ac, 0 ≤ x) → regs wh' (ac.map (2 * ·)) = regs wh ac
  | [], _ => rfl
  | x :: ac, h => by
    have ih := regs_tw hw ac (fun y hy => h y (by simp [hy]))
    unfold regs at ih ⊢
    simp only [List.map_cons, dbl_nat (h x (by simp)), hw, ih]
theorem last_tw {s s' : Nat → Int × Int} (hs : ∀ i, s' (2 * i) = s i) : ∀ (ac : List Int) (v : Int), 0 ≤ v → (∀ x ∈ ac, 0 ≤ x) → lastOf s' (2 * v) (ac.map (2 * ·)) = 2 * lastOf s v ac
  | [], v, _, _ => rfl
  | x :: ac, v, hv, h => by
    have hx := h x (by simp)
    have e : lastStep s' (2 * v) (2 * x) = 2 * lastStep s v x := by
      unfold lastStep
      rw [dbl_nat hx, dbl_nat hv, hs, hs]
      split <;> rfl
    have h0 : 0 ≤ lastStep s v x := by
      unfold lastStep
      split <;> omega
    unfold lastOf
    rw [List.map_cons, List.foldl_cons, List.foldl_cons, e]
    exact last_tw hs ac (lastStep s v x) h0 (fun y hy => h y (by simp [hy]))
theorem put_tw {wh wh' : Nat → Int} (hw : ∀ i : Nat, wh' (2 * i) = wh i) (v : Nat) (x : Int) : ∀ i : Nat, put1 wh' (2 * v) x (2 * i) = put1 wh v x i := fun i => by
  unfold put1
  by_cases e : i = v
  · subst e; simp
  · have : ¬ 2 * i = 2 * v := by omega
    simp [e, this, hw]
theorem step_tw {s s' : Nat → Int × Int} (hs : ∀ i, s' (2 * i) = s i) {st st' : PS} (h : Twin st st') {v : Int} (hv : 0 ≤ v) (hac : ∀ x ∈ st.ac, 0 ≤ x) : Twin (stepA s st v) (stepA s' st' (2 * v)) := by
  obtain ⟨h1, h2, h3⟩ := h
  have hst : ∀ x ∈ still s v st.ac, 0 ≤ x := fun x hx => hac x (List.mem_filter.1 hx).1
  have hla : 0 ≤ lastOf s v (still s v st.ac) := by
    rcases lastOf_mem (s := s) (still s v st.ac) v with h | h
    · rw [h]; exact hv
    · exact hst _ h
  have hfil : ((still s v st.ac).map (2 * ·)).filter (fun x => !decide (x = 2 * lastOf s v (still s v st.ac))) = ((still s v st.ac).filter (fun x => !decide (x = lastOf s v (still s v st.ac)))).map (2 * ·) := by
    rw [List.filter_map]
    congr 1
    refine List.filter_congr fun x _ => ?_
    have : (2 * x = 2 * lastOf s v (still s v st.ac)) ↔ (x = lastOf s v (still s v st.ac)) := by omega
    simp [this]
  have hlv : (2 * lastOf s v (still s v st.ac) = 2 * v) ↔ (lastOf s v (still s v st.ac) = v) := by omega
  unfold stepA
  simp only [h3, still_tw hs hv st.ac hac, regs_tw h1 _ hst, last_tw hs _ v hv hst, h2, dbl_nat hv, dbl_nat hla, hlv, hfil, h1]
  split
  · exact ⟨put_tw h1 _ _, rfl, by simp⟩
  · split
    · exact ⟨put_tw h1 _ _, rfl, rfl⟩
    · exact ⟨put_tw (put_tw h1 _ _) _ _, rfl, by simp⟩
theorem fold_tw {s s' : Nat → Int × Int} (hs : ∀ i, s' (2 * i) = s i) : ∀ (L : List Int) (st st' : PS), Twin st st' → (∀ x ∈ L, 0 ≤ x) → (∀ x ∈ st.ac, 0 ≤ x) → Twin (L.foldl (stepA s) st) ((L.map (2 * ·)).foldl (stepA s') st')
  | [], st, st', h, _, _ => h
  | v :: L, st, st', h, hL, hac => by
    have hv := hL v (by simp)
    refine fold_tw hs L _ _ (step_tw hs h hv hac) (fun x hx => hL x (by simp [hx])) (fun x hx => ?_)
    unfold stepA at hx
    simp only at hx
    have hst : ∀ x ∈ still s v st.ac, 0 ≤ x := fun x hx => hac x (List.mem_filter.1 hx).1
    split at hx
    · simp only [List.mem_append, List.mem_singleton] at hx
      rcases hx with hx | rfl
      · exact hst x hx
      · exact hv
    · split at hx
      · exact hst x hx
      · simp only [List.mem_append, List.mem_singleton] at hx
        rcases hx with hx | rfl
        · exact hst x (List.mem_filter.1 hx).1
        · exact hv
theorem filter_nums_tw {q q' : Int → Bool} (h : ∀ x : Int, 0 ≤ x → q' (2 * x) = q x) (h' : ∀ x : Int, 0 ≤ x → q' (2 * x + 1) = false) : ∀ (n : Nat), (nums (2 * n)).filter q' = ((nums n).filter q).map (2 * ·)
  | 0 => rfl
  | n + 1 => by
    rw [show 2 * (n + 1) = 2 * n + 1 + 1 by omega, nums_succ, nums_succ, nums_succ, List.filter_append, List.filter_append, List.filter_append, filter_nums_tw h h' n, List.map_append]
    have e1 : q' ((2 * n : Nat) : Int) = q (n : Int) := by
      rw [show ((2 * n : Nat) : Int) = 2 * (n : Int) by omega]
      exact h _ (by omega)
    have e2 : q' ((2 * n + 1 : Nat) : Int) = false := by
      rw [show ((2 * n + 1 : Nat) : Int) = 2 * (n : Int) + 1 by omega]
      exact h' _ (by omega)
    simp only [List.filter_cons, List.filter_nil, e1, e2, Bool.false_eq_true, if_false, List.append_nil]
    split
    · simp
    · simp
theorem filter_nums_lt {q : Int → Bool} {n m : Nat} (hm : n ≤ m) (h : ∀ x : Int, n ≤ x → x < m → q x = false) : (nums m).filter q = (nums n).filter q := by
  obtain ⟨d, rfl⟩ : ∃ d, m = n + d := ⟨m - n, by omega⟩
  clear hm
  induction d with
  | zero => rfl
  | succ d ih =>
    have e := h ((n + d : Nat) : Int) (by omega) (by omega)
    rw [← Nat.add_assoc, nums_succ, List.filter_append, ih (fun x h1 h2 => h x h1 (by omega)), List.filter_cons, e]
    simp
/-- Places of values that are named otherwise. -/
theorem alloc_tw {s s' : Nat → Int × Int} {nv nv' n : Nat} (hs : ∀ i, s' (2 * i) = s i) (hs' : ∀ i, s' (2 * i + 1) = (-1, -1)) (h1 : nv' ≤ 2 * nv) (h2 : ∀ i, i < nv → 2 * i < nv') : Twin (allocF s nv n) (allocF s' nv' n) := by
  have key : ordOf s' nv' n = (ordOf s nv n).map (2 * ·) := by
    unfold ordOf
    rw [List.map_flatMap]
    refine flat_congr fun k _ => ?_
    have q1 : ∀ x : Int, 0 ≤ x → decide (keyS s' (2 * x) = (k : Int)) = decide (keyS s x = (k : Int)) := fun x hx => by
      unfold keyS
      rw [dbl_nat hx, hs]
    have q2 : ∀ x : Int, 0 ≤ x → decide (keyS s' (2 * x + 1) = (k : Int)) = false := fun x hx => by
      unfold keyS
      rw [show (2 * x + 1).toNat = 2 * x.toNat + 1 by omega, hs']
      rw [decide_eq_false_iff_not]
      show ¬ (-1 : Int) = (k : Int)
      omega
    rw [← filter_nums_tw (q := fun x => decide (keyS s x = (k : Int))) (q' := fun x => decide (keyS s' x = (k : Int))) q1 q2 nv]
    refine (filter_nums_lt h1 fun x hx hlt => ?_).symm
    by_cases e : x % 2 = 0
    · obtain ⟨y, rfl⟩ : ∃ y, x = 2 * y := ⟨x / 2, by omega⟩
      have := h2 y.toNat (by omega)
      omega
    · obtain ⟨y, rfl⟩ : ∃ y, x = 2 * y + 1 := ⟨x / 2, by omega⟩
      exact q2 y (by omega)
  unfold allocF
  rw [key]
  exact fold_tw hs _ _ _ ⟨fun _ => rfl, rfl, rfl⟩ (fun x hx => (mem_ordOf hx).1) (by simp)
/-! ### How many values there are -/
def dbl (n : Int) : Int := if n ≤ 0 then 0 else 2 * n - 1
theorem mx_dbl {n u : Int} (hn : 0 ≤ n) (hu : 0 ≤ u) : mx (dbl n) (2 * u + 1) = dbl (mx n (u + 1)) ∧ 0 ≤ mx n (u + 1) := by
  unfold mx dbl
  refine ⟨?_, by split <;> omega⟩
  repeat' split
  all_goals omega
theorem valU_dbl : ∀ (l : List Int) (n : Int), 0 ≤ n → (∀ u ∈ l, 0 ≤ u) → valU (dbl n) (l.map (2 * ·)) = dbl (valU n l) ∧ 0 ≤ valU n l
  | [], n, hn, _ => ⟨rfl, hn⟩
  | u :: l, n, hn, h => by
    obtain ⟨e1, e2⟩ := mx_dbl hn (h u (by simp))
    have := valU_dbl l (mx n (u + 1)) e2 (fun x hx => h x (by simp [hx]))
    unfold valU at this ⊢
    rw [List.map_cons, List.foldl_cons, List.foldl_cons, e1]
    exact this
theorem vals_dbl : ∀ (l : List S60) (n : Int), 0 ≤ n → (∀ c ∈ l, Few8 c) → (tw l).foldl valC (dbl n) = dbl (l.foldl valC n) ∧ 0 ≤ l.foldl valC n
  | [], n, hn, _ => ⟨rfl, hn⟩
  | c :: l, n, hn, h => by
    have hc := h c (by simp)
    have hd : 0 ≤ dv c := by
      unfold dv
      have := hc.2.1
      split <;> omega
    have key : valC (dbl n) (twC c) = dbl (valC n c) ∧ 0 ≤ valC n c := by
      unfold valC
      rw [tw_us hc, tw_db]
      cases hb : db c with
      | false =>
        simp only [Bool.false_eq_true, if_false]
        exact valU_dbl _ n hn (fun u hu => (few8_us hc u hu).1)
      | true =>
        obtain ⟨e1, e2⟩ := mx_dbl hn hd
        simp only [if_true, tw_dv c hb, e1]
        exact valU_dbl _ _ e2 (fun u hu => (few8_us hc u hu).1)
    have := vals_dbl l (valC n c) key.2 (fun x hx => h x (by simp [hx]))
    unfold tw at this ⊢
    rw [List.map_cons, List.foldl_cons, List.foldl_cons, key.1]
    exact this
end Go.Proofs.Ythboknkpgbfmoaa.PA
