/- Codes that set k values and tell them, round by round: where alloc.Of lays them. -/
import Derived.Test.YthboknkpgbfmoaaLin
import Derived.Test.YthboknkpgbfmoaaAgr
namespace Go.Proofs.Ythboknkpgbfmoaa.PA
open Go.RowKit Go.Proofs.YthboknkpgbfmoaaW.PrintWords
set_option linter.unusedVariables false
set_option linter.unusedSimpArgs false

theorem two_parts {m i j i' j' : Nat} (h : i * m + j = i' * m + j') (hj : j < m) (hj' : j' < m) : i = i' ∧ j = j' := by
  have h1 : (i * m + j) / m = i := by rw [Nat.mul_comm, Nat.mul_add_div (by omega), Nat.div_eq_of_lt hj]; omega
  have h2 : (i' * m + j') / m = i' := by rw [Nat.mul_comm, Nat.mul_add_div (by omega), Nat.div_eq_of_lt hj']; omega
  have e : i = i' := by rw [← h1, ← h2, h]
  subst e
  exact ⟨rfl, by omega⟩
theorem parts {m : Nat} (h : 0 < m) (v : Nat) : ∃ i j, v = i * m + j ∧ j < m := ⟨v / m, v % m, by rw [Nat.mul_comm]; exact (Nat.div_add_mod v m).symm, Nat.mod_lt v h⟩
theorem div_parts {m i j : Nat} (hj : j < m) : (i * m + j) / m = i ∧ (i * m + j) % m = j := by
  refine ⟨by rw [Nat.mul_comm, Nat.mul_add_div (by omega), Nat.div_eq_of_lt hj]; omega, by rw [Nat.mul_comm, Nat.mul_add_mod, Nat.mod_eq_of_lt hj]⟩
theorem parts_lt {m i j R : Nat} (hj : j < m) : i * m + j < R * m ↔ i < R := by
  constructor
  · intro h
    rcases Nat.lt_or_ge i R with q | q
    · exact q
    · have := Nat.mul_le_mul_right m q
      omega
  · intro h
    have h1 : (i + 1) * m ≤ R * m := Nat.mul_le_mul_right m h
    rw [Nat.add_mul] at h1
    omega
def setC (v : Int) : S60 := ⟨0, 0, v, 0, 0, 0, 0, 0⟩
def tellC (v : Int) : S60 := ⟨12, 0, 0, v, 0, 0, 0, 0⟩
/-- The code at a place: k values are set, then told. -/
def patAt (k p : Nat) : S60 := if p % (2 * k) < k then setC ((p / (2 * k) * k + p % (2 * k) : Nat) : Int) else tellC ((p / (2 * k) * k + (p % (2 * k) - k) : Nat) : Int)
def patL (k m : Nat) : List S60 := (List.range m).map (patAt k)
def patH (k R : Nat) : List S60 := patL k (R * (2 * k)) ++ [haltC]
theorem patAt_set {k i j : Nat} (hj : j < k) : patAt k (i * (2 * k) + j) = setC ((i * k + j : Nat) : Int) := by
  obtain ⟨e1, e2⟩ := div_parts (m := 2 * k) (i := i) (j := j) (by omega)
  unfold patAt
  rw [e1, e2, if_pos hj]
theorem patAt_tell {k i j : Nat} (hj : j < k) : patAt k (i * (2 * k) + k + j) = tellC ((i * k + j : Nat) : Int) := by
  rw [Nat.add_assoc]
  obtain ⟨e1, e2⟩ := div_parts (m := 2 * k) (i := i) (j := k + j) (by omega)
  unfold patAt
  rw [e1, e2, if_neg (by omega), show k + j - k = j by omega]
theorem patL_succ (k m : Nat) : patL k (m + 1) = patL k m ++ [patAt k m] := by
  unfold patL
  rw [List.range_succ, List.map_append]
  rfl
theorem patH_len (k R : Nat) : (patH k R).length = R * (2 * k) + 1 := by simp [patH, patL]
theorem patH_at {k R p : Nat} (hp : p < R * (2 * k)) : cAt (patH k R) p = patAt k p := by
  unfold cAt patH patL
  rw [List.getD_eq_getElem?_getD, List.getElem?_append_left (by simpa using hp)]
  simp [hp]
theorem patH_end (k R : Nat) : cAt (patH k R) (R * (2 * k)) = haltC := by
  unfold cAt patH patL
  rw [List.getD_eq_getElem?_getD, List.getElem?_append_right (by simp)]
  simp
def pa (k v : Nat) : Nat := v / k * (2 * k) + v % k
def pb (k v : Nat) : Nat := v / k * (2 * k) + k + v % k
theorem pa_at {k i j : Nat} (hj : j < k) : pa k (i * k + j) = i * (2 * k) + j ∧ pb k (i * k + j) = i * (2 * k) + k + j := by
  obtain ⟨e1, e2⟩ := div_parts (m := k) (i := i) (j := j) hj
  unfold pa pb
  rw [e1, e2]
  exact ⟨rfl, rfl⟩
theorem pat_straight {k R : Nat} (hk : 0 < k) : Straight (patH k R) (R * k) (pa k) (pb k) := by
  have place : ∀ p, p < (patH k R).length → p = R * (2 * k) ∧ cAt (patH k R) p = haltC ∨ ∃ i j, i < R ∧ j < k ∧ ((p = i * (2 * k) + j ∧ cAt (patH k R) p = setC ((i * k + j : Nat) : Int)) ∨ (p = i * (2 * k) + k + j ∧ cAt (patH k R) p = tellC ((i * k + j : Nat) : Int))) := fun p hp => by
    rw [patH_len] at hp
    by_cases e : p = R * (2 * k)
    · exact .inl ⟨e, by rw [e]; exact patH_end k R⟩
    · right
      obtain ⟨i, j, rfl, hj⟩ := parts (m := 2 * k) (by omega) p
      have hi := (parts_lt hj).1 (by omega : i * (2 * k) + j < R * (2 * k))
      by_cases h : j < k
      · exact ⟨i, j, hi, h, .inl ⟨rfl, by rw [patH_at (by omega), patAt_set h]⟩⟩
      · refine ⟨i, j - k, hi, by omega, .inr ⟨by omega, ?_⟩⟩
        rw [patH_at (by omega), show i * (2 * k) + j = i * (2 * k) + k + (j - k) by omega, patAt_tell (by omega)]
  refine ⟨fun v hv => ?_, fun p hp => ?_, fun p v hp hv => ?_, fun p v hp hv => ?_⟩
  · obtain ⟨i, j, rfl, hj⟩ := parts hk v
    obtain ⟨e1, e2⟩ := pa_at (i := i) hj
    have hi := (parts_lt hj).1 hv
    rw [e1, e2, patH_len]
    have := (parts_lt (m := 2 * k) (i := i) (j := k + j) (R := R) (by omega)).2 hi
    omega
  · rcases place p hp with ⟨rfl, e⟩ | ⟨i, j, hi, hj, ⟨rfl, e⟩ | ⟨rfl, e⟩⟩
    · rw [e, patH_len]
      exact ⟨rfl, .inr rfl⟩
    · rw [e]
      exact ⟨by simp [jm, setC], .inl (by simp [go, setC])⟩
    · rw [e]
      exact ⟨by simp [jm, tellC], .inl (by simp [go, tellC])⟩
  · obtain ⟨i', j', rfl, hj'⟩ := parts hk v
    obtain ⟨e1, e2⟩ := pa_at (i := i') hj'
    have hi' := (parts_lt hj').1 hv
    have hlt := (parts_lt (m := 2 * k) (i := i') (j := j') (R := R) (by omega)).2 hi'
    rw [e1]
    rcases place p hp with ⟨rfl, e⟩ | ⟨i, j, hi, hj, ⟨rfl, e⟩ | ⟨rfl, e⟩⟩
    · rw [e]
      have : ¬ i' * (2 * k) + j' = R * (2 * k) := by omega
      simp [db, haltC, this]
    · rw [e, Bool.eq_iff_iff]
      simp only [db, dv, setC, true_or, decide_true, if_true, Bool.true_and, decide_eq_true_eq]
      constructor
      · intro h
        obtain ⟨rfl, rfl⟩ := two_parts (m := k) (by omega : i' * k + j' = i * k + j) hj' hj
        rfl
      · intro h
        obtain ⟨rfl, rfl⟩ := two_parts h (by omega) (by omega)
        rfl
    · rw [e, Bool.eq_iff_iff]
      simp only [db, tellC]
      constructor
      · intro h
        simp at h
      · intro h
        have h := of_decide_eq_true h
        rw [Nat.add_assoc] at h
        obtain ⟨rfl, h2⟩ := two_parts h (by omega) (by omega)
        omega
  · obtain ⟨i', j', rfl, hj'⟩ := parts hk v
    obtain ⟨e1, e2⟩ := pa_at (i := i') hj'
    have hi' := (parts_lt hj').1 hv
    have hlt := (parts_lt (m := 2 * k) (i := i') (j := k + j') (R := R) (by omega)).2 hi'
    rw [e2]
    rcases place p hp with ⟨rfl, e⟩ | ⟨i, j, hi, hj, ⟨rfl, e⟩ | ⟨rfl, e⟩⟩
    · rw [e]
      have : ¬ i' * (2 * k) + k + j' = R * (2 * k) := by omega
      simp [us, haltC, this]
    · rw [e, Bool.eq_iff_iff]
      simp only [us, setC]
      constructor
      · intro h
        simp at h
      · intro h
        have h := of_decide_eq_true h
        rw [Nat.add_assoc] at h
        obtain ⟨rfl, h2⟩ := two_parts h (by omega) (by omega)
        omega
    · rw [e, Bool.eq_iff_iff]
      have hu : us (tellC ((i * k + j : Nat) : Int)) = [((i * k + j : Nat) : Int)] := by simp [us, tellC]
      rw [hu]
      simp only [List.contains_eq_mem, List.mem_singleton, decide_eq_true_eq]
      constructor
      · intro h
        obtain ⟨rfl, rfl⟩ := two_parts (m := k) (by omega : i' * k + j' = i * k + j) hj' hj
        rfl
      · intro h
        rw [Nat.add_assoc, Nat.add_assoc] at h
        obtain ⟨rfl, h2⟩ := two_parts h (by omega) (by omega)
        omega
/-! ### The order, and what comes of it -/
theorem pa_mono {k v : Nat} (hk : 0 < k) : pa k v < pa k (v + 1) := by
  obtain ⟨i, j, rfl, hj⟩ := parts hk v
  rw [(pa_at hj).1]
  by_cases h : j + 1 < k
  · rw [Nat.add_assoc, (pa_at h).1]
    omega
  · have e : i * k + j + 1 = (i + 1) * k + 0 := by rw [Nat.add_mul]; omega
    rw [e, (pa_at hk).1, Nat.add_mul]
    omega
theorem nums_get (nv i : Nat) (h : i < nv) : (nums nv).getD i 0 = (i : Int) := by
  unfold nums
  simp [List.getD_eq_getElem?_getD, h]
theorem mono_le {f : Nat → Nat} (h : ∀ v, f v < f (v + 1)) : ∀ (d v : Nat), f v ≤ f (v + d)
  | 0, v => Nat.le_refl _
  | d + 1, v => Nat.le_trans (mono_le h d v) (Nat.le_of_lt (h (v + d)))
theorem nums_srt {s : Nat → Int × Int} {nv : Nat} {f : Nat → Nat} (h : ∀ v, f v < f (v + 1)) (hs : ∀ v, v < nv → (s v).1 = (f v : Int)) : Srt (keyS s) 0 nv nv (nums nv) := fun p q h1 h2 h3 h4 => by
  rw [nums_get nv p (by omega), nums_get nv q h3]
  unfold keyS
  rw [Int.toNat_natCast, Int.toNat_natCast, hs p (by omega), hs q h3]
  have := mono_le h (q - p) p
  rw [show p + (q - p) = q by omega] at this
  omega
theorem nums_all {s : Nat → Int × Int} {nv : Nat} {f : Nat → Nat} (hs : ∀ v, v < nv → (s v).1 = (f v : Int)) : ((nums nv).filter fun x => decide (keyS s x ≥ 0)) = nums nv := by
  refine List.filter_eq_self.2 fun x hx => ?_
  obtain ⟨h0, h1⟩ := mem_nums.1 hx
  unfold keyS
  rw [hs x.toNat (by omega)]
  simp
theorem ord_nums {s : Nat → Int × Int} {nv n : Nat} {f : Nat → Nat} (h : ∀ v, f v < f (v + 1)) (hs : ∀ v, v < nv → (s v).1 = (f v : Int)) (hn : ∀ v, v < nv → f v < n) : ordOf s nv n = nums nv := by
  have hsr := nums_srt h hs
  refine (ord_unique (s := s) (nv := nv) (n := n) (c := nums nv) (fun i hi => by rw [hs i hi]; have := hn i hi; omega) ?_ (by rw [nums_len]; exact hsr)).symm
  rw [nums_all hs]
  exact ⟨rfl, fun _ => rfl⟩
/-- Where value v is. -/
def whP (k v : Nat) : Int := if v % k < 5 then ((v % k : Nat) : Int) else -(((v / k * (k - 5) + (v % k - 5) : Nat) : Int) + 1)
def slP (k v : Nat) : Nat := v / k * (k - 5) + (v % k - 5)
/-- What is so when all values up to j of round i have places. -/
def InvP (k i j : Nat) (st : PS) : Prop := (∀ v, v < i * k + j + 1 → st.wh v = whP k v) ∧ st.sl = i * (k - 5) + (j + 1 - 5) ∧ st.ac = (List.range (min (j + 1) 5)).map fun t => ((i * k + t : Nat) : Int)
theorem whP_at {k i j : Nat} (hj : j < k) : whP k (i * k + j) = if j < 5 then (j : Int) else -(((i * (k - 5) + (j - 5) : Nat) : Int) + 1) := by
  obtain ⟨e1, e2⟩ := div_parts (m := k) (i := i) (j := j) hj
  unfold whP
  rw [e1, e2]
theorem regs_range {wh : Nat → Int} {i k m : Nat} (h : ∀ t, t < m → wh (i * k + t) = (t : Int)) : regs wh ((List.range m).map fun t => ((i * k + t : Nat) : Int)) = (List.range m).map Int.ofNat := by
  unfold regs
  rw [List.map_map]
  refine List.map_congr_left fun t ht => ?_
  simp only [Function.comp, Int.toNat_natCast]
  exact h t (List.mem_range.1 ht)
theorem regOf_range (m : Nat) : regOf ((List.range m).map Int.ofNat) = m := by
  refine regOf_eq (fun j hj => List.mem_map.2 ⟨j, List.mem_range.2 hj, rfl⟩) (fun h => ?_)
  obtain ⟨j, hj, e⟩ := List.mem_map.1 h
  have := List.mem_range.1 hj
  have : (j : Int) = (m : Int) := e
  omega
theorem lastOf_self {s : Nat → Int × Int} {v : Int} : ∀ (ac : List Int), (∀ x ∈ ac, (s x.toNat).2 ≤ (s v.toNat).2) → lastOf s v ac = v
  | [], _ => rfl
  | x :: ac, h => by
    have h1 := h x (by simp)
    have e : lastStep s v x = v := by
      unfold lastStep
      rw [if_neg (by omega)]
    unfold lastOf
    rw [List.foldl_cons, e]
    exact lastOf_self ac (fun y hy => h y (by simp [hy]))
/-- One value more, where what is still active is known. -/
theorem step_pat {s : Nat → Int × Int} {k i j : Nat} {st : PS} {v : Int} (hj : j < k) (hv : v = ((i * k + j : Nat) : Int)) (hwh : ∀ v, v < i * k + j → st.wh v = whP k v) (hsl : st.sl = i * (k - 5) + (j - 5))
    (hst : still s v st.ac = (List.range (min j 5)).map fun t => ((i * k + t : Nat) : Int)) (hla : ∀ t, t < j → (s (i * k + t)).2 ≤ (s (i * k + j)).2) : InvP k i j (stepA s st v) := by
  subst hv
  have hr : regOf (regs st.wh (still s ((i * k + j : Nat) : Int) st.ac)) = min j 5 := by
    rw [hst, regs_range (fun t ht => ?_), regOf_range]
    rw [hwh _ (by omega), whP_at (by omega), if_pos (by omega)]
  have hlast : lastOf s ((i * k + j : Nat) : Int) (still s ((i * k + j : Nat) : Int) st.ac) = ((i * k + j : Nat) : Int) := by
    rw [hst]
    refine lastOf_self _ fun x hx => ?_
    obtain ⟨t, ht, rfl⟩ := List.mem_map.1 hx
    have := List.mem_range.1 ht
    rw [Int.toNat_natCast, Int.toNat_natCast]
    exact hla t (by omega)
  rw [hst] at hr hlast
  unfold stepA
  simp only [hst, hr, hlast, if_true, Int.toNat_natCast]
  by_cases h5 : j < 5
  · rw [if_pos (by omega)]
    refine ⟨fun v hv => ?_, by simp only [hsl]; omega, ?_⟩
    · simp only
      by_cases e : v = i * k + j
      · subst e
        rw [put1_same, whP_at hj, if_pos h5]
        omega
      · rw [put1_other _ e]
        exact hwh v (by omega)
    · simp only
      rw [show min j 5 = j by omega, show min (j + 1) 5 = j + 1 by omega, List.range_succ, List.map_append]
      rfl
  · rw [if_neg (by omega)]
    refine ⟨fun v hv => ?_, by simp only [hsl]; omega, ?_⟩
    · simp only
      by_cases e : v = i * k + j
      · subst e
        rw [put1_same, whP_at hj, if_neg h5, hsl]
      · rw [put1_other _ e]
        exact hwh v (by omega)
    · simp only
      rw [show min (j + 1) 5 = min j 5 by omega]
theorem still_pat {s : Nat → Int × Int} {k i : Nat} {v : Int} {m : Nat} (h : ∀ t, t < m → (s v.toNat).1 ≤ (s (i * k + t)).2) : still s v ((List.range m).map fun t => ((i * k + t : Nat) : Int)) = (List.range m).map fun t => ((i * k + t : Nat) : Int) := by
  unfold still
  refine List.filter_eq_self.2 fun x hx => ?_
  obtain ⟨t, ht, rfl⟩ := List.mem_map.1 hx
  have := h t (List.mem_range.1 ht)
  rw [Int.toNat_natCast]
  simp
  omega
theorem still_none {s : Nat → Int × Int} {k i : Nat} {v : Int} {m : Nat} (h : ∀ t, t < m → (s (i * k + t)).2 < (s v.toNat).1) : still s v ((List.range m).map fun t => ((i * k + t : Nat) : Int)) = [] := by
  unfold still
  refine List.filter_eq_nil_iff.2 fun x hx => ?_
  obtain ⟨t, ht, rfl⟩ := List.mem_map.1 hx
  have := h t (List.mem_range.1 ht)
  rw [Int.toNat_natCast]
  simp
  omega
theorem pat_fold {s : Nat → Int × Int} {k nv : Nat} (hk : 0 < k) (hs : ∀ v, v < nv → s v = ((pa k v : Int), (pb k v : Int))) : ∀ (v : Nat), v < nv → InvP k (v / k) (v % k) ((nums (v + 1)).foldl (stepA s) init0)
  | 0, hv => by
    rw [Nat.zero_div, Nat.zero_mod]
    show InvP k 0 0 (stepA s init0 0)
    exact step_pat hk (by omega) (fun u hu => by omega) (by simp [init0]) rfl (fun t ht => by omega)
  | v + 1, hv => by
    have ih := pat_fold hk hs v (by omega)
    obtain ⟨i, j, e, hj⟩ := parts hk (v + 1)
    obtain ⟨d1, d2⟩ := div_parts (m := k) (i := i) (j := j) hj
    rw [← e] at d1 d2
    rw [d1, d2, nums_succ, List.foldl_append]
    have hkey : ∀ i' j', j' < k → i' * k + j' < nv → s (i' * k + j') = (((i' * (2 * k) + j' : Nat) : Int), ((i' * (2 * k) + k + j' : Nat) : Int)) := fun i' j' h1 h2 => by
      rw [hs _ h2, (pa_at h1).1, (pa_at h1).2]
    simp only [List.foldl_cons, List.foldl_nil]
    match j, e with
    | j + 1, e =>
      obtain ⟨d3, d4⟩ := div_parts (m := k) (i := i) (j := j) (by omega)
      have e1 : v = i * k + j := by omega
      rw [← e1] at d3 d4
      rw [d3, d4] at ih
      obtain ⟨q1, q2, q3⟩ := ih
      refine step_pat hj (by rw [e]) (fun u hu => q1 u (by omega)) (by rw [q2]) ?_ (fun t ht => ?_)
      · rw [q3]
        refine still_pat fun t ht => ?_
        rw [Int.toNat_natCast, e, hkey i (j + 1) hj (by omega), hkey i t (by omega) (by omega)]
        simp only
        omega
      · rw [hkey i (j + 1) hj (by omega), hkey i t (by omega) (by omega)]
        simp only
        omega
    | 0, e =>
      match i, e with
      | 0, e => omega
      | i + 1, e =>
        have e1 : v = i * k + (k - 1) := by rw [Nat.add_mul] at e; omega
        obtain ⟨d3, d4⟩ := div_parts (m := k) (i := i) (j := k - 1) (by omega)
        rw [← e1] at d3 d4
        rw [d3, d4] at ih
        obtain ⟨q1, q2, q3⟩ := ih
        refine step_pat hj (by rw [e]) (fun u hu => q1 u (by omega)) ?_ ?_ (fun t ht => by omega)
        · rw [q2, Nat.add_mul]
          omega
        · rw [q3]
          refine still_none fun t ht => ?_
          rw [Int.toNat_natCast, e, hkey (i + 1) 0 hj (by omega), hkey i t (by omega) (by omega)]
          simp only
          rw [Nat.add_mul]
          omega
/-- What alloc.Of answers of such codes. -/
theorem pat_alloc {k R : Nat} (hk : 0 < k) {P : Nat → Int → Bool} (hP : Lives (patH k R) P) :
    (∀ v, v < R * k → (allocF (SpF (patH k R) P (patH k R).length) (R * k) (patH k R).length).wh v = whP k v) ∧ (allocF (SpF (patH k R) P (patH k R).length) (R * k) (patH k R).length).sl = R * (k - 5) := by
  have hst := pat_straight (R := R) hk
  have hs : ∀ v, v < R * k → SpF (patH k R) P (patH k R).length v = ((pa k v : Int), (pb k v : Int)) := fun v hv => straight_spans hst hP v hv
  have ho := ord_nums (s := SpF (patH k R) P (patH k R).length) (nv := R * k) (n := (patH k R).length) (f := pa k) (fun v => pa_mono hk) (fun v hv => by rw [hs v hv]) (fun v hv => by have := hst.ab v hv; omega)
  unfold allocF
  rw [ho]
  cases hR : R * k with
  | zero =>
    refine ⟨fun v hv => by omega, ?_⟩
    have : R = 0 := by
      rcases Nat.mul_eq_zero.1 hR with h | h
      · exact h
      · omega
    subst this
    simp [nums]
  | succ m =>
    rw [hR] at hs
    have := pat_fold hk hs m (by omega)
    obtain ⟨q1, q2, q3⟩ := this
    have e : m / k * k + m % k + 1 = m + 1 := by
      rw [Nat.mul_comm, Nat.div_add_mod]
    rw [e] at q1
    refine ⟨q1, ?_⟩
    have hm : m = (R - 1) * k + (k - 1) := by
      have h1 : 0 < R := by
        rcases Nat.eq_zero_or_pos R with h | h
        · subst h; simp at hR
        · exact h
      have h2 : R * k = (R - 1) * k + k := by
        rw [← Nat.succ_mul]
        congr 1
        omega
      omega
    obtain ⟨d1, d2⟩ := div_parts (m := k) (i := R - 1) (j := k - 1) (by omega)
    rw [← hm] at d1 d2
    have h1 : 0 < R := by
      rcases Nat.eq_zero_or_pos R with h | h
      · subst h; simp at hR
      · exact h
    have h3 : R * (k - 5) = (R - 1) * (k - 5) + (k - 5) := by
      rw [← Nat.succ_mul]
      congr 1
      omega
    show (List.foldl (stepA _) init0 _).sl = _
    rw [q2, d1, d2, h3]
    omega
theorem pat_sorted {k R : Nat} (hk : 0 < k) {P : Nat → Int → Bool} (hP : Lives (patH k R) P) : Srt (keyS (SpF (patH k R) P (patH k R).length)) 0 ((nums (R * k)).filter fun x => decide (keyS (SpF (patH k R) P (patH k R).length) x ≥ 0)).length ((nums (R * k)).filter fun x => decide (keyS (SpF (patH k R) P (patH k R).length) x ≥ 0)).length ((nums (R * k)).filter fun x => decide (keyS (SpF (patH k R) P (patH k R).length) x ≥ 0)) := by
  have hst := pat_straight (R := R) hk
  have hs : ∀ v, v < R * k → (SpF (patH k R) P (patH k R).length v).1 = (pa k v : Int) := fun v hv => by rw [straight_spans hst hP v hv]
  rw [nums_all hs, nums_len]
  exact nums_srt (f := pa k) (fun v => pa_mono hk) hs
theorem pat_code {k R : Nat} (hk : 0 < k) {c : S60} (hc : c ∈ patH k R) : c = haltC ∨ ∃ v, v < R * k ∧ (c = setC (v : Int) ∨ c = tellC (v : Int)) := by
  unfold patH at hc
  rcases List.mem_append.1 hc with hc | hc
  · right
    obtain ⟨p, hp, rfl⟩ := List.mem_map.1 hc
    have hp := List.mem_range.1 hp
    obtain ⟨i, j, rfl, hj⟩ := parts (m := 2 * k) (by omega) p
    have hi := (parts_lt hj).1 hp
    by_cases h : j < k
    · exact ⟨i * k + j, (parts_lt h).2 hi, .inl (patAt_set h)⟩
    · refine ⟨i * k + (j - k), (parts_lt (by omega)).2 hi, .inr ?_⟩
      rw [show i * (2 * k) + j = i * (2 * k) + k + (j - k) by omega]
      exact patAt_tell (by omega)
  · exact .inl (by simpa using hc)
theorem pat_vals {k R : Nat} (hk : 0 < k) : valsOf (patH k R) = ((R * k : Nat) : Int) := by
  have hb : ∀ c ∈ patH k R, (db c = true → dv c + 1 ≤ ((R * k : Nat) : Int)) ∧ ∀ u ∈ us c, u + 1 ≤ ((R * k : Nat) : Int) := fun c hc => by
    rcases pat_code hk hc with rfl | ⟨v, hv, rfl | rfl⟩
    · exact ⟨fun h => by simp [db, haltC] at h, fun u hu => by simp [us, haltC] at hu⟩
    · exact ⟨fun _ => by simp [dv, setC]; omega, fun u hu => by simp [us, setC] at hu⟩
    · exact ⟨fun h => by simp [db, tellC] at h, fun u hu => by simp [us, tellC] at hu; omega⟩
  obtain ⟨q0, q1, q2, q3⟩ := vals_bd (N := ((R * k : Nat) : Int)) (patH k R) 0 (Int.le_refl _) (by omega) hb
  have hge : ((R * k : Nat) : Int) ≤ valsOf (patH k R) := by
    cases hR : R * k with
    | zero => exact q0
    | succ m =>
      have hst := pat_straight (R := R) hk
      have hab := hst.ab m (by omega)
      have hp : pa k m < (patH k R).length := by omega
      have hin : cAt (patH k R) (pa k m) ∈ patH k R := by
        unfold cAt
        rw [List.getD_eq_getElem?_getD, List.getElem?_eq_getElem hp]
        exact List.getElem_mem hp
      have h1 := hst.sets (pa k m) m hp (by omega)
      simp only [decide_true, Bool.and_eq_true, decide_eq_true_eq] at h1
      have h2 := (q3 _ hin).1 h1.1
      rw [← h1.2] at h2
      show ((m + 1 : Nat) : Int) ≤ List.foldl valC 0 (patH k R)
      omega
  have : valsOf (patH k R) ≤ ((R * k : Nat) : Int) := q1
  omega
theorem pat_fit {k R : Nat} (hk : 0 < k) (h1 : R * (2 * k) ≤ 900) (h2 : R * k ≤ 200) (h3 : R * k < 20 ∨ SortOK) : ∃ K, Fit (patH k R) K (R * k) := by
  have hl : (patH k R).length ≤ 1000 := by rw [patH_len]; omega
  have hok : ∀ c ∈ patH k R, Okv c ∧ ∀ u ∈ us c, 0 ≤ u ∧ u ≤ 1000 := fun c hc => by
    rcases pat_code hk hc with rfl | ⟨v, hv, rfl | rfl⟩
    · exact ⟨⟨fun h => by simp [db, haltC] at h, fun u hu => by simp [us, haltC] at hu⟩, fun u hu => by simp [us, haltC] at hu⟩
    · exact ⟨⟨fun _ => by simp [dv, setC]; omega, fun u hu => by simp [us, setC] at hu⟩, fun u hu => by simp [us, setC] at hu⟩
    · exact ⟨⟨fun h => by simp [db, tellC] at h, fun u hu => by simp [us, tellC] at hu; omega⟩, fun u hu => by simp [us, tellC] at hu; omega⟩
  obtain ⟨K, hK⟩ := (vals_eq (patH k R) hl (fun c hc => (hok c hc).1)).ex
  rw [pat_vals hk] at hK
  exact ⟨K, hl, fun c hc u hu => by have := (hok c hc).2 u hu; obtain ⟨n, rfl⟩ := Int.eq_ofNat_of_zero_le this.1; exact wf_small n (by omega), hK, h2, h3.elim .inl (fun h => .inr ⟨h, fun P hP => pat_sorted hk hP⟩)⟩
end Go.Proofs.Ythboknkpgbfmoaa.PA
