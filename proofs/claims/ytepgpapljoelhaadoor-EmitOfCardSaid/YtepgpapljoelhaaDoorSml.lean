/- What law13's Small makes of codes, and how many values such codes have. -/
import Derived.Test.YtepgpapljoelhaaDoorCod
import Derived.Test.YtepgpapljoelhaaDoorPEx6
namespace Go.Proofs.YtepgpapljoelhaaDoor.PE
open Go.RowKit Go.Proofs.YtepgpapljoelhaaDoorW.PrintWords
set_option linter.unusedVariables false
set_option linter.unusedSimpArgs false

def rs (a b : Int) : Int := Int.tmod (wrap64 (Int.tmod a b + b)) b
theorem rs_eq {a b : Int} (h : b ≠ 0) : tautochronelaw13_rest.f a b = some (rs a b) := by
  unfold tautochronelaw13_rest.f rs
  rw [if_neg h]
theorem rs_range (a b : Int) (h0 : 0 < b) (h1 : b ≤ 1000) : 0 ≤ rs a b ∧ rs a b < b := by
  have h2 := Int.tmod_lt_of_pos a h0
  have h3 : -b < Int.tmod a b := by
    have := Int.tmod_lt_of_pos (-a) h0
    rw [Int.neg_tmod] at this
    omega
  unfold rs
  rw [w64 (by omega) (by omega)]
  exact ⟨Int.tmod_nonneg _ (by omega), Int.tmod_lt_of_pos _ h0⟩
/-- A code of few values. -/
def smC (x4 : Int) (c : S37) : S37 := ⟨rs c.f0 14, rs c.f1 10, rs c.f2 8, if Int.tmod c.f6 3 = 0 ∧ (rs c.f0 14 = 4 ∨ rs c.f0 14 = 5) then -1 else rs c.f3 8, rs c.f4 8, rs c.f5 8, Int.tmod c.f6 8, rs c.f7 (wrap64 (x4 + 1))⟩
def haltC : S37 := ⟨13, 0, 0, 0, 0, 0, 0, 0⟩
theorem small_l0 (x4 : Int) (raw : List S37) (h4 : 0 ≤ x4) (h5 : x4 ≤ 30) (hr : raw.length ≤ 30) : ∀ (m i : Nat) (acc : List S37), i + m = raw.length → acc.length ≤ i →
    Evt (fun k => tautochronelaw13_Small.l0 k acc x4 raw (raw.length : Int) (i : Int)) (acc ++ (raw.drop i).map (smC x4) ++ [haltC])
  | 0, i, acc, hi, ha => by
    refine Evt.succ (g := fun k => some (acc ++ [haltC])) (fun k => ?_) ?_
    · unfold tautochronelaw13_Small.l0
      rw [if_neg (by omega), if_pos (by omega)]
      rfl
    · rw [List.drop_of_length_le (by omega)]
      exact Evt.const fun k => by simp
  | m + 1, i, acc, hi, ha => by
    have hlt : i < raw.length := by omega
    have hw : wrap64 ((i : Int) + 1) = ((i + 1 : Nat) : Int) := by rw [w64 (by omega) (by omega)]; omega
    have hw4 : wrap64 (x4 + 1) = x4 + 1 := w64 (by omega) (by omega)
    have ih := small_l0 x4 raw h4 h5 hr m (i + 1) (acc ++ [smC x4 raw[i]]) (by omega) (by simp; omega)
    have hd : acc ++ (raw.drop i).map (smC x4) ++ [haltC] = acc ++ [smC x4 raw[i]] ++ (raw.drop (i + 1)).map (smC x4) ++ [haltC] := by
      rw [List.drop_eq_getElem_cons hlt]
      simp only [List.map_cons, List.append_assoc, List.cons_append, List.nil_append]
    rw [hd]
    refine Evt.succ (fun k => ?_) ih
    have hrd : rd_T37 raw (i : Int) = raw[i] := rdT_at raw i hlt
    conv => lhs; unfold tautochronelaw13_Small.l0
    rw [if_pos (by omega), if_pos (by omega), if_pos (by omega), hrd, hw, rs_eq (by omega), rs_eq (by omega), rs_eq (by omega), rs_eq (by omega), rs_eq (by omega), rs_eq (by omega), rs_eq (b := wrap64 (x4 + 1)) (by rw [hw4]; omega)]
    simp only [Option.bind_some]
    have hal : acc.length < 2199023255552 := by omega
    by_cases h1 : Int.tmod raw[i].f6 3 = 0
    · by_cases h2 : rs raw[i].f0 14 = 4
      · simp only [h1, h2, hal, if_true, smC, true_or, and_self]
      · by_cases h3 : rs raw[i].f0 14 = 5
        · simp only [h1, h2, h3, hal, if_true, smC, or_true, and_self]
          rfl
        · simp only [h1, h2, h3, hal, if_true, if_false, smC, or_self, and_false]
    · simp only [h1, hal, if_true, if_false, smC, false_and]
/-- The codes that Small makes. -/
def smallOf (raw : List S37) : List S37 := (raw.take 30).map (smC (mn (raw.length : Int) 30)) ++ [haltC]
theorem small_eq (raw : List S37) : Evt (fun k => tautochronelaw13_Small.f k raw) (smallOf raw) := by
  have hm : mn (raw.length : Int) 30 = ((raw.take 30).length : Int) := by
    unfold mn
    rw [List.length_take]
    split <;> omega
  have h := small_l0 (mn (raw.length : Int) 30) (raw.take 30) (by rw [hm]; omega) (by rw [hm, List.length_take]; omega) (by rw [List.length_take]; omega) (raw.take 30).length 0 [] (by omega) (by simp)
  refine Evt.congr (fun k => ?_) h
  have ht : raw.take ((mn (raw.length : Int) 30 : Int).toNat) = raw.take 30 := by
    rw [hm, Int.toNat_natCast, List.length_take]
    by_cases h30 : 30 ≤ raw.length
    · rw [Nat.min_eq_left h30]
    · rw [Nat.min_eq_right (by omega), List.take_of_length_le (Nat.le_refl _), List.take_of_length_le (by omega)]
  unfold tautochronelaw13_Small.f
  rw [if_pos (by rw [hm]; omega), if_pos (by rw [hm, List.length_take]; omega), Option.bind_some, ht]
  rfl
/-- Codes of the values 0 to 7. -/
def Few8 (c : S37) : Prop := (0 ≤ c.f0 ∧ c.f0 < 14) ∧ (0 ≤ c.f2 ∧ c.f2 < 8) ∧ (c.f3 < 8 ∧ (0 ≤ c.f3 ∨ (c.f3 = -1 ∧ (c.f0 = 4 ∨ c.f0 = 5)))) ∧ (0 ≤ c.f4 ∧ c.f4 < 8) ∧ (0 ≤ c.f5 ∧ c.f5 < 8)
theorem few8_sm (x4 : Int) (c : S37) : Few8 (smC x4 c) := by
  have h0 := rs_range c.f0 14 (by omega) (by omega)
  have h2 := rs_range c.f2 8 (by omega) (by omega)
  have h3 := rs_range c.f3 8 (by omega) (by omega)
  have h4 := rs_range c.f4 8 (by omega) (by omega)
  have h5 := rs_range c.f5 8 (by omega) (by omega)
  refine ⟨h0, h2, ?_, h4, h5⟩
  unfold smC
  simp only
  split
  · rename_i h
    exact ⟨by omega, .inr ⟨rfl, h.2⟩⟩
  · exact ⟨h3.2, .inl h3.1⟩
theorem smallOf_len (raw : List S37) : (smallOf raw).length ≤ 31 ∧ 1 ≤ (smallOf raw).length := by
  unfold smallOf
  simp
  omega
theorem smallOf_few (raw : List S37) : ∀ c ∈ smallOf raw, Few8 c := by
  intro c hc
  unfold smallOf at hc
  rcases List.mem_append.1 hc with hc | hc
  · obtain ⟨d, _, rfl⟩ := List.mem_map.1 hc
    exact few8_sm _ _
  · simp at hc
    subst hc
    unfold Few8 haltC
    simp
theorem few8_us {c : S37} (h : Few8 c) : ∀ u ∈ us c, 0 ≤ u ∧ u < 8 := by
  obtain ⟨h0, h2, h3, h4, h5⟩ := h
  intro u hu
  unfold us at hu
  split at hu
  · simp at hu; omega
  · split at hu
    · simp at hu; omega
    · split at hu
      · simp at hu; omega
      · split at hu
        · split at hu
          · simp at hu; omega
          · simp at hu
        · split at hu
          · split at hu
            · simp at hu; omega
            · simp at hu; omega
          · simp at hu
/-! ### How many values there are -/
def valU (n : Int) (l : List Int) : Int := l.foldl (fun n u => mx n (u + 1)) n
def valC (n : Int) (c : S37) : Int := valU (if db c then mx n (dv c + 1) else n) (us c)
def valsOf (l : List S37) : Int := l.foldl valC 0
/-- The numbers of a code are small enough that one more is a number, too. -/
def Okv (c : S37) : Prop := (db c = true → -1 ≤ dv c ∧ dv c ≤ 1000000) ∧ ∀ u ∈ us c, -1 ≤ u ∧ u ≤ 1000000
theorem val_l1 (x10 : List S37) (x11 x12 : Int) (l : List Int) (hl : l.length ≤ 1000) (hu : ∀ u ∈ l, -1 ≤ u ∧ u ≤ 1000000) : ∀ (m i : Nat) (n r : Int), i + m = l.length →
    Evt (fun k => code_Values.l0 k (valU n (l.drop i)) x10 x11 (wrap64 (x12 + 1))) r → Evt (fun k => code_Values.l1 k n x10 x11 x12 l (l.length : Int) (i : Int)) r
  | 0, i, n, r, hi, h => by
    rw [List.drop_of_length_le (by omega)] at h
    refine Evt.succ (fun k => ?_) h
    conv => lhs; unfold code_Values.l1
    rw [if_neg (by omega)]
    rfl
  | m + 1, i, n, r, hi, h => by
    have hlt : i < l.length := by omega
    have hw : wrap64 ((i : Int) + 1) = ((i + 1 : Nat) : Int) := by rw [w64 (by omega) (by omega)]; omega
    have hq := hu l[i] (List.getElem_mem hlt)
    have hw2 : wrap64 (l[i] + 1) = l[i] + 1 := w64 (by omega) (by omega)
    rw [List.drop_eq_getElem_cons hlt] at h
    refine Evt.succ (fun k => ?_) (val_l1 x10 x11 x12 l hl hu m (i + 1) (mx n (l[i] + 1)) r (by omega) h)
    conv => lhs; unfold code_Values.l1
    rw [if_pos (by omega), if_pos (by omega), if_pos (by omega), rd_at l i hlt, hw, hw2]
theorem val_l0 (l : List S37) (hl : l.length ≤ 1000) (ho : ∀ c ∈ l, Okv c) : ∀ (m i : Nat) (n : Int), i + m = l.length →
    Evt (fun k => code_Values.l0 k n l (l.length : Int) (i : Int)) ((l.drop i).foldl valC n)
  | 0, i, n, hi => by
    rw [List.drop_of_length_le (by omega)]
    refine Evt.succ (g := fun k => some n) (fun k => ?_) (Evt.const fun k => rfl)
    unfold code_Values.l0
    rw [if_neg (by omega)]
  | m + 1, i, n, hi => by
    have hlt : i < l.length := by omega
    have hw : wrap64 ((i : Int) + 1) = ((i + 1 : Nat) : Int) := by rw [w64 (by omega) (by omega)]; omega
    have hc := ho l[i] (List.getElem_mem hlt)
    have ih := val_l0 l hl ho m (i + 1)
    rw [List.drop_eq_getElem_cons hlt, List.foldl_cons]
    have key : ∀ n', Evt (fun k => code_Values.j1 k n' l (l.length : Int) (i : Int) l[i].f0 l[i].f1 l[i].f2 l[i].f3 l[i].f4 l[i].f5 l[i].f6 l[i].f7) ((l.drop (i + 1)).foldl valC (valU n' (us l[i]))) := fun n' => by
      have h1 := val_l1 l (l.length : Int) (i : Int) (us l[i]) (by have := us_len l[i]; omega) hc.2 (us l[i]).length 0 n' _ (by omega) (by rw [hw, List.drop_zero]; exact ih (valU n' (us l[i])) (by omega))
      refine Evt.succ (g := fun k => (code_Uses.f k l[i].f0 l[i].f1 l[i].f2 l[i].f3 l[i].f4 l[i].f5 l[i].f6 l[i].f7).bind fun t => code_Values.l1 k n' l (l.length : Int) (i : Int) t (t.length : Int) 0) (fun k => rfl) ?_
      exact Evt.bind (f := fun t k => code_Values.l1 k n' l (l.length : Int) (i : Int) t (t.length : Int) 0) (Uses_eq l[i]) h1
    refine Evt.succ (g := fun k => code_Values.j1 k (if db l[i] then mx n (dv l[i] + 1) else n) l (l.length : Int) (i : Int) l[i].f0 l[i].f1 l[i].f2 l[i].f3 l[i].f4 l[i].f5 l[i].f6 l[i].f7) (fun k => ?_) (key _)
    conv => lhs; unfold code_Values.l0
    rw [if_pos (by omega), if_pos (by omega), if_pos (by omega), rdT_at l i hlt, Defines_eq, Option.bind_some]
    simp only
    cases hd : db l[i] with
    | true =>
      have := hc.1 hd
      rw [w64 (by omega) (by omega)]
      simp
    | false => simp
theorem vals_eq (l : List S37) (hl : l.length ≤ 1000) (ho : ∀ c ∈ l, Okv c) : Evt (fun k => code_Values.f k l) (valsOf l) := by
  have := val_l0 l hl ho l.length 0 0 (by omega)
  exact this
theorem valU_bd {N : Int} : ∀ (l : List Int) (n : Int), 0 ≤ n → n ≤ N → (∀ u ∈ l, u + 1 ≤ N) → 0 ≤ valU n l ∧ valU n l ≤ N ∧ n ≤ valU n l ∧ ∀ u ∈ l, u + 1 ≤ valU n l
  | [], n, h0, h1, _ => ⟨h0, h1, Int.le_refl _, fun u hu => absurd hu (by simp)⟩
  | x :: l, n, h0, h1, hu => by
    have hx := hu x (by simp)
    have hm : mx n (x + 1) = n ∨ mx n (x + 1) = x + 1 := by unfold mx; split <;> simp
    have hm2 : n ≤ mx n (x + 1) ∧ x + 1 ≤ mx n (x + 1) := by unfold mx; split <;> omega
    obtain ⟨q0, q1, q2, q3⟩ := valU_bd (N := N) l (mx n (x + 1)) (by omega) (by omega) (fun u h => hu u (by simp [h]))
    refine ⟨q0, q1, by show n ≤ valU (mx n (x + 1)) l; omega, fun u h => ?_⟩
    rcases List.mem_cons.1 h with rfl | h
    · show u + 1 ≤ valU (mx n (u + 1)) l
      omega
    · exact q3 u h
theorem valC_bd {N : Int} {c : S37} {n : Int} (h0 : 0 ≤ n) (h1 : n ≤ N) (hd : db c = true → dv c + 1 ≤ N) (hu : ∀ u ∈ us c, u + 1 ≤ N) : 0 ≤ valC n c ∧ valC n c ≤ N ∧ n ≤ valC n c ∧ (db c = true → dv c + 1 ≤ valC n c) ∧ ∀ u ∈ us c, u + 1 ≤ valC n c := by
  unfold valC
  cases h : db c with
  | true =>
    have := hd h
    have hm : mx n (dv c + 1) = n ∨ mx n (dv c + 1) = dv c + 1 := by unfold mx; split <;> simp
    have hm2 : n ≤ mx n (dv c + 1) ∧ dv c + 1 ≤ mx n (dv c + 1) := by unfold mx; split <;> omega
    obtain ⟨q0, q1, q2, q3⟩ := valU_bd (N := N) (us c) (mx n (dv c + 1)) (by omega) (by omega) hu
    simp only [if_true]
    exact ⟨q0, q1, by omega, fun _ => by omega, q3⟩
  | false =>
    obtain ⟨q0, q1, q2, q3⟩ := valU_bd (N := N) (us c) n h0 h1 hu
    simp only [Bool.false_eq_true, if_false]
    exact ⟨q0, q1, q2, fun h => absurd h (by simp), q3⟩
theorem vals_bd {N : Int} : ∀ (l : List S37) (n : Int), 0 ≤ n → n ≤ N → (∀ c ∈ l, (db c = true → dv c + 1 ≤ N) ∧ ∀ u ∈ us c, u + 1 ≤ N) →
    0 ≤ l.foldl valC n ∧ l.foldl valC n ≤ N ∧ n ≤ l.foldl valC n ∧ ∀ c ∈ l, (db c = true → dv c + 1 ≤ l.foldl valC n) ∧ ∀ u ∈ us c, u + 1 ≤ l.foldl valC n
  | [], n, h0, h1, _ => ⟨h0, h1, Int.le_refl _, fun c hc => absurd hc (by simp)⟩
  | x :: l, n, h0, h1, h => by
    obtain ⟨hx1, hx2⟩ := h x (by simp)
    obtain ⟨p0, p1, p2, p3, p4⟩ := valC_bd h0 h1 hx1 hx2
    obtain ⟨q0, q1, q2, q3⟩ := vals_bd (N := N) l (valC n x) p0 p1 (fun c hc => h c (by simp [hc]))
    rw [List.foldl_cons]
    refine ⟨q0, q1, by omega, fun c hc => ?_⟩
    rcases List.mem_cons.1 hc with rfl | hc
    · exact ⟨fun hd => by have := p3 hd; omega, fun u hu => by have := p4 u hu; omega⟩
    · exact q3 c hc
theorem few8_ok {c : S37} (h : Few8 c) : Okv c ∧ (db c = true → dv c + 1 ≤ 8) ∧ ∀ u ∈ us c, u + 1 ≤ 8 := by
  have hu := few8_us h
  have hd : 0 ≤ dv c ∧ dv c < 8 := by
    unfold dv
    have := h.2.1
    split <;> omega
  exact ⟨⟨fun _ => by omega, fun u h => by have := hu u h; omega⟩, fun _ => by omega, fun u h => by have := hu u h; omega⟩
end Go.Proofs.YtepgpapljoelhaaDoor.PE
