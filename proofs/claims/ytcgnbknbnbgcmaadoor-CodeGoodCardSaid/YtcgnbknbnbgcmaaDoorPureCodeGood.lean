/- CodeGood: what the printed law computes answers true. -/
import Derived.Test.YtcgnbknbnbgcmaaDoorSpecG
import Derived.Test.YtcgnbknbnbgcmaaDoorQVal
import Derived.Test.YtcgnbknbnbgcmaaDoorQGoodA
namespace Go.Proofs.YtcgnbknbnbgcmaaDoor.PQ
open Go.RowKit Go.Proofs.YtcgnbknbnbgcmaaDoorW.PrintWords Go.Proofs.YtcgnbknbnbgcmaaDoorW.PrintLast Go.Proofs.YtcgnbknbnbgcmaaDoorW.PrintMore
set_option linter.unusedSimpArgs false

theorem sets_eq (c : S26) : tautochronelaw12_sets.f c.f0 c.f1 c.f2 c.f3 c.f4 c.f5 c.f6 c.f7 = some (db c) := by
  unfold tautochronelaw12_sets.f db
  by_cases h0 : c.f0 = 0
  · simp [h0]
  by_cases h1 : c.f0 = 1
  · simp [h1]
  by_cases h2 : c.f0 = 2
  · simp [h2]
  by_cases h3 : c.f0 = 3
  · simp [h3]
  have : (c.f0 == 4) = decide (c.f0 = 4) := rfl
  simp [h0, h1, h2, h3, this]
theorem lawUses_eq (c : S26) : Evt (fun k => tautochronelaw12_uses.f k c.f0 c.f1 c.f2 c.f3 c.f4 c.f5 c.f6 c.f7) (us c) := by
  refine Evt.succ (g := fun k => tautochronelaw12_uses.f (k + 1) c.f0 c.f1 c.f2 c.f3 c.f4 c.f5 c.f6 c.f7) (fun _ => rfl) (Evt.const fun k => ?_)
  unfold tautochronelaw12_uses.f us
  simp only [tautochronelaw12_uses.j0]
  by_cases h1 : c.f0 = 1
  · simp [h1]
  by_cases h7 : c.f0 = 7
  · simp [h7]
  by_cases h10 : c.f0 = 10
  · simp [h10]
  by_cases h12 : c.f0 = 12
  · simp [h12]
  by_cases h2 : c.f0 = 2
  · simp [h2]
  by_cases h3 : c.f0 = 3
  · simp [h3]
  by_cases h4 : c.f0 = 4
  · by_cases h : c.f3 ≥ 0 <;> simp [h4, h]
  by_cases h5 : c.f0 = 5
  · by_cases h : c.f3 ≥ 0 <;> simp [h5, h]
  simp [h1, h7, h10, h12, h2, h3, h4, h5]

theorem i64_wf {n : Int} (h : (Lit.int .i64 n).wf = true) : -9223372036854775808 ≤ n ∧ n ≤ 9223372036854775807 := by
  simp only [Lit.wf, IntKind.min, IntKind.max, IntKind.signed, IntKind.bits, Bool.and_eq_true, decide_eq_true_eq] at h
  simpa using h
theorem us_wf (c : S26) (h : c.wf) (u : Int) (hu : u ∈ us c) : -9223372036854775808 ≤ u := by
  obtain ⟨_, _, _, h3, h4, h5, _, _⟩ := h
  have h3 := (i64_wf h3).1
  have h4 := (i64_wf h4).1
  have h5 := (i64_wf h5).1
  unfold us at hu
  repeat' split at hu
  all_goals simp at hu
  all_goals omega

/-! ### Values -/
/-- One more than the greatest so far. -/
def up (n u : Int) : Int := if n < u + 1 then u + 1 else n
def valC (n : Int) (c : S26) : Int := (us c).foldl up (if db c then up n c.f2 else n)
/-- Is a number in it that is too great? -/
def bigU (u : Int) : Bool := decide (u ≥ 4611686018427387904)
def bigC (c : S26) : Bool := (db c && bigU c.f2) || (us c).any bigU

theorem Values_l1 (xs : List S26) (i : Int) (ys : List Int) (hy : ys.length ≤ 3) (hb : ∀ u ∈ ys, -9223372036854775808 ≤ u ∧ bigU u = false) (r : Int)
    (d : Nat) : ∀ (j : Nat) (n : Int), ys.length - j = d → j ≤ ys.length → Evt (fun k => code_Values.l0 k ((ys.drop j).foldl up n) xs (xs.length : Int) (wrap64 (i + 1))) r →
      Evt (fun k => code_Values.l1 k n xs (xs.length : Int) i ys (ys.length : Int) (j : Int)) r := by
  induction d with
  | zero =>
    intro j n hd hj H
    obtain rfl : j = ys.length := by omega
    refine Evt.succ (g := fun k => code_Values.l0 k n xs (xs.length : Int) (wrap64 (i + 1))) (fun k => ?_) (by simpa using H)
    simp only [code_Values.l1]
    rw [if_neg (by omega)]
  | succ d ih =>
    intro j n hd hj H
    have hlt : j < ys.length := by omega
    have hdrop : ys.drop j = ys[j] :: ys.drop (j + 1) := List.drop_eq_getElem_cons hlt
    have hu := hb ys[j] (List.getElem_mem hlt)
    generalize hq : ys[j] = u at *
    rw [hdrop, List.foldl_cons] at H
    refine Evt.succ (g := fun k => code_Values.l1 k (up n u) xs (xs.length : Int) i ys (ys.length : Int) ((j + 1 : Nat) : Int)) (fun k => ?_) (ih (j + 1) _ (by omega) (by omega) H)
    simp only [code_Values.l1]
    unfold bigU at hu
    have h2 : ¬ u ≥ 4611686018427387904 := by simpa using hu.2
    rw [if_pos (by omega), if_pos (by omega), if_pos (by omega), rd_at ys j hlt, hq, w64 (by omega) (by omega), w64 (by omega) (by omega)]
    rfl

theorem Values_l0 (xs : List S26) (hm : xs.length ≤ 100) (hw : ∀ y ∈ xs, y.wf) (hb : ∀ y ∈ xs, bigC y = false) (d : Nat) :
    ∀ (i : Nat) (n : Int), xs.length - i = d → i ≤ xs.length → Evt (fun k => code_Values.l0 k n xs (xs.length : Int) (i : Int)) ((xs.drop i).foldl valC n) := by
  induction d with
  | zero =>
    intro i n hd hi
    obtain rfl : i = xs.length := by omega
    refine Evt.succ (g := fun _ => some n) (fun k => ?_) (Evt.const fun k => by simp)
    simp only [code_Values.l0]
    rw [if_neg (by omega)]
  | succ d ih =>
    intro i n hd hi
    have hlt : i < xs.length := by omega
    have hdrop : xs.drop i = xs[i] :: xs.drop (i + 1) := List.drop_eq_getElem_cons hlt
    have hwc := hw xs[i] (List.getElem_mem hlt)
    have hbc := hb xs[i] (List.getElem_mem hlt)
    generalize hc : xs[i] = c at *
    rw [hdrop, List.foldl_cons]
    have hj : ∀ m, (if db c then up n c.f2 else n) = m → Evt (fun k => code_Values.j1 k m xs (xs.length : Int) (i : Int) c.f0 c.f1 c.f2 c.f3 c.f4 c.f5 c.f6 c.f7) ((xs.drop (i + 1)).foldl valC (valC n c)) := by
      intro m hm'
      refine Evt.succ (g := fun k => (code_Uses.f k c.f0 c.f1 c.f2 c.f3 c.f4 c.f5 c.f6 c.f7).bind fun t => code_Values.l1 k m xs (xs.length : Int) (i : Int) t (t.length : Int) 0) (fun k => by simp only [code_Values.j1]) ?_
      refine Evt.bind (f := fun t k => code_Values.l1 k m xs (xs.length : Int) (i : Int) t (t.length : Int) 0) (Uses_eq c) ?_
      refine Values_l1 xs (i : Int) (us c) (us_len c) (fun u hu => ⟨us_wf c hwc u hu, ?_⟩) _ _ 0 m rfl (by omega) ?_
      · unfold bigC at hbc
        simp only [Bool.or_eq_false_iff, List.any_eq_false] at hbc
        simpa using hbc.2 u hu
      · rw [List.drop_zero, w64 (by omega) (by omega)]
        have := ih (i + 1) ((us c).foldl up m) (by omega) (by omega)
        unfold valC
        rw [hm']
        exact this
    have h2 := i64_wf hwc.2.2.1
    cases hd : db c with
    | true =>
      refine Evt.succ (g := fun k => code_Values.j1 k (up n c.f2) xs (xs.length : Int) (i : Int) c.f0 c.f1 c.f2 c.f3 c.f4 c.f5 c.f6 c.f7) (fun k => ?_) (hj _ (by rw [hd]; rfl))
      simp only [code_Values.l0]
      rw [if_pos (by omega), if_pos (by omega), if_pos (by omega), rdT_at xs i hlt, hc, Defines_eq, Option.bind_some, if_pos hd]
      have e2 : dv c = c.f2 := by
        unfold db at hd
        unfold dv
        rw [if_pos (by simpa using hd)]
      have hbb : ¬ c.f2 ≥ 4611686018427387904 := by
        unfold bigC bigU at hbc
        rw [hd] at hbc
        simp only [Bool.or_eq_false_iff, Bool.true_and] at hbc
        simpa using hbc.1
      simp only [e2]
      rw [w64 (by omega) (by omega)]
      rfl
    | false =>
      refine Evt.succ (g := fun k => code_Values.j1 k n xs (xs.length : Int) (i : Int) c.f0 c.f1 c.f2 c.f3 c.f4 c.f5 c.f6 c.f7) (fun k => ?_) (hj _ (by rw [hd]; rfl))
      simp only [code_Values.l0]
      rw [if_pos (by omega), if_pos (by omega), if_pos (by omega), rdT_at xs i hlt, hc, Defines_eq, Option.bind_some, if_neg (by simp [hd])]

/-! ### The law -/
def badAny (n : Int) (c : S26) : Bool := badOp c || badGo n c || badTo c
theorem goodOne_eq (n : Int) (c : S26) : goodOne n c = (!badAny n c && (us c).all okUse) := by
  unfold goodOne badAny
  cases badOp c <;> cases badGo n c <;> cases badTo c <;> rfl

theorem Law_l2 (l : List S26) (x3 : Bool) (x4 : Int) (i : Int) (ys : List Int) (hy : ys.length ≤ 3) (d : Nat) :
    ∀ j : Nat, ys.length - j = d → j ≤ ys.length → ((ys.drop j).any bigU = false → Evt (fun k => tautochronelaw12_CodeGood.l0 k l x3 x4 l (l.length : Int) (wrap64 (i + 1))) true) →
      Evt (fun k => tautochronelaw12_CodeGood.l2 k l x3 x4 l (l.length : Int) i ys (ys.length : Int) (j : Int)) true := by
  induction d with
  | zero =>
    intro j hd hj H
    obtain rfl : j = ys.length := by omega
    refine Evt.succ (g := fun k => tautochronelaw12_CodeGood.l0 k l x3 x4 l (l.length : Int) (wrap64 (i + 1))) (fun k => ?_) (H (by simp))
    simp only [tautochronelaw12_CodeGood.l2]
    rw [if_neg (by omega)]
  | succ d ih =>
    intro j hd hj H
    have hlt : j < ys.length := by omega
    have hdrop : ys.drop j = ys[j] :: ys.drop (j + 1) := List.drop_eq_getElem_cons hlt
    by_cases hb : ys[j] ≥ 4611686018427387904
    · refine Evt.succ (g := fun _ => some true) (fun k => ?_) (Evt.const fun _ => rfl)
      simp only [tautochronelaw12_CodeGood.l2]
      rw [if_pos (by omega), if_pos (by omega), if_pos (by omega), rd_at ys j hlt, if_pos hb]
    · refine Evt.succ (g := fun k => tautochronelaw12_CodeGood.l2 k l x3 x4 l (l.length : Int) i ys (ys.length : Int) ((j + 1 : Nat) : Int)) (fun k => ?_) (ih (j + 1) (by omega) (by omega) fun h => H ?_)
      · simp only [tautochronelaw12_CodeGood.l2]
        rw [if_pos (by omega), if_pos (by omega), if_pos (by omega), rd_at ys j hlt, if_neg hb, w64 (by omega) (by omega)]
        rfl
      · rw [hdrop, List.any_cons, h]
        simpa [bigU] using hb

/-- The places of one code, behind what it takes. -/
def after (n u : Int) : Int := if u ≥ n ∧ u < 4611686018427387904 then u + 1 else n
theorem after_up {n u : Int} (h : bigU u = false) : after n u = up n u := by
  unfold bigU at h
  have h' : ¬ u ≥ 4611686018427387904 := by simpa using h
  unfold after up
  by_cases hn : n < u + 1
  · rw [if_pos (by omega), if_pos hn]
  · rw [if_neg (by omega), if_neg hn]
theorem Law_l1 (l : List S26) (i : Int) (c : S26) (ys : List Int) (hy : ys.length ≤ 3) (hw : ∀ u ∈ ys, -9223372036854775808 ≤ u) (d : Nat) :
    ∀ (j : Nat) (x3 : Bool) (x4 : Int), ys.length - j = d → j ≤ ys.length →
      (∀ b, Evt (fun k => tautochronelaw12_CodeGood.j8 k l (x3 && (ys.drop j).all okUse) ((ys.drop j).foldl after x4) l (l.length : Int) i (db c && b) c.f0 c.f1 c.f2 c.f3 c.f4 c.f5 c.f6 c.f7) true ∨ b ≠ bigU c.f2) →
      Evt (fun k => tautochronelaw12_CodeGood.l1 k l x3 x4 l (l.length : Int) i ys (ys.length : Int) (j : Int) c.f0 c.f1 c.f2 c.f3 c.f4 c.f5 c.f6 c.f7) true := by
  induction d with
  | zero =>
    intro j x3 x4 hd hj H
    obtain rfl : j = ys.length := by omega
    have H := (H (bigU c.f2)).resolve_right (fun h => h rfl)
    rw [List.drop_eq_nil_of_le (by omega), List.all_nil, Bool.and_true, List.foldl_nil] at H
    refine Evt.succ (fun k => ?_) H
    simp only [tautochronelaw12_CodeGood.l1]
    rw [if_neg (by omega), sets_eq, Option.bind_some]
    cases db c <;> simp [bigU]
  | succ d ih =>
    intro j x3 x4 hd hj H
    have hlt : j < ys.length := by omega
    have hdrop : ys.drop j = ys[j] :: ys.drop (j + 1) := List.drop_eq_getElem_cons hlt
    have hwu := hw ys[j] (List.getElem_mem hlt)
    generalize hq : ys[j] = u at *
    rw [hdrop, List.all_cons, List.foldl_cons] at H
    have H' := ih (j + 1) (x3 && okUse u) (after x4 u) (by omega) (by omega) (by simpa [Bool.and_assoc] using H)
    have h7 : ∀ b, b = !okUse u → Evt (fun k => tautochronelaw12_CodeGood.j7 k l x3 x4 u l (l.length : Int) i ys (ys.length : Int) (j : Int) b c.f0 c.f1 c.f2 c.f3 c.f4 c.f5 c.f6 c.f7) true := by
      rintro b rfl
      refine Evt.succ (fun k => ?_) H'
      simp only [tautochronelaw12_CodeGood.j7]
      have wj : wrap64 ((j : Int) + 1) = ((j + 1 : Nat) : Int) := by rw [w64 (by omega) (by omega)]; rfl
      rw [wj]
      unfold after
      by_cases h1 : u ≥ x4
      · by_cases h2 : u < 4611686018427387904
        · have wu : wrap64 (u + 1) = u + 1 := w64 (by omega) (by omega)
          cases okUse u <;> simp [h1, h2, wu]
        · cases okUse u <;> simp [h1, h2]
      · cases okUse u <;> simp [h1]
    refine Evt.succ (fun k => ?_) (h7 _ rfl)
    simp only [tautochronelaw12_CodeGood.l1]
    rw [if_pos (by omega), if_pos (by omega), if_pos (by omega), rd_at ys j hlt, hq]
    unfold okUse
    by_cases h0 : u < 0
    · simp [h0]
    · simp [h0]

theorem foldl_after {ys : List Int} (h : ys.any bigU = false) (n : Int) : ys.foldl after n = ys.foldl up n := by
  induction ys generalizing n with
  | nil => rfl
  | cons u ys ih =>
    simp only [List.any_cons, Bool.or_eq_false_iff] at h
    simp only [List.foldl_cons, after_up h.1]
    exact ih h.2 _

theorem Law_l0 (l : List S26) (hm : l.length ≤ 100) (hw : ∀ y ∈ l, y.wf) (g : Bool) (hg : goodB l = (g && l.all (goodOne (l.length : Int)))) (d : Nat) :
    ∀ i : Nat, l.length - i = d → i ≤ l.length → (∀ y ∈ l.take i, bigC y = false) →
      Evt (fun k => tautochronelaw12_CodeGood.l0 k l (g && (l.take i).all (goodOne (l.length : Int))) ((l.take i).foldl valC 0) l (l.length : Int) (i : Int)) true := by
  induction d with
  | zero =>
    intro i hd hi hb
    obtain rfl : i = l.length := by omega
    rw [List.take_length] at *
    refine Evt.succ (g := fun k => (code_Good.f k l).bind fun t => if (t == (g && l.all (goodOne (l.length : Int)))) = true then ((code_Values.f k l).bind fun t2 => some (t2 == l.foldl valC 0)) else some false) (fun k => ?_) ?_
    · simp only [tautochronelaw12_CodeGood.l0]
      rw [if_neg (by omega)]
    · refine Evt.bind (f := fun t k => if (t == (g && l.all (goodOne (l.length : Int)))) = true then ((code_Values.f k l).bind fun t2 => some (t2 == l.foldl valC 0)) else some false) (Good_eq l (by unfold maxLen; omega)) ?_
      rw [hg]
      refine Evt.congr (g := fun k => (code_Values.f k l).bind fun t2 => some (t2 == l.foldl valC 0)) (fun k => by simp) ?_
      have hv : Evt (fun k => code_Values.f k l) (l.foldl valC 0) := Values_l0 l hm hw hb _ 0 0 rfl (by omega)
      exact Evt.bind (f := fun t _ => some (t == l.foldl valC 0)) hv (Evt.const fun _ => by simp)
  | succ d ih =>
    intro i hd hi hb
    have hlt : i < l.length := by omega
    have htake : l.take (i + 1) = l.take i ++ [l[i]] := List.take_succ_eq_append_getElem hlt
    have hwc := hw l[i] (List.getElem_mem hlt)
    have hrec := ih (i + 1) (by omega) (by omega)
    have wi : wrap64 ((i : Int) + 1) = ((i + 1 : Nat) : Int) := by rw [w64 (by omega) (by omega)]; rfl
    rw [htake] at hrec
    generalize hc : l[i] = c at *
    simp only [List.all_append, List.all_cons, List.all_nil, Bool.and_true, List.foldl_append, List.foldl_cons, List.foldl_nil] at hrec
    generalize hA : (l.take i).all (goodOne (l.length : Int)) = A at *
    generalize hN : (l.take i).foldl valC 0 = n at *
    have h2 := i64_wf hwc.2.2.1
    -- the numbers that it takes
    have h5 : ∀ (x3 : Bool) (x4 : Int), x3 = (g && A && !badAny (l.length : Int) c) → x4 = (if db c then after n c.f2 else n) →
        Evt (fun k => tautochronelaw12_CodeGood.j5 k l x3 x4 l (l.length : Int) (i : Int) c.f0 c.f1 c.f2 c.f3 c.f4 c.f5 c.f6 c.f7) true := by
      rintro x3 x4 rfl rfl
      refine Evt.succ (g := fun k => (tautochronelaw12_uses.f k c.f0 c.f1 c.f2 c.f3 c.f4 c.f5 c.f6 c.f7).bind fun t => tautochronelaw12_CodeGood.l1 k l (g && A && !badAny (l.length : Int) c) (if db c then after n c.f2 else n) l (l.length : Int) (i : Int) t (t.length : Int) 0 c.f0 c.f1 c.f2 c.f3 c.f4 c.f5 c.f6 c.f7) (fun k => by simp only [tautochronelaw12_CodeGood.j5]) ?_
      refine Evt.bind (f := fun t k => tautochronelaw12_CodeGood.l1 k l (g && A && !badAny (l.length : Int) c) (if db c then after n c.f2 else n) l (l.length : Int) (i : Int) t (t.length : Int) 0 c.f0 c.f1 c.f2 c.f3 c.f4 c.f5 c.f6 c.f7) (lawUses_eq c) ?_
      refine Law_l1 l (i : Int) c (us c) (us_len c) (fun u hu => us_wf c hwc u hu) _ 0 _ _ rfl (by omega) (fun b => ?_)
      by_cases hbb : b = bigU c.f2
      · refine .inl ?_
        subst hbb
        rw [List.drop_zero]
        cases hq : (db c && bigU c.f2) with
        | true => exact Evt.succ (g := fun _ => some true) (fun k => by simp [tautochronelaw12_CodeGood.j8]) (Evt.const fun _ => rfl)
        | false =>
          refine Evt.succ (g := fun k => (tautochronelaw12_uses.f k c.f0 c.f1 c.f2 c.f3 c.f4 c.f5 c.f6 c.f7).bind fun t => tautochronelaw12_CodeGood.l2 k l (g && A && !badAny (l.length : Int) c && (us c).all okUse) ((us c).foldl after (if db c then after n c.f2 else n)) l (l.length : Int) (i : Int) t (t.length : Int) 0) (fun k => by simp [tautochronelaw12_CodeGood.j8]) ?_
          refine Evt.bind (f := fun t k => tautochronelaw12_CodeGood.l2 k l (g && A && !badAny (l.length : Int) c && (us c).all okUse) ((us c).foldl after (if db c then after n c.f2 else n)) l (l.length : Int) (i : Int) t (t.length : Int) 0) (lawUses_eq c) ?_
          refine Law_l2 l _ _ (i : Int) (us c) (us_len c) _ 0 rfl (by omega) (fun hany => ?_)
          rw [List.drop_zero] at hany
          have hbc : bigC c = false := by unfold bigC; rw [hq, hany]; rfl
          have := hrec (fun y hy => by
            rcases List.mem_append.1 hy with h | h
            · exact hb y h
            · obtain rfl := List.mem_singleton.1 h
              exact hbc)
          rw [goodOne_eq] at this
          rw [wi, foldl_after hany]
          have e : (if db c = true then after n c.f2 else n) = (if db c = true then up n c.f2 else n) := by
            cases hdb : db c with
            | false => rfl
            | true =>
              rw [hdb, Bool.true_and] at hq
              rw [if_pos rfl, if_pos rfl, after_up hq]
          rw [e]
          have e2 : (g && A && !badAny (l.length : Int) c && (us c).all okUse) = (g && (A && (!badAny (l.length : Int) c && (us c).all okUse))) := by simp [Bool.and_assoc]
          rw [e2]
          exact this
      · exact .inr hbb
    have h4 : ∀ (x3 : Bool) (b : Bool), x3 = (g && A && !badAny (l.length : Int) c) → b = (db c && decide (c.f2 ≥ n ∧ c.f2 < 4611686018427387904)) →
        Evt (fun k => tautochronelaw12_CodeGood.j4 k l x3 n l (l.length : Int) (i : Int) b c.f0 c.f1 c.f2 c.f3 c.f4 c.f5 c.f6 c.f7) true := by
      rintro x3 b hx rfl
      refine Evt.succ (fun k => ?_) (h5 x3 _ hx rfl)
      simp only [tautochronelaw12_CodeGood.j4]
      unfold after
      cases db c with
      | false => simp
      | true =>
        by_cases hz : c.f2 ≥ n ∧ c.f2 < 4611686018427387904
        · have wu : wrap64 (c.f2 + 1) = c.f2 + 1 := w64 (by omega) (by omega)
          simp [hz, wu]
        · simp [hz]
    have h3 : ∀ x3 : Bool, x3 = (g && A && !badAny (l.length : Int) c) → Evt (fun k => tautochronelaw12_CodeGood.j3 k l x3 n l (l.length : Int) (i : Int) c.f0 c.f1 c.f2 c.f3 c.f4 c.f5 c.f6 c.f7) true := by
      intro x3 hx
      refine Evt.succ (fun k => ?_) (h4 x3 _ hx rfl)
      simp only [tautochronelaw12_CodeGood.j3]
      rw [sets_eq, Option.bind_some]
      cases db c with
      | false => simp
      | true =>
        by_cases hz : c.f2 ≥ n
        · simp [hz]
        · simp [hz]
    have hb2 : ∀ b, b = badAny (l.length : Int) c → Evt (fun k => tautochronelaw12_CodeGood.j2 k l (g && A) n l (l.length : Int) (i : Int) b c.f0 c.f1 c.f2 c.f3 c.f4 c.f5 c.f6 c.f7) true := by
      rintro b rfl
      refine Evt.succ (fun k => ?_) (h3 _ rfl)
      simp only [tautochronelaw12_CodeGood.j2]
      cases badAny (l.length : Int) c <;> simp
    refine Evt.succ (fun k => ?_) (hb2 _ rfl)
    simp only [tautochronelaw12_CodeGood.l0]
    rw [if_pos (by omega), if_pos (by omega), if_pos (by omega), rdT_at l i hlt, hc, sets_eq]
    simp only [Option.bind_some]
    unfold badAny badOp badGo badTo opr jm
    have edv : db c = true → dv c = c.f2 := fun h => by
      unfold db at h
      unfold dv
      rw [if_pos (by simpa using h)]
    have edv0 : db c = false → dv c = 0 := fun h => by
      unfold db at h
      unfold dv
      rw [if_neg (by simpa using h)]
    by_cases h0 : c.f0 < 0
    · simp [h0]
    by_cases h13 : c.f0 > 13
    · simp [h0, h13]
    cases hdb : db c with
    | true =>
      rw [edv hdb]
      by_cases h2' : c.f0 = 2
      · have e1 : (0 ≤ c.f1 ∧ c.f1 < 10) = (¬ c.f1 < 0 ∧ ¬ c.f1 > 9) := propext (by omega)
        simp only [e1]
        by_cases q1 : c.f1 < 0
        · simp [h2', q1]
        · by_cases q2 : c.f1 > 9
          · simp [h2', q1, q2]
          · by_cases q3 : c.f2 < 0 <;> by_cases q4 : c.f2 > 65535 <;> simp [h2', q1, q2, q3, q4]
      · by_cases h6 : c.f0 = 6
        · by_cases q1 : c.f7 < 0 <;> by_cases q2 : c.f7 ≥ (l.length : Int) <;> by_cases q3 : c.f2 < 0 <;> by_cases q4 : c.f2 > 65535 <;> simp [h6, q1, q2, q3, q4]
        · by_cases h7 : c.f0 = 7
          · by_cases q1 : c.f7 < 0 <;> by_cases q2 : c.f7 ≥ (l.length : Int) <;> by_cases q3 : c.f2 < 0 <;> by_cases q4 : c.f2 > 65535 <;> simp [h7, q1, q2, q3, q4]
          · by_cases q3 : c.f2 < 0 <;> by_cases q4 : c.f2 > 65535 <;> simp [h0, h13, h2', h6, h7, q3, q4]
    | false =>
      rw [edv0 hdb]
      by_cases h2' : c.f0 = 2
      · exfalso
        unfold db at hdb
        simp [h2'] at hdb
      · by_cases h6 : c.f0 = 6
        · by_cases q1 : c.f7 < 0 <;> by_cases q2 : c.f7 ≥ (l.length : Int) <;> simp [h6, q1, q2]
        · by_cases h7 : c.f0 = 7
          · by_cases q1 : c.f7 < 0 <;> by_cases q2 : c.f7 ≥ (l.length : Int) <;> simp [h7, q1, q2]
          · simp [h0, h13, h2', h6, h7]

theorem pureCodeGood (l : List S26) (hw : ∀ y ∈ l, y.wf) : ∃ k, tautochronelaw12_CodeGood.f k l = some true := by
  refine Evt.ex (g := fun k => tautochronelaw12_CodeGood.f k l) ?_
  unfold tautochronelaw12_CodeGood.f
  refine Evt.bind (f := fun t239 k => if t239 = true then (if (l.length : Int) > 100 then (some true) else (if (l.length : Int) > 0 then (if 0 ≤ (wrap64 ((l.length : Int) - 1)) then (if (wrap64 ((l.length : Int) - 1)) < (l.length : Int) then (if ((rd_T26 l (wrap64 ((l.length : Int) - 1))).f0) = 13 then (tautochronelaw12_CodeGood.j0 k l true) else (tautochronelaw12_CodeGood.j0 k l (((rd_T26 l (wrap64 ((l.length : Int) - 1))).f0) == 6))) else (none)) else (none)) else (tautochronelaw12_CodeGood.j0 k l false))) else (some false)) awake_eq ?_
  by_cases h100 : (l.length : Int) > 100
  · exact Evt.const fun k => by simp [h100]
  have hj : ∀ g, goodB l = (g && l.all (goodOne (l.length : Int))) → Evt (fun k => tautochronelaw12_CodeGood.j0 k l g) true := by
    intro g hg
    refine Evt.succ (g := fun k => tautochronelaw12_CodeGood.l0 k l g 0 l (l.length : Int) 0) (fun k => by simp only [tautochronelaw12_CodeGood.j0]) ?_
    have := Law_l0 l (by omega) hw g hg _ 0 rfl (by omega) (by simp)
    simpa using this
  by_cases hpos : (l.length : Int) > 0
  · have hlast : rd_T26 l (wrap64 ((l.length : Int) - 1)) = l.getLastD z26 := by
      rw [w64 (by omega) (by omega), show (l.length : Int) - 1 = ((l.length - 1 : Nat) : Int) by omega, rdT_at l _ (by omega)]
      rw [List.getLastD_eq_getLast?, List.getLast?_eq_getElem?, List.getElem?_eq_getElem (by omega)]
      rfl
    have hne : l ≠ [] := fun e => by rw [e] at hpos; simp at hpos
    have hgb : goodB l = ((decide ((l.getLastD z26).f0 = 13) || decide ((l.getLastD z26).f0 = 6)) && l.all (goodOne (l.length : Int))) := by
      unfold goodB
      rw [decide_eq_true hne, decide_eq_true (show l.length ≤ 4096 by omega), Bool.true_and, Bool.true_and]
    refine Evt.congr (g := fun k => tautochronelaw12_CodeGood.j0 k l (decide ((l.getLastD z26).f0 = 13) || decide ((l.getLastD z26).f0 = 6))) (fun k => ?_) (hj _ hgb)
    rw [hlast, w64 (by omega) (by omega), if_pos rfl, if_neg h100, if_pos hpos, if_pos (by omega), if_pos (by omega)]
    generalize l.getLastD z26 = lc
    by_cases h13 : lc.f0 = 13
    · rw [if_pos h13, decide_eq_true h13, Bool.true_or]
    · rw [if_neg h13, decide_eq_false h13, Bool.false_or]
      rfl
  · refine Evt.congr (g := fun k => tautochronelaw12_CodeGood.j0 k l false) (fun k => by rw [if_pos rfl, if_neg h100, if_neg hpos]) (hj false ?_)
    have : l = [] := List.eq_nil_of_length_eq_zero (by omega)
    subst this
    simp [goodB]
end Go.Proofs.YtcgnbknbnbgcmaaDoor.PQ
