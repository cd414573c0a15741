/- Plain lemmas on the printed functions of package code: what Good, Uses, Defines, Jumps and Next answer, in plain words. No conditions but that numbers are of their kinds. -/
import Derived.Test.YtcgnbknbnbgcmaaDoorPQx4
import Derived.Test.YtcgnbknbnbgcmaaDoorOpen
namespace Go.Proofs.YtcgnbknbnbgcmaaDoor.PQ
open Go.RowKit Go.Proofs.YtcgnbknbnbgcmaaDoorW.PrintWords Go.Proofs.YtcgnbknbnbgcmaaDoorW.PrintLast Go.Proofs.YtcgnbknbnbgcmaaDoorW.PrintMore

/-- With enough rounds: this answer. -/
def Evt {α : Type} (g : Nat → Option α) (r : α) : Prop := ∃ K, ∀ k, K ≤ k → g k = some r
theorem Evt.const {α : Type} {g : Nat → Option α} {r : α} (h : ∀ k, g k = some r) : Evt g r := ⟨0, fun k _ => h k⟩
theorem Evt.succ {α : Type} {g h : Nat → Option α} {r : α} (e : ∀ k, h (k + 1) = g k) (H : Evt g r) : Evt h r := by
  obtain ⟨K, hK⟩ := H
  refine ⟨K + 1, fun k hk => ?_⟩
  obtain ⟨k, rfl⟩ : ∃ m, k = m + 1 := ⟨k - 1, by omega⟩
  rw [e]
  exact hK k (by omega)
theorem Evt.congr {α : Type} {g h : Nat → Option α} {r : α} (e : ∀ k, h k = g k) (H : Evt g r) : Evt h r := by
  obtain ⟨K, hK⟩ := H
  exact ⟨K, fun k hk => (e k).trans (hK k hk)⟩
theorem Evt.bind {α β : Type} {g : Nat → Option α} {f : α → Nat → Option β} {a : α} {r : β} (Hg : Evt g a) (Hf : Evt (f a) r) : Evt (fun k => (g k).bind (fun x => f x k)) r := by
  obtain ⟨K, hK⟩ := Hg
  obtain ⟨K', hK'⟩ := Hf
  refine ⟨max K K', fun k hk => ?_⟩
  show (g k).bind _ = _
  rw [hK k (by omega)]
  exact hK' k (by omega)
theorem Evt.ex {α : Type} {g : Nat → Option α} {r : α} (H : Evt g r) : ∃ k, g k = some r := by
  obtain ⟨K, hK⟩ := H
  exact ⟨K, hK K (Nat.le_refl _)⟩

theorem w64 {x : Int} (h0 : -9223372036854775808 ≤ x) (h1 : x ≤ 9223372036854775807) : wrap64 x = x := by
  unfold wrap64
  omega

/-! ### What an instruction sets, takes, and where it goes -/
def dv (c : S26) : Int := if c.f0 = 0 ∨ c.f0 = 1 ∨ c.f0 = 2 ∨ c.f0 = 3 ∨ c.f0 = 4 then c.f2 else 0
def db (c : S26) : Bool := decide (c.f0 = 0 ∨ c.f0 = 1 ∨ c.f0 = 2 ∨ c.f0 = 3 ∨ c.f0 = 4)
def us (c : S26) : List Int :=
  if c.f0 = 1 ∨ c.f0 = 7 ∨ c.f0 = 10 ∨ c.f0 = 12 then [c.f3]
  else if c.f0 = 2 then [c.f3, c.f4]
  else if c.f0 = 3 then [c.f3, c.f4, c.f5]
  else if c.f0 = 4 then (if c.f3 ≥ 0 then [c.f3] else [])
  else if c.f0 = 5 then (if c.f3 ≥ 0 then [c.f3, c.f4] else [c.f4])
  else []
def jm (c : S26) : Bool := decide (c.f0 = 6 ∨ c.f0 = 7)
def go (c : S26) : Bool := decide (¬ (c.f0 = 6 ∨ c.f0 = 13))
/-- Is it an operator? -/
def opr (o : Int) : Bool := decide (0 ≤ o ∧ o < 10)

theorem Defines_eq (c : S26) : code_Defines.f c.f0 c.f1 c.f2 c.f3 c.f4 c.f5 c.f6 c.f7 = some (dv c, db c) := by
  unfold code_Defines.f dv db
  repeat' split
  all_goals first | (simp_all; done) | (exfalso; omega)
theorem Jumps_eq (c : S26) : code_Jumps.f c.f0 c.f1 c.f2 c.f3 c.f4 c.f5 c.f6 c.f7 = some (jm c, go c) := by
  unfold code_Jumps.f jm go
  by_cases h6 : c.f0 = 6
  · simp [h6]
  · by_cases h7 : c.f0 = 7
    · simp [h7]
    · have : (c.f0 == 13) = decide (c.f0 = 13) := rfl
      simp [h6, h7, bne, decide_not, this]
theorem Uses_eq (c : S26) : Evt (fun k => code_Uses.f k c.f0 c.f1 c.f2 c.f3 c.f4 c.f5 c.f6 c.f7) (us c) := by
  refine Evt.succ (g := fun k => code_Uses.f (k + 1) c.f0 c.f1 c.f2 c.f3 c.f4 c.f5 c.f6 c.f7) (fun _ => rfl) (Evt.const fun k => ?_)
  unfold code_Uses.f us
  simp only [code_Uses.j0]
  by_cases h1 : c.f0 = 1
  · simp [h1]
  by_cases h7 : c.f0 = 7
  · simp [h7]
  by_cases h10 : c.f0 = 10
  · simp [h10]
  by_cases h12 : c.f0 = 12
  · simp [h12]
  by_cases h2 : c.f0 = 2
  · simp [h2]
  by_cases h3 : c.f0 = 3
  · simp [h3]
  by_cases h4 : c.f0 = 4
  · by_cases h : c.f3 ≥ 0 <;> simp [h4, h]
  by_cases h5 : c.f0 = 5
  · by_cases h : c.f3 ≥ 0 <;> simp [h5, h]
  simp [h1, h7, h10, h12, h2, h3, h4, h5]
theorem Tight_eq (o : Int) : ∃ t, word_Tight.f o = some t ∧ (t == 0) = !opr o ∧ decide (t > 0) = opr o := by
  unfold word_Tight.f opr
  simp only [Option.bind_some]
  by_cases h0 : o < 0
  · exact ⟨0, by rw [if_pos h0], by simp; omega, by simp; omega⟩
  · rw [if_neg h0]
    by_cases h1 : o ≥ (([6, 6, 7, 4, 1, 2, 5, 5, 3, 3] : List Int).length : Int)
    · rw [if_pos h1]
      simp at h1
      exact ⟨0, rfl, by simp; omega, by simp; omega⟩
    · rw [if_neg h1, if_pos (by omega), if_pos (by omega)]
      simp at h1
      refine ⟨_, rfl, ?_⟩
      have : o = 0 ∨ o = 1 ∨ o = 2 ∨ o = 3 ∨ o = 4 ∨ o = 5 ∨ o = 6 ∨ o = 7 ∨ o = 8 ∨ o = 9 := by omega
      rcases this with rfl | rfl | rfl | rfl | rfl | rfl | rfl | rfl | rfl | rfl <;> decide

/-! ### Good -/
def badOp (c : S26) : Bool := decide (c.f0 < 0) || (decide (c.f0 > 13) || (decide (c.f0 = 2) && !opr c.f1))
def badGo (n : Int) (c : S26) : Bool := jm c && (decide (c.f7 < 0) || decide (c.f7 ≥ n))
def badTo (c : S26) : Bool := decide (dv c < 0) || decide (dv c > 65535)
def okUse (u : Int) : Bool := !(decide (u < 0)) && !(decide (u > 65535))
def goodOne (n : Int) (c : S26) : Bool := !badOp c && (!badGo n c && (!badTo c && (us c).all okUse))

theorem rd_at (xs : List Int) (i : Nat) (h : i < xs.length) : rd xs (i : Int) = xs[i] := by
  unfold rd
  simp [h]
theorem rdT_at (xs : List S26) (i : Nat) (h : i < xs.length) : rd_T26 xs (i : Int) = xs[i] := by
  unfold rd_T26
  simp [h]

theorem Good_l1 (x0 x33 : List S26) (n : Int) (i : Int) (ys : List Int) (hy : ys.length ≤ 3) (r : Bool) (H : Evt (fun k => code_Good.l0 k x0 x33 n (wrap64 (i + 1))) r) (d : Nat) :
    ∀ j : Nat, ys.length - j = d → j ≤ ys.length → Evt (fun k => code_Good.l1 k x0 x33 n i ys (ys.length : Int) (j : Int)) ((ys.drop j).all okUse && r) := by
  induction d with
  | zero =>
    intro j hd hj
    have e : j = ys.length := by omega
    subst e
    refine Evt.succ (g := fun k => code_Good.l0 k x0 x33 n (wrap64 (i + 1))) (fun k => ?_) (by simpa using H)
    simp only [code_Good.l1]
    rw [if_neg (by omega)]
  | succ d ih =>
    intro j hd hj
    have hlt : j < ys.length := by omega
    have hdrop : ys.drop j = ys[j] :: ys.drop (j + 1) := by rw [List.drop_eq_getElem_cons hlt]
    have hbase : ∀ k, code_Good.l1 (k + 1) x0 x33 n i ys (ys.length : Int) (j : Int) = if ys[j] < 0 then some false else if ys[j] > 65535 then some false else code_Good.l1 k x0 x33 n i ys (ys.length : Int) ((j + 1 : Nat) : Int) := fun k => by
      simp only [code_Good.l1]
      rw [if_pos (by omega), if_pos (by omega), if_pos (by omega), rd_at ys j hlt, w64 (by omega) (by omega)]
      rfl
    by_cases h0 : ys[j] < 0
    · refine Evt.succ (g := fun _ => some false) (fun k => by rw [hbase, if_pos h0]) (Evt.const fun k => ?_)
      have ho : okUse ys[j] = false := by simp [okUse, h0]
      rw [hdrop, List.all_cons, ho, Bool.false_and, Bool.false_and]
    · by_cases h1 : ys[j] > 65535
      · refine Evt.succ (g := fun _ => some false) (fun k => by rw [hbase, if_neg h0, if_pos h1]) (Evt.const fun k => ?_)
        have ho : okUse ys[j] = false := by simp [okUse, h1]
        rw [hdrop, List.all_cons, ho, Bool.false_and, Bool.false_and]
      · refine Evt.succ (g := fun k => code_Good.l1 k x0 x33 n i ys (ys.length : Int) ((j + 1 : Nat) : Int)) (fun k => by rw [hbase, if_neg h0, if_neg h1]) ?_
        have := ih (j + 1) (by omega) (by omega)
        have ho : okUse ys[j] = true := by simp [okUse, h0, h1]
        rw [hdrop, List.all_cons, ho, Bool.true_and]
        exact this

theorem us_len (c : S26) : (us c).length ≤ 3 := by
  unfold us
  repeat' split
  all_goals simp

theorem Good_l0 (x0 xs : List S26) (hm : xs.length ≤ maxLen) (d : Nat) :
    ∀ i : Nat, xs.length - i = d → i ≤ xs.length → Evt (fun k => code_Good.l0 k x0 xs (xs.length : Int) (i : Int)) ((xs.drop i).all (goodOne (x0.length : Int))) := by
  unfold maxLen at hm
  induction d with
  | zero =>
    intro i hd hi
    have e : i = xs.length := by omega
    subst e
    refine Evt.succ (g := fun _ => some true) (fun k => ?_) (Evt.const fun k => by simp)
    simp only [code_Good.l0]
    rw [if_neg (by omega)]
  | succ d ih =>
    intro i hd hi
    have hlt : i < xs.length := by omega
    have hdrop : xs.drop i = xs[i] :: xs.drop (i + 1) := by rw [List.drop_eq_getElem_cons hlt]
    have hrec := ih (i + 1) (by omega) (by omega)
    have hw : wrap64 ((i : Int) + 1) = ((i + 1 : Nat) : Int) := by rw [w64 (by omega) (by omega)]; rfl
    generalize hc : xs[i] = c at *
    rw [hdrop, List.all_cons]
    -- behind the tests: the numbers that it takes
    have h5 : ∀ b, Evt (fun k => code_Good.j5 k x0 xs (xs.length : Int) (i : Int) b c.f0 c.f1 c.f2 c.f3 c.f4 c.f5 c.f6 c.f7) (!b && ((us c).all okUse && (xs.drop (i + 1)).all (goodOne (x0.length : Int)))) := by
      intro b
      cases b with
      | true => exact Evt.succ (g := fun _ => some false) (fun k => by simp [code_Good.j5]) (Evt.const fun k => by simp)
      | false =>
        refine Evt.succ (g := fun k => (code_Uses.f k c.f0 c.f1 c.f2 c.f3 c.f4 c.f5 c.f6 c.f7).bind fun t => code_Good.l1 k x0 xs (xs.length : Int) (i : Int) t (t.length : Int) 0) (fun k => by simp [code_Good.j5]) ?_
        refine Evt.bind (f := fun t k => code_Good.l1 k x0 xs (xs.length : Int) (i : Int) t (t.length : Int) 0) (Uses_eq c) ?_
        have := Good_l1 x0 xs (xs.length : Int) (i : Int) (us c) (us_len c) _ (by rw [hw]; exact hrec) _ 0 rfl (by omega)
        simpa using this
    have h4 : ∀ b, Evt (fun k => code_Good.j4 k x0 xs (xs.length : Int) (i : Int) b c.f0 c.f1 c.f2 c.f3 c.f4 c.f5 c.f6 c.f7) (!b && (!badTo c && ((us c).all okUse && (xs.drop (i + 1)).all (goodOne (x0.length : Int))))) := by
      intro b
      cases b with
      | true => exact Evt.succ (g := fun _ => some false) (fun k => by simp [code_Good.j4]) (Evt.const fun k => by simp)
      | false =>
        by_cases h : dv c < 0
        · refine Evt.succ (g := fun k => code_Good.j5 k x0 xs (xs.length : Int) (i : Int) true c.f0 c.f1 c.f2 c.f3 c.f4 c.f5 c.f6 c.f7) (fun k => by simp [code_Good.j4, Defines_eq, h]) ?_
          simpa [badTo, h] using h5 true
        · refine Evt.succ (g := fun k => code_Good.j5 k x0 xs (xs.length : Int) (i : Int) (decide (dv c > 65535)) c.f0 c.f1 c.f2 c.f3 c.f4 c.f5 c.f6 c.f7) (fun k => by simp only [code_Good.j4, Defines_eq, Option.bind_some]; rw [if_neg (by simp), if_neg h]) ?_
          simpa [badTo, h] using h5 (decide (dv c > 65535))
    have h3 : ∀ b, Evt (fun k => code_Good.j3 k x0 xs (xs.length : Int) (i : Int) b c.f0 c.f1 c.f2 c.f3 c.f4 c.f5 c.f6 c.f7) (!b && (!badGo (x0.length : Int) c && (!badTo c && ((us c).all okUse && (xs.drop (i + 1)).all (goodOne (x0.length : Int)))))) := by
      intro b
      cases b with
      | true => exact Evt.succ (g := fun _ => some false) (fun k => by simp [code_Good.j3]) (Evt.const fun k => by simp)
      | false =>
        by_cases hj : jm c = true
        · by_cases h : c.f7 < 0
          · refine Evt.succ (g := fun k => code_Good.j4 k x0 xs (xs.length : Int) (i : Int) true c.f0 c.f1 c.f2 c.f3 c.f4 c.f5 c.f6 c.f7) (fun k => by simp [code_Good.j3, Jumps_eq, h, hj]) ?_
            simpa [badGo, h, hj] using h4 true
          · refine Evt.succ (g := fun k => code_Good.j4 k x0 xs (xs.length : Int) (i : Int) (decide (c.f7 ≥ (x0.length : Int))) c.f0 c.f1 c.f2 c.f3 c.f4 c.f5 c.f6 c.f7) (fun k => by simp only [code_Good.j3, Jumps_eq, Option.bind_some]; rw [if_neg (by simp), if_pos hj, if_neg h]) ?_
            simpa [badGo, h, hj] using h4 (decide (c.f7 ≥ (x0.length : Int)))
        · refine Evt.succ (g := fun k => code_Good.j4 k x0 xs (xs.length : Int) (i : Int) false c.f0 c.f1 c.f2 c.f3 c.f4 c.f5 c.f6 c.f7) (fun k => by simp only [code_Good.j3, Jumps_eq, Option.bind_some]; rw [if_neg (by simp), if_neg hj]) ?_
          simpa [badGo, hj] using h4 false
    have hstep : ∀ k, code_Good.l0 (k + 1) x0 xs (xs.length : Int) (i : Int) = code_Good.j3 k x0 xs (xs.length : Int) (i : Int) (badOp c) c.f0 c.f1 c.f2 c.f3 c.f4 c.f5 c.f6 c.f7 := fun k => by
      simp only [code_Good.l0]
      rw [if_pos (by omega), if_pos (by omega), if_pos (by omega), rdT_at xs i hlt, hc]
      by_cases h0 : c.f0 < 0
      · rw [if_pos h0]; simp [badOp, h0]
      · rw [if_neg h0]
        by_cases h1 : c.f0 > 13
        · rw [if_pos h1]; simp [badOp, h1]
        · rw [if_neg h1]
          by_cases h2 : c.f0 = 2
          · rw [if_pos h2]
            obtain ⟨t, ht, hz, _⟩ := Tight_eq c.f1
            rw [ht, Option.bind_some, hz]
            simp [badOp, h2]
          · rw [if_neg h2]; simp [badOp, h0, h1, h2]
    refine Evt.succ hstep ?_
    have := h3 (badOp c)
    simp only [goodOne, Bool.and_assoc]
    exact this

/-- Whether codes are good. -/
def goodB (l : List S26) : Bool :=
  decide (l ≠ []) && (decide (l.length ≤ 4096) && ((decide ((l.getLastD z26).f0 = 13) || decide ((l.getLastD z26).f0 = 6)) && l.all (goodOne (l.length : Int))))

theorem Good_eq (l : List S26) (hm : l.length ≤ maxLen) : Evt (fun k => code_Good.f k l) (goodB l) := by
  have hm' := hm
  unfold maxLen at hm
  have h1 : Evt (fun k => code_Good.j1 k l false) (l.all (goodOne (l.length : Int))) := by
    refine Evt.succ (g := fun k => code_Good.l0 k l l (l.length : Int) 0) (fun k => by simp [code_Good.j1]) ?_
    have := Good_l0 l l hm' _ 0 rfl (by omega)
    simpa using this
  have h1t : Evt (fun k => code_Good.j1 k l true) false := Evt.succ (g := fun _ => some false) (fun k => by simp [code_Good.j1]) (Evt.const fun _ => rfl)
  have h0t : Evt (fun k => code_Good.j0 k l true) false := Evt.succ (g := fun _ => some false) (fun k => by simp [code_Good.j0]) (Evt.const fun _ => rfl)
  unfold goodB
  by_cases hn : l = []
  · subst hn
    exact Evt.congr (g := fun k => code_Good.j0 k [] true) (fun k => by simp [code_Good.f]) (by simpa using h0t)
  · have hpos : 0 < l.length := List.length_pos_iff.2 hn
    by_cases hb : l.length ≤ 4096
    · have hlast : rd_T26 l (wrap64 ((l.length : Int) - 1)) = l.getLastD z26 := by
        rw [w64 (by omega) (by omega), show (l.length : Int) - 1 = ((l.length - 1 : Nat) : Int) by omega, rdT_at l _ (by omega)]
        rw [List.getLastD_eq_getLast?, List.getLast?_eq_getElem?, List.getElem?_eq_getElem (by omega)]
        rfl
      generalize l.getLastD z26 = lc at *
      refine Evt.congr (g := fun k => code_Good.j0 k l false) (fun k => by unfold code_Good.f; rw [if_neg (by omega), decide_eq_false (by omega)]) ?_
      by_cases h13 : lc.f0 = 13
      · refine Evt.succ (g := fun k => code_Good.j1 k l false) (fun k => ?_) ?_
        · simp only [code_Good.j0]
          rw [if_neg (by simp), w64 (by omega) (by omega), if_pos (by omega), if_pos (by omega)]
          rw [w64 (by omega) (by omega)] at hlast
          rw [hlast, if_pos h13]
        · simpa [hn, hb, h13] using h1
      · refine Evt.succ (g := fun k => code_Good.j1 k l (lc.f0 != 6)) (fun k => ?_) ?_
        · simp only [code_Good.j0]
          rw [if_neg (by simp), w64 (by omega) (by omega), if_pos (by omega), if_pos (by omega)]
          rw [w64 (by omega) (by omega)] at hlast
          rw [hlast, if_neg h13]
        · by_cases h6 : lc.f0 = 6
          · simpa [hn, hb, h13, h6] using h1
          · have e : (lc.f0 != 6) = true := by simpa using h6
            rw [e]
            simpa [hn, hb, h13, h6] using h1t
    · refine Evt.congr (g := fun k => code_Good.j0 k l true) (fun k => by unfold code_Good.f; rw [if_neg (by omega), decide_eq_true (by omega)]) ?_
      simpa [hb] using h0t
end Go.Proofs.YtcgnbknbnbgcmaaDoor.PQ
