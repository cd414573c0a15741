/- CodeNext: the walk, and that what it computes answers true. -/
import Derived.Test.YtcgnbknbnbgcmaaDoorSpec3
import Derived.Test.YtcgnbknbnbgcmaaDoorPQx7
namespace Go.Proofs.YtcgnbknbnbgcmaaDoor.PQ
open Go.RowKit Go.Proofs.YtcgnbknbnbgcmaaDoorW.PrintWords Go.Proofs.YtcgnbknbnbgcmaaDoorW.PrintLast Go.Proofs.YtcgnbknbnbgcmaaDoorW.PrintMore
set_option linter.unusedSimpArgs false

/-- Does place k come behind place at? -/
def behind (c : S26) (at_ k : Int) : Bool := (go c && decide (k = at_ + 1)) || (jm c && decide (k = c.f7))

theorem nextOf_zero (c : S26) (at_ : Int) (h0 : 0 ≤ at_) : nextOf c at_ 0 = [] := by
  unfold nextOf
  rw [if_neg (by omega), if_neg (by omega)]
theorem nextOf_succ (c : S26) (at_ : Int) (n : Nat) (h0 : 0 ≤ at_) : nextOf c at_ ((n + 1 : Nat) : Int) = nextOf c at_ (n : Int) ++ (if behind c at_ (n : Int) = true then [(n : Int)] else []) := by
  unfold nextOf behind
  rw [show ((n + 1 : Nat) : Int) = (n : Int) + 1 from rfl]
  have hm : 0 ≤ (n : Int) := by omega
  generalize (n : Int) = m at *
  have e1 : (at_ + 1 < m + 1) = (at_ + 1 < m ∨ m = at_ + 1) := propext (by omega)
  have e2 : (c.f7 < m + 1) = (c.f7 < m ∨ m = c.f7) := propext (by omega)
  generalize hq : c.f7 = q at *
  simp only [e1, e2]
  cases go c <;> cases jm c <;> by_cases h1 : at_ + 1 < m <;> by_cases h2 : m = at_ + 1 <;> by_cases h3 : 0 ≤ q <;> by_cases h4 : q < m <;> by_cases h5 : m = q <;> by_cases h6 : q > at_ + 1 <;> by_cases h7 : q < at_ + 1 <;>
    first
      | (exfalso; omega)
      | (simp [h1, h2, h3, h4, h5, h6, h7]; done)
      | (simp [h1, h2, h3, h4, h5, h6, h7]; omega)
      | (subst h2; simp [h3, h4, h5, h6, h7]; done)
      | (subst h2; simp [h3, h4, h5, h6, h7]; omega)
      | (subst h5; simp [h1, h2, h3, h4, h6, h7]; done)
      | (subst h5; simp [h1, h2, h3, h4, h6, h7]; omega)
theorem nextOf_len (c : S26) (at_ n : Int) : (nextOf c at_ n).length ≤ 2 := by
  unfold nextOf
  dsimp only
  repeat' split
  all_goals simp

theorem Next_loop (c : S26) (at_ : Int) (n : Nat) (h0 : 0 ≤ at_) (h1 : at_ ≤ 255) (hn : n ≤ 255) (d : Nat) :
    ∀ i : Nat, n - i = d → i ≤ n → Evt (fun k => tautochronelaw12_CodeNext.l0 k at_ (n : Int) (nextOf c at_ (i : Int)) (i : Int) c.f0 c.f1 c.f2 c.f3 c.f4 c.f5 c.f6 c.f7) true := by
  have wn : wrap64 (n : Int) = n := w64 (by omega) (by omega)
  have wa : wrap64 at_ = at_ := w64 (by omega) (by omega)
  have wa1 : wrap64 (at_ + 1) = at_ + 1 := w64 (by omega) (by omega)
  induction d with
  | zero =>
    intro i hd hi
    obtain rfl : i = n := by omega
    refine Evt.succ (g := fun k => (code_Next.f k c.f0 c.f1 c.f2 c.f3 c.f4 c.f5 c.f6 c.f7 at_ (i : Int)).bind fun t => (tautochronelaw12_same.f k t (nextOf c at_ (i : Int))).bind fun t2 => some t2) (fun k => ?_) ?_
    · simp only [tautochronelaw12_CodeNext.l0]
      rw [wn, wa, if_neg (by omega)]
    · refine Evt.bind (f := fun t k => (tautochronelaw12_same.f k t (nextOf c at_ (i : Int))).bind fun t2 => some t2) (Next_eq c at_ i h0 (by omega)) ?_
      exact Evt.bind (f := fun t _ => some t) (same_refl _ (by have := nextOf_len c at_ i; omega)) (Evt.const fun _ => rfl)
  | succ d ih =>
    intro i hd hi
    refine Evt.succ (g := fun k => tautochronelaw12_CodeNext.l0 k at_ (n : Int) (nextOf c at_ ((i + 1 : Nat) : Int)) ((i + 1 : Nat) : Int) c.f0 c.f1 c.f2 c.f3 c.f4 c.f5 c.f6 c.f7) (fun k => ?_) (ih (i + 1) (by omega) (by omega))
    have hl := nextOf_len c at_ i
    have wi : wrap64 ((i : Int) + 1) = ((i + 1 : Nat) : Int) := by rw [w64 (by omega) (by omega)]; rfl
    have hlt : (nextOf c at_ (i : Int)).length < 17592186044416 := by omega
    rw [nextOf_succ c at_ i h0]
    simp only [tautochronelaw12_CodeNext.l0]
    rw [wn, wa, wa1, wi, if_pos (by omega)]
    unfold behind go jm
    generalize nextOf c at_ (i : Int) = xs at *
    by_cases h6 : c.f0 = 6
    · by_cases h7 : (i : Int) = c.f7 <;> simp [h6, h7, hlt]
    · by_cases h13 : c.f0 = 13
      · simp [h13]
      · by_cases ha : (i : Int) = at_ + 1
        · simp [h6, h13, ha, hlt]
        · by_cases hz : c.f0 = 7
          · by_cases h7 : (i : Int) = c.f7
            · rw [h7] at ha
              simp [h7, ha, hlt, hz]
            · simp [h7, ha, hz]
          · simp [h6, h13, ha, hz]

theorem pureCodeNext (c : S26) (a1 a2 : Int) (h1 : 0 ≤ a1 ∧ a1 ≤ 255) (h2 : 0 ≤ a2 ∧ a2 ≤ 255) : ∃ k, tautochronelaw12_CodeNext.f k c.f0 c.f1 c.f2 c.f3 c.f4 c.f5 c.f6 c.f7 a1 a2 = some true := by
  refine Evt.ex (g := fun k => tautochronelaw12_CodeNext.f k c.f0 c.f1 c.f2 c.f3 c.f4 c.f5 c.f6 c.f7 a1 a2) ?_
  refine Evt.bind (f := fun t k => if t = true then (tautochronelaw12_CodeNext.l0 k a1 a2 ([] : List Int) 0 c.f0 c.f1 c.f2 c.f3 c.f4 c.f5 c.f6 c.f7) else (some false)) awake_eq ?_
  obtain ⟨n, rfl⟩ := Int.eq_ofNat_of_zero_le h2.1
  have := Next_loop c a1 n h1.1 h1.2 (by omega) _ 0 rfl (by omega)
  rw [show ((0 : Nat) : Int) = 0 from rfl, nextOf_zero c a1 h1.1] at this
  exact Evt.congr (fun k => by rw [if_pos rfl]) this

theorem u8_wf {n : Int} (h : (Lit.int .u8 n).wf = true) : 0 ≤ n ∧ n ≤ 255 := by
  simp only [Lit.wf, IntKind.min, IntKind.max, IntKind.signed, IntKind.bits, Bool.and_eq_true] at h
  simpa using h

theorem walkCodeNext (W : World) (x : S26) (_w0 : x.wf) (a1 : Int) (w1 : (Lit.int .u8 a1).wf = true) (a2 : Int) (w2 : (Lit.int .u8 a2).wf = true) :
    Calls Tryd.prog 6 #[.agg #[.int .i64 x.f0, .int .i64 x.f1, .int .i64 x.f2, .int .i64 x.f3, .int .i64 x.f4, .int .i64 x.f5, .int .u64 x.f6, .int .i64 x.f7], .int .u8 a1, .int .u8 a2] W fun e W' => e = .returned (.bool true) ∧ Below W.heap.size W W' := by
  obtain ⟨k, h⟩ := pureCodeNext x a1 a2 (u8_wf w1) (u8_wf w2)
  exact tautochronelaw12_CodeNext.calls k _ _ _ _ _ _ _ _ a1 a2 true W h
end Go.Proofs.YtcgnbknbnbgcmaaDoor.PQ
