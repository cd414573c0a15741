/- CodeEnds: the walk, and that what it computes answers true. -/
import Derived.Test.YtcgnbknbnbgcmaaDoorSpec2
import Derived.Test.YtcgnbknbnbgcmaaDoorPQx8
namespace Go.Proofs.YtcgnbknbnbgcmaaDoor.PQ
open Go.RowKit Go.Proofs.YtcgnbknbnbgcmaaDoorW.PrintWords Go.Proofs.YtcgnbknbnbgcmaaDoorW.PrintLast Go.Proofs.YtcgnbknbnbgcmaaDoorW.PrintMore

/-- Does an instruction go to k or beyond? -/
def far (k : Int) (c : S26) : Bool := jm c && decide (c.f7 ≥ k)

theorem good_cut (l : List S26) (h : goodB l = true) (k : Nat) (h1 : 1 ≤ k) (hk : k < l.length) :
    goodB (l.take k) = ((decide (l[k - 1].f0 = 13) || decide (l[k - 1].f0 = 6)) && !(l.take k).any (far k)) := by
  unfold goodB at *
  simp only [Bool.and_eq_true, decide_eq_true_eq, Bool.or_eq_true, List.all_eq_true] at h
  obtain ⟨hn, hle, hlast, hall⟩ := h
  have hlen : (l.take k).length = k := by rw [List.length_take]; omega
  have hne : l.take k ≠ [] := fun e => by rw [e] at hlen; simp at hlen; omega
  have hl : (l.take k).getLastD z26 = l[k - 1] := by
    rw [List.getLastD_eq_getLast?, List.getLast?_eq_getElem?, hlen, List.getElem?_take, if_pos (by omega), List.getElem?_eq_getElem (by omega)]
    rfl
  rw [hl, hlen, decide_eq_true hne, decide_eq_true (show k ≤ 4096 by omega), Bool.true_and, Bool.true_and]
  congr 1
  rw [Bool.eq_iff_iff]
  simp only [List.all_eq_true, Bool.not_eq_true', List.any_eq_false]
  have key : ∀ x ∈ l.take k, (goodOne (k : Int) x = true ↔ ¬ far (k : Int) x = true) := by
    intro x hx
    have hg := hall x (List.mem_of_mem_take hx)
    unfold goodOne badGo at *
    unfold far
    simp only [Bool.and_eq_true, Bool.not_eq_true', Bool.and_eq_false_iff, Bool.or_eq_false_iff, decide_eq_false_iff_not, decide_eq_true_eq] at *
    obtain ⟨g1, g2, g3, g4⟩ := hg
    constructor
    · rintro ⟨_, hz, _⟩ ⟨e1, e2⟩
      rcases hz with hz | hz
      · rw [hz] at e1; cases e1
      · exact hz.2 e2
    · intro hz
      refine ⟨g1, ?_, g3, g4⟩
      rcases g2 with g2 | g2
      · exact .inl g2
      · by_cases hj : jm x = true
        · exact .inr ⟨g2.1, fun e => hz ⟨hj, e⟩⟩
        · exact .inl (by simpa using hj)
  constructor
  · intro h x hx
    exact (key x hx).1 (h x hx)
  · intro h x hx
    exact (key x hx).2 (h x hx)

theorem Ends_l1 (l : List S26) (hm : l.length ≤ 60) (k : Nat) (hk : k < l.length)
    (H : ∀ x4, x4 = goodB (l.take k) → Evt (fun q => tautochronelaw12_CodeEnds.l0 q l ((k + 1 : Nat) : Int)) true) (hk1 : 1 ≤ k) (d : Nat) :
    ∀ (i : Nat) (x4 : Bool), k - i = d → i ≤ k → (x4 && !((l.take k).drop i).any (far k)) = goodB (l.take k) →
      Evt (fun q => tautochronelaw12_CodeEnds.l1 q l (k : Int) x4 (l.take k) ((l.take k).length : Int) (i : Int)) true := by
  have hlen : (l.take k).length = k := by rw [List.length_take]; omega
  induction d with
  | zero =>
    intro i x4 hd hi he
    obtain rfl : i = k := by omega
    have hx : x4 = goodB (l.take i) := by
      rw [List.drop_eq_nil_of_le (by omega)] at he
      simpa using he
    refine Evt.succ (g := fun q => (code_Good.f q (l.take i)).bind fun t => if (t != x4) = true then some false else tautochronelaw12_CodeEnds.l0 q l ((i + 1 : Nat) : Int)) (fun q => ?_) ?_
    · simp only [tautochronelaw12_CodeEnds.l1]
      rw [if_neg (by omega), if_pos (by omega), if_pos (by omega), Int.toNat_natCast, w64 (by omega) (by omega)]
      rfl
    · refine Evt.bind (f := fun t q => if (t != x4) = true then some false else tautochronelaw12_CodeEnds.l0 q l ((i + 1 : Nat) : Int)) (Good_eq _ (by unfold maxLen; omega)) ?_
      rw [← hx]
      refine Evt.congr (g := fun q => tautochronelaw12_CodeEnds.l0 q l ((i + 1 : Nat) : Int)) (fun q => by simp) (H x4 hx)
  | succ d ih =>
    intro i x4 hd hi he
    have hlt : i < (l.take k).length := by omega
    have hdrop : (l.take k).drop i = (l.take k)[i] :: (l.take k).drop (i + 1) := List.drop_eq_getElem_cons hlt
    rw [hdrop, List.any_cons] at he
    generalize hc : (l.take k)[i] = c at *
    refine Evt.succ (g := fun q => tautochronelaw12_CodeEnds.l1 q l (k : Int) (x4 && !far k c) (l.take k) ((l.take k).length : Int) ((i + 1 : Nat) : Int)) (fun q => ?_) ?_
    · simp only [tautochronelaw12_CodeEnds.l1]
      rw [if_pos (by omega), if_pos (by omega), if_pos (by omega), rdT_at _ i hlt, hc, Jumps_eq, Option.bind_some, w64 (by omega) (by omega)]
      by_cases hj : jm c = true
      · rw [if_pos hj]
        by_cases h7 : c.f7 ≥ (k : Int)
        · rw [if_pos h7]
          have : (x4 && !far k c) = false := by simp [far, hj, h7]
          rw [this]
          rfl
        · rw [if_neg h7]
          have : (x4 && !far k c) = x4 := by simp [far, hj, h7]
          rw [this]
          rfl
      · rw [if_neg hj]
        have : (x4 && !far k c) = x4 := by simp [far, hj]
        rw [this]
        rfl
    · refine ih (i + 1) _ (by omega) (by omega) ?_
      rw [← he]
      cases x4 <;> cases far (k : Int) c <;> simp

theorem Ends_l0 (l : List S26) (hm : l.length ≤ 60) (hg : goodB l = true) (d : Nat) :
    ∀ k : Nat, l.length - k = d → 1 ≤ k → k ≤ l.length → Evt (fun q => tautochronelaw12_CodeEnds.l0 q l (k : Int)) true := by
  induction d with
  | zero =>
    intro k hd h1 hk
    refine Evt.succ (g := fun _ => some true) (fun q => ?_) (Evt.const fun _ => rfl)
    simp only [tautochronelaw12_CodeEnds.l0]
    rw [if_neg (by omega)]
  | succ d ih =>
    intro k hd h1 hk
    have hlt : k < l.length := by omega
    have hend : ∀ b, b = (decide (l[k - 1].f0 = 13) || decide (l[k - 1].f0 = 6)) → Evt (fun q => tautochronelaw12_CodeEnds.j2 q l (k : Int) b) true := by
      rintro b rfl
      refine Evt.succ (g := fun q => tautochronelaw12_CodeEnds.l1 q l (k : Int) (decide (l[k - 1].f0 = 13) || decide (l[k - 1].f0 = 6)) (l.take k) ((l.take k).length : Int) 0) (fun q => ?_) ?_
      · simp only [tautochronelaw12_CodeEnds.j2]
        rw [if_pos (by omega), if_pos (by omega), Int.toNat_natCast, Option.bind_some]
      · exact Ends_l1 l hm k hlt (fun _ _ => ih (k + 1) (by omega) (by omega) (by omega)) h1 k 0 _ (by omega) (by omega) (by rw [good_cut l hg k h1 hlt, List.drop_zero])
    have hr : rd_T26 l (wrap64 ((k : Int) - 1)) = l[k - 1] := by
      rw [w64 (by omega) (by omega), show (k : Int) - 1 = ((k - 1 : Nat) : Int) by omega, rdT_at l _ (by omega)]
    refine Evt.succ (g := fun q => tautochronelaw12_CodeEnds.j2 q l (k : Int) (decide (l[k - 1].f0 = 13) || decide (l[k - 1].f0 = 6))) (fun q => ?_) (hend _ rfl)
    simp only [tautochronelaw12_CodeEnds.l0]
    rw [hr, w64 (by omega) (by omega), if_pos (by omega), if_pos (by omega), if_pos (by omega)]
    by_cases h13 : l[k - 1].f0 = 13
    · rw [if_pos h13, decide_eq_true h13, Bool.true_or]
    · rw [if_neg h13, decide_eq_false h13, Bool.false_or]
      rfl

theorem pureCodeEnds (l : List S26) (hm : l.length ≤ maxLen) : ∃ k, tautochronelaw12_CodeEnds.f k l = some true := by
  refine Evt.ex (g := fun k => tautochronelaw12_CodeEnds.f k l) ?_
  refine Evt.bind (f := fun t k => if t = true then (if (l.length : Int) > 60 then (some true) else ((code_Next.f k 13 0 0 0 0 0 0 1 0 9).bind fun t296 => (if (t296.length : Int) = 0 then ((code_Good.f k ([] : List (S26))).bind fun t299 => (tautochronelaw12_CodeEnds.j0 k l t299)) else (tautochronelaw12_CodeEnds.j0 k l true)))) else (some false)) awake_eq ?_
  by_cases h : (l.length : Int) > 60
  · exact Evt.const fun k => by simp [h]
  · refine Evt.congr (g := fun k => (code_Next.f k 13 0 0 0 0 0 0 1 0 9).bind fun t296 => (if (t296.length : Int) = 0 then ((code_Good.f k ([] : List (S26))).bind fun t299 => (tautochronelaw12_CodeEnds.j0 k l t299)) else (tautochronelaw12_CodeEnds.j0 k l true))) (fun k => by rw [if_pos rfl, if_neg h]) ?_
    refine Evt.bind (f := fun t k => if (t.length : Int) = 0 then ((code_Good.f k ([] : List (S26))).bind fun t299 => (tautochronelaw12_CodeEnds.j0 k l t299)) else (tautochronelaw12_CodeEnds.j0 k l true)) (Next_eq ⟨13, 0, 0, 0, 0, 0, 0, 1⟩ 0 9 (by omega) (by omega)) ?_
    have hn : nextOf ⟨13, 0, 0, 0, 0, 0, 0, 1⟩ 0 9 = [] := by decide
    rw [hn]
    refine Evt.congr (g := fun k => (code_Good.f k ([] : List (S26))).bind fun t299 => (tautochronelaw12_CodeEnds.j0 k l t299)) (fun k => by simp) ?_
    refine Evt.bind (f := fun t k => tautochronelaw12_CodeEnds.j0 k l t) (Good_eq [] (by simp)) ?_
    have hz : goodB [] = false := by simp [goodB]
    rw [hz]
    refine Evt.succ (g := fun k => (code_Good.f k l).bind fun t => if t = true then tautochronelaw12_CodeEnds.l0 k l 1 else some true) (fun k => by simp [tautochronelaw12_CodeEnds.j0]) ?_
    refine Evt.bind (f := fun t k => if t = true then tautochronelaw12_CodeEnds.l0 k l 1 else some true) (Good_eq l hm) ?_
    cases hg : goodB l with
    | false => exact Evt.const fun k => by simp
    | true =>
      refine Evt.congr (g := fun k => tautochronelaw12_CodeEnds.l0 k l ((1 : Nat) : Int)) (fun k => by simp) ?_
      have hne : 0 < l.length := by
        cases l with
        | nil => rw [hz] at hg; cases hg
        | cons a b => simp
      exact Ends_l0 l (by omega) hg _ 1 rfl (by omega) (by omega)

theorem walkCodeEnds (W : World) (A : Option Addr) (c : Nat) (l : List S26) (hr : Kd.C k26 W A l.length l) (hc : l.length ≤ c) (hm : l.length ≤ maxLen) (_hw : ∀ y ∈ l, y.wf) :
    Calls Tryd.prog 7 #[.slice A l.length c] W fun e W' => e = .returned (.bool true) ∧ Below W.heap.size W W' := by
  obtain ⟨k, h⟩ := pureCodeEnds l hm
  exact tautochronelaw12_CodeEnds.calls k A c l true W hr hc h
end Go.Proofs.YtcgnbknbnbgcmaaDoor.PQ
