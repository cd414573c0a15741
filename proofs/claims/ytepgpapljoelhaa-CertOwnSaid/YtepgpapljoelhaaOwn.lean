/- The plain law of CertOwn. -/
import Derived.Test.YtepgpapljoelhaaUps
import Derived.Test.YtepgpapljoelhaaPAx9
namespace Go.Proofs.Ytepgpapljoelhaa.PA
open Go.RowKit Go.Proofs.YtepgpapljoelhaaW.PrintWords
set_option linter.unusedVariables false
set_option linter.unusedSimpArgs false

def ownF (i : Nat) : Int := (i : Int)
def sltF (i : Nat) : Int := -1 - (i : Int)
theorem all_ups_not {f : Nat → Int} {n i : Nat} {p : Int → Bool} (hi : i < n) (h : p (f i) = false) : (ups f n).all p = false := by
  rw [← Bool.not_eq_true, List.all_eq_true]
  intro hx
  have := hx (f i) (List.mem_map.2 ⟨i, List.mem_range.2 hi, rfl⟩)
  rw [h] at this
  cases this
theorem own_l0 (raw : List S37) (n : Nat) (hn : valsOf (smallOf raw) = (n : Int)) :
    ∀ (d j : Nat), j + d = n → Evt (fun k => tautochronelaw18_CertOwn.l0 k (smallOf raw) (n : Int) (ups ownF j) (ups sltF j) (j : Int)) true
  | 0, j, hj => by
    obtain rfl : j = n := by omega
    have h8 := vals_le raw
    have ho := good_ups raw ownF (fun i hi => by unfold ownF; omega) hn (fun i j e => by unfold ownF at e; omega)
    have hs := good_ups raw sltF (fun i hi => by unfold sltF; omega) hn (fun i j e => by unfold sltF at e; omega)
    have a1 : (ups ownF j).all (inW (j : Int) 0) = true := all_ups fun i hi => by
      unfold inW ownF
      rw [w64 (by omega) (by omega), decide_eq_false (by omega), decide_eq_false (by omega)]
      rfl
    have a2 : (ups sltF j).all (inW 0 (j : Int)) = true := all_ups fun i hi => by
      unfold inW sltF
      rw [w64 (by omega) (by omega), decide_eq_false (by omega), decide_eq_false (by omega)]
      rfl
    have o1 := ho (j : Int) 0
    have o2 := hs 0 (j : Int)
    rw [a1] at o1
    rw [a2] at o2
    by_cases c : j = 0
    · refine Evt.step4 o1 o2 o1 o2 fun k e1 e2 _ _ => ?_
      rw [tautochronelaw18_CertOwn.l0, if_neg (by omega), e1, Option.bind_some, if_pos rfl, e2, Option.bind_some, if_pos rfl, if_pos (by omega)]
    · have o3 := ho ((j : Int) - 1) 0
      have o4 := hs 0 ((j : Int) - 1)
      rw [all_ups_not (i := j - 1) (by omega) (by unfold inW ownF; rw [decide_eq_true (by omega)]; rfl)] at o3
      rw [all_ups_not (i := j - 1) (by omega) (by unfold inW sltF; rw [w64 (by omega) (by omega), decide_eq_true (p := _ < _) (by omega)]; simp)] at o4
      refine Evt.step4 o1 o2 o3 o4 fun k e1 e2 e3 e4 => ?_
      rw [tautochronelaw18_CertOwn.l0, if_neg (by omega), e1, Option.bind_some, if_pos rfl, e2, Option.bind_some, if_pos rfl, if_neg (by omega), w64 (by omega) (by omega), e3, Option.bind_some, if_neg (by simp), e4, Option.bind_some]
      rfl
  | d + 1, j, hj => by
    have h8 := vals_le raw
    have ih := own_l0 raw n hn d (j + 1) (by omega)
    have hwr : wrap64 ((j : Int) + 1) = ((j + 1 : Nat) : Int) := by rw [w64 (by omega) (by omega)]; omega
    have hws : wrap64 (-1 - (j : Int)) = -1 - (j : Int) := w64 (by omega) (by omega)
    refine Evt.succ (fun k => ?_) ih
    rw [tautochronelaw18_CertOwn.l0, if_pos (by omega), if_pos (by rw [ups_len]; omega), if_pos (by rw [ups_len]; omega), hwr, hws, ups_succ, ups_succ]
    rfl
theorem certOwn_evt (raw : List S37) : Evt (fun k => tautochronelaw18_CertOwn.f k raw) true := by
  obtain ⟨n, hn⟩ := vals_nat raw
  have hl := own_l0 raw n hn n 0 (by omega)
  have hv := vals_small raw
  rw [hn] at hv
  refine Evt.congr (fun k => ?_) (Evt.bind (f := fun t k => if t = true then ((tautochronelaw13_Small.f k raw).bind fun t246 => ((code_Values.f k t246).bind fun t249 => (tautochronelaw18_CertOwn.l0 k t246 t249 ([] : List Int) ([] : List Int) 0))) else (some false)) awake_evt ?_) (r := true)
  · rfl
  · simp only [if_true]
    exact Evt.bind (f := fun t k => (code_Values.f k t).bind fun t249 => (tautochronelaw18_CertOwn.l0 k t t249 ([] : List Int) ([] : List Int) 0)) (small_eq raw) (Evt.bind (f := fun t k => tautochronelaw18_CertOwn.l0 k (smallOf raw) t ([] : List Int) ([] : List Int) 0) hv hl)

end Go.Proofs.Ytepgpapljoelhaa.PA
