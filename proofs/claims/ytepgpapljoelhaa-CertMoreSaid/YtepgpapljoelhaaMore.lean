/- The plain law of CertMore. -/
import Derived.Test.YtepgpapljoelhaaPAx10
import Derived.Test.YtepgpapljoelhaaSmg
namespace Go.Proofs.Ytepgpapljoelhaa.PA
open Go.RowKit Go.Proofs.YtepgpapljoelhaaW.PrintWords
set_option linter.unusedVariables false
set_option linter.unusedSimpArgs false

theorem more_l0 (raw : List S37) (wh : List Int) (reg sl more : Int) (hw : ∀ y ∈ wh, (Lit.int .i8 y).wf = true) (h0 : -128 ≤ reg) (h1 : reg ≤ 127) (h2 : -128 ≤ sl) (h3 : sl ≤ 127) (h4 : 0 ≤ more) (h5 : more ≤ 255) (n : Nat) (hn : valsOf (smallOf raw) = (n : Int)) :
    ∀ (d j : Nat), j + d = n → Evt (fun k => tautochronelaw18_CertMore.l0 k wh reg sl more (smallOf raw) (plsOf wh j) (j : Int)) true
  | 0, j, hj => by
    obtain rfl : j = n := by omega
    have h8 := vals_le raw
    obtain ⟨rows, hr, _⟩ := live_Of_some (offit_small raw)
    have hl : ((plsOf wh j).length : Int) = valsOf (smallOf raw) := by rw [plsOf_len, hn]
    have hg := good_small raw (plsOf wh j) hl (pls_wf hw (by omega)) hr
    refine Evt.step3 (vals_small raw) (hg reg sl) (hg (reg + more) (sl + more)) fun k hv ha hb => ?_
    rw [tautochronelaw18_CertMore.l0, hv, Option.bind_some, if_neg (by omega), w64 (x := reg) (by omega) (by omega), w64 (x := sl) (by omega) (by omega), w64 (x := more) (by omega) (by omega), w64 (x := reg + more) (by omega) (by omega), w64 (x := sl + more) (by omega) (by omega), ha, Option.bind_some, hb, Option.bind_some]
    by_cases c : (plsOf wh j).all (inW reg sl) = true
    · have c' : (plsOf wh j).all (inW (reg + more) (sl + more)) = true := List.all_eq_true.2 fun w hw => inW_more h0 h1 h2 h3 h4 h5 (List.all_eq_true.1 c w hw)
      rw [c, c']
      cases (List.range (smallOf raw).length).all (okAt (smallOf raw) (plsOf wh j) rows) <;> simp
    · rw [Bool.not_eq_true] at c
      rw [c]
      simp
  | d + 1, j, hj => by
    have h8 := vals_le raw
    have ih := more_l0 raw wh reg sl more hw h0 h1 h2 h3 h4 h5 n hn d (j + 1) (by omega)
    have hwr : wrap64 ((j : Int) + 1) = ((j + 1 : Nat) : Int) := by rw [w64 (by omega) (by omega)]; omega
    refine Evt.step (vals_small raw) ih fun k hv => ?_
    rw [tautochronelaw18_CertMore.l0, hv, Option.bind_some, if_pos (by omega), hwr, plsOf_succ]
    by_cases c : (j : Int) < (wh.length : Int)
    · have hb := w8 (hw _ (rd_mem (xs := wh) (i := (j : Int)) (by omega) c))
      have e : plOf wh j = wrap64 (rd wh (j : Int)) := by unfold plOf; rw [if_pos (by omega), w64 (by omega) (by omega)]
      rw [if_pos c, if_pos (by omega), if_pos (by rw [plsOf_len]; omega), e]
    · have e : plOf wh j = (j : Int) := by unfold plOf; rw [if_neg (by omega)]
      rw [if_neg c, if_pos (by rw [plsOf_len]; omega), e]
theorem certMore_evt (raw : List S37) (wh : List Int) (reg sl more : Int) (hw : ∀ y ∈ wh, (Lit.int .i8 y).wf = true) (h0 : -128 ≤ reg) (h1 : reg ≤ 127) (h2 : -128 ≤ sl) (h3 : sl ≤ 127) (h4 : 0 ≤ more) (h5 : more ≤ 255) : Evt (fun k => tautochronelaw18_CertMore.f k raw wh reg sl more) true := by
  obtain ⟨n, hn⟩ := vals_nat raw
  have hl := more_l0 raw wh reg sl more hw h0 h1 h2 h3 h4 h5 n hn n 0 (by omega)
  refine Evt.congr (fun k => ?_) (Evt.bind (f := fun t k => if t = true then ((tautochronelaw13_Small.f k raw).bind fun t261 => (tautochronelaw18_CertMore.l0 k wh reg sl more t261 ([] : List Int) 0)) else (some false)) awake_evt ?_) (r := true)
  · rfl
  · simp only [if_true]
    exact Evt.bind (f := fun t k => tautochronelaw18_CertMore.l0 k wh reg sl more t ([] : List Int) 0) (small_eq raw) hl
end Go.Proofs.Ytepgpapljoelhaa.PA
