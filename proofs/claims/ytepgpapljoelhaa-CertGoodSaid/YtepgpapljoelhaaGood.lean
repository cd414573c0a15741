/- The plain law of CertGood. -/
import Derived.Test.YtepgpapljoelhaaPAx8
import Derived.Test.YtepgpapljoelhaaSmg
import Derived.Test.YtepgpapljoelhaaCgd
namespace Go.Proofs.Ytepgpapljoelhaa.PA
open Go.RowKit Go.Proofs.YtepgpapljoelhaaW.PrintWords
set_option linter.unusedVariables false
set_option linter.unusedSimpArgs false

theorem want_small (raw : List S37) (ws : List Int) (hl : (ws.length : Int) = valsOf (smallOf raw)) (hwf : ∀ v : Int, 0 ≤ v → v < (ws.length : Int) → (Lit.int .i64 (rd ws v)).wf = true) {rows : List (List Int)} (hr : IsRows (smallOf raw) rows) (reg sl : Int) :
    Evt (fun k => tautochronelaw18_want.f k (smallOf raw) ws reg sl) (ws.all (inW reg sl) && (List.range (smallOf raw).length).all (okAt (smallOf raw) ws rows)) := by
  have h := want_evt (smallOf raw) ws rows reg sl (by have := vals_le raw; omega) (by rw [hl]; exact vals_small raw) (offit_small raw) hr (gfit_small raw hr hl hwf)
  have e : (fun i => wantAt (smallOf raw) ws rows i) = (fun i => okAt (smallOf raw) ws rows i) := funext fun i => wantAt_eq _ _ _ i
  have e' : wantAt (smallOf raw) ws rows = okAt (smallOf raw) ws rows := e
  rw [e'] at h
  exact h
theorem good_l0 (raw : List S37) (wh : List Int) (reg sl : Int) (hw : ∀ y ∈ wh, (Lit.int .i8 y).wf = true) (h0 : -128 ≤ reg) (h1 : reg ≤ 127) (h2 : -128 ≤ sl) (h3 : sl ≤ 127) (n : Nat) (hn : valsOf (smallOf raw) = (n : Int)) :
    ∀ (d j : Nat), j + d = n → Evt (fun k => tautochronelaw18_CertGood.l0 k wh reg sl (smallOf raw) (n : Int) (plsOf wh j) (j : Int)) true
  | 0, j, hj => by
    obtain rfl : j = n := by omega
    have h8 := vals_le raw
    obtain ⟨rows, hr, _⟩ := live_Of_some (offit_small raw)
    have hl : ((plsOf wh j).length : Int) = valsOf (smallOf raw) := by rw [plsOf_len, hn]
    have hg := good_small raw (plsOf wh j) hl (pls_wf hw (by omega)) hr reg sl
    have hwt := want_small raw (plsOf wh j) hl (pls_wf hw (by omega)) hr reg sl
    have hno := good_not (smallOf raw) (([] : List Int) ++ plsOf wh j ++ [0]) (valsOf (smallOf raw)) reg sl (vals_small raw) (by rw [hn]; simp [plsOf_len]; omega)
    refine Evt.step3 hg hwt hno fun k ha hb hc => ?_
    rw [tautochronelaw18_CertGood.l0, if_neg (by omega), if_pos (by simp [plsOf_len]; omega), Option.bind_some, if_pos (by simp [plsOf_len]; omega), w64 (x := reg) (by omega) (by omega), w64 (x := sl) (by omega) (by omega), ha, Option.bind_some, hb, Option.bind_some, if_pos (by simp), hc, Option.bind_some]
    rfl
  | d + 1, j, hj => by
    have h8 := vals_le raw
    have ih := good_l0 raw wh reg sl hw h0 h1 h2 h3 n hn d (j + 1) (by omega)
    have hwr : wrap64 ((j : Int) + 1) = ((j + 1 : Nat) : Int) := by rw [w64 (by omega) (by omega)]; omega
    refine Evt.succ (fun k => ?_) ih
    rw [tautochronelaw18_CertGood.l0, if_pos (by omega), hwr, plsOf_succ]
    by_cases c : (j : Int) < (wh.length : Int)
    · have hb := w8 (hw _ (rd_mem (xs := wh) (i := (j : Int)) (by omega) c))
      have e : plOf wh j = wrap64 (rd wh (j : Int)) := by unfold plOf; rw [if_pos (by omega), w64 (by omega) (by omega)]
      rw [if_pos c, if_pos (by omega), if_pos (by rw [plsOf_len]; omega), e]
    · have e : plOf wh j = (j : Int) := by unfold plOf; rw [if_neg (by omega)]
      rw [if_neg c, if_pos (by rw [plsOf_len]; omega), e]
theorem certGood_evt (raw : List S37) (wh : List Int) (reg sl : Int) (hw : ∀ y ∈ wh, (Lit.int .i8 y).wf = true) (h0 : -128 ≤ reg) (h1 : reg ≤ 127) (h2 : -128 ≤ sl) (h3 : sl ≤ 127) : Evt (fun k => tautochronelaw18_CertGood.f k raw wh reg sl) true := by
  obtain ⟨n, hn⟩ := vals_nat raw
  have hl := good_l0 raw wh reg sl hw h0 h1 h2 h3 n hn n 0 (by omega)
  have hv := vals_small raw
  rw [hn] at hv
  refine Evt.congr (fun k => ?_) (Evt.bind (f := fun t k => if t = true then ((tautochronelaw13_Small.f k raw).bind fun t234 => ((code_Values.f k t234).bind fun t237 => (tautochronelaw18_CertGood.l0 k wh reg sl t234 t237 ([] : List Int) 0))) else (some false)) awake_evt ?_) (r := true)
  · rfl
  · simp only [if_true]
    exact Evt.bind (f := fun t k => (code_Values.f k t).bind fun t237 => (tautochronelaw18_CertGood.l0 k wh reg sl t t237 ([] : List Int) 0)) (small_eq raw) (Evt.bind (f := fun t k => tautochronelaw18_CertGood.l0 k wh reg sl (smallOf raw) t ([] : List Int) 0) hv hl)
end Go.Proofs.Ytepgpapljoelhaa.PA
