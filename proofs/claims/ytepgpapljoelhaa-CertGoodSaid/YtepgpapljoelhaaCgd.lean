/- cert.Good and want answer alike. -/
import Derived.Test.YtepgpapljoelhaaWn
namespace Go.Proofs.Ytepgpapljoelhaa.PA
open Go.RowKit Go.Proofs.YtepgpapljoelhaaW.PrintWords
set_option linter.unusedVariables false
set_option linter.unusedSimpArgs false

theorem pairs_nodup (ws row : List Int) : (List.range row.length).all (pairsOk ws row) = decide (plc ws row row.length).Nodup := by
  rw [Bool.eq_iff_iff, List.all_eq_true, decide_eq_true_eq]
  unfold plc
  rw [List.take_length, List.nodup_iff_pairwise_ne, List.pairwise_iff_getElem]
  constructor
  · intro h i j hi hj hij
    rw [List.length_map] at hi hj
    have := h j (List.mem_range.2 hj)
    unfold pairsOk at this
    rw [rd_at row j hj, Bool.not_eq_true', List.any_eq_false] at this
    have := this row[i] (by rw [List.mem_take_iff_getElem]; exact ⟨i, by omega, rfl⟩)
    simp only [decide_eq_true_eq] at this
    rw [List.getElem_map, List.getElem_map]
    exact fun e => this e.symm
  · intro h j hj
    have hj := List.mem_range.1 hj
    unfold pairsOk
    rw [rd_at row j hj, Bool.not_eq_true', List.any_eq_false]
    intro u hu
    obtain ⟨i, hi, rfl⟩ := List.mem_take_iff_getElem.1 hu
    simp only [decide_eq_true_eq]
    intro e
    have := h i j (by rw [List.length_map]; omega) (by rw [List.length_map]; omega) (by omega)
    rw [List.getElem_map, List.getElem_map] at this
    exact this e.symm
theorem wantAt_eq (x0 : List S37) (ws : List Int) (x11 : List (List Int)) (i : Nat) : wantAt x0 ws x11 i = okAt x0 ws x11 i := by
  unfold wantAt okAt
  rw [pairs_nodup, Bool.not_and]
end Go.Proofs.Ytepgpapljoelhaa.PA
