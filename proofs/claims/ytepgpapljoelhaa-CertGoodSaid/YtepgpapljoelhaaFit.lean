/- Small codes fit. -/
import Derived.Test.YtepgpapljoelhaaGd
import Derived.Test.YtepgpapljoelhaaSml
namespace Go.Proofs.Ytepgpapljoelhaa.PA
open Go.RowKit Go.Proofs.YtepgpapljoelhaaW.PrintWords
set_option linter.unusedVariables false
set_option linter.unusedSimpArgs false

theorem mx_ge (a b : Int) : a ≤ mx a b ∧ b ≤ mx a b := by
  unfold mx
  split <;> omega
theorem valU_ge : ∀ (us : List Int) (n : Int), n ≤ valU n us ∧ ∀ u ∈ us, u < valU n us
  | [], n => ⟨Int.le_refl _, fun u h => by cases h⟩
  | a :: us, n => by
    have h := valU_ge us (mx n (a + 1))
    have hm := mx_ge n (a + 1)
    refine ⟨Int.le_trans hm.1 h.1, fun u hu => ?_⟩
    rcases List.mem_cons.1 hu with rfl | hu
    · have := h.1
      show u < valU (mx n (u + 1)) us
      omega
    · exact h.2 u hu
theorem valC_ge (n : Int) (c : S37) : n ≤ valC n c ∧ (db c = true → dv c < valC n c) ∧ ∀ u ∈ us c, u < valC n c := by
  unfold valC
  have h := valU_ge (us c) (if db c then mx n (dv c + 1) else n)
  have hm := mx_ge n (dv c + 1)
  refine ⟨?_, fun hb => ?_, h.2⟩
  · refine Int.le_trans ?_ h.1
    split
    · exact hm.1
    · exact Int.le_refl _
  · have h1 := h.1
    rw [if_pos hb] at h1 ⊢
    omega
theorem vals_fold : ∀ (l : List S37) (n : Int), n ≤ l.foldl valC n ∧ ∀ c ∈ l, (db c = true → dv c < l.foldl valC n) ∧ ∀ u ∈ us c, u < l.foldl valC n
  | [], n => ⟨Int.le_refl _, fun c h => by cases h⟩
  | a :: l, n => by
    have h := vals_fold l (valC n a)
    have hm := valC_ge n a
    refine ⟨Int.le_trans hm.1 h.1, fun c hc => ?_⟩
    rcases List.mem_cons.1 hc with rfl | hc
    · exact ⟨fun hb => Int.lt_of_lt_of_le (hm.2.1 hb) h.1, fun u hu => Int.lt_of_lt_of_le (hm.2.2 u hu) h.1⟩
    · exact h.2 c hc
theorem gfit {l : List S37} {ws : List Int} {rows : List (List Int)} (hl : l.length ≤ 1000) (hr : IsRows l rows) (hw : (ws.length : Int) = valsOf l) (hu : ∀ c ∈ l, ∀ u ∈ us c, 0 ≤ u) (hd : ∀ c ∈ l, db c = true → 0 ≤ dv c) (hwf : ∀ v : Int, 0 ≤ v → v < (ws.length : Int) → (Lit.int .i64 (rd ws v)).wf = true) : GFit l ws rows := by
  obtain ⟨hlen, p, j, rfl, hf, hrow⟩ := hr
  refine ⟨fun row hm => ?_, hlen, hl, hwf, fun c hc hb => ⟨hd c hc hb, by rw [hw]; exact ((vals_fold l 0).2 c hc).1 hb⟩⟩
  obtain ⟨i, hi, rfl⟩ := List.getElem_of_mem hm
  have h := hrow i hi
  have hin : ∀ v ∈ rows[i], v ∈ allUses l := fun v hv => (iterP_in l j i v ((h.2 v).1 hv)).2
  refine ⟨?_, fun v hv => ?_⟩
  · have h1 := nodup_le _ _ (h.1.imp (fun {a b} q => by omega)) hin
    have h2 := allUses_len l
    omega
  · obtain ⟨c, hc, hvc⟩ := List.mem_flatMap.1 (hin v hv)
    exact ⟨hu c hc v hvc, by rw [hw]; exact ((vals_fold l 0).2 c hc).2 v hvc⟩
end Go.Proofs.Ytepgpapljoelhaa.PA
