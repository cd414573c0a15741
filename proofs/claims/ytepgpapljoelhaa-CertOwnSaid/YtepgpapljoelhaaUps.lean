/- Places by a function. -/
import Derived.Test.YtepgpapljoelhaaSmg
namespace Go.Proofs.Ytepgpapljoelhaa.PA
open Go.RowKit Go.Proofs.YtepgpapljoelhaaW.PrintWords
set_option linter.unusedVariables false
set_option linter.unusedSimpArgs false

theorem any_same {α : Type} {p q : α → Bool} : ∀ (l : List α), (∀ x ∈ l, p x = q x) → l.any p = l.any q
  | [], _ => rfl
  | a :: l, h => by rw [List.any_cons, List.any_cons, h a (by simp), any_same l (fun x hx => h x (by simp [hx]))]
theorem all_same {α : Type} {p q : α → Bool} : ∀ (l : List α), (∀ x ∈ l, p x = q x) → l.all p = l.all q
  | [], _ => rfl
  | a :: l, h => by rw [List.all_cons, List.all_cons, h a (by simp), all_same l (fun x hx => h x (by simp [hx]))]
theorem rows_rise {l : List S37} {rows : List (List Int)} (h : IsRows l rows) {i : Nat} (hi : i < rows.length) : (rd_L3 rows (i : Int)).Nodup := by
  obtain ⟨_, p, j, _, _, hrow⟩ := h
  have e : rd_L3 rows (i : Int) = rows[i] := by simp [rd_L3, hi]
  rw [e]
  exact (hrow i hi).1.imp (fun {a b} q => by omega)
/-- Places that are apart are right. -/
theorem okAt_inj {l : List S37} {ws : List Int} {rows : List (List Int)} (hr : IsRows l rows) (hg : GFit l ws rows) (hinj : ∀ u v : Int, 0 ≤ u → u < (ws.length : Int) → 0 ≤ v → v < (ws.length : Int) → rd ws u = rd ws v → u = v) {i : Nat} (hi : i < l.length) : okAt l ws rows i = true := by
  have hlen := hg.len
  have hm : rd_L3 rows (i : Int) ∈ rows := rdL3_mem (by omega) (by omega)
  unfold okAt
  rw [Bool.and_eq_true]
  constructor
  · rw [decide_eq_true_eq]
    unfold plc
    rw [List.take_length]
    have hnd := rows_rise hr (i := i) (by omega)
    refine List.pairwise_map.2 (hnd.imp_of_mem fun {a b} ha hb hne e => hne ?_)
    have h1 := (hg.rows _ hm).2 a ha
    have h2 := (hg.rows _ hm).2 b hb
    exact hinj a b h1.1 h1.2 h2.1 h2.2 e
  · cases hd : db (rd_T37 l (i : Int)) with
    | false => rfl
    | true =>
      rw [Bool.not_true, Bool.false_or, Bool.not_eq_true', List.any_eq_false]
      intro m hmn
      rw [List.any_eq_true]
      rintro ⟨v, hv, hc⟩
      have hc' : rd_T37 l (i : Int) ∈ l := by rw [rdT_at l i hi]; exact List.getElem_mem _
      have h1 := hg.defs _ hc' hd
      have hmr := next_range (rd_T37 l (i : Int)) (i : Int) (l.length : Int) (by omega) m hmn
      have h2 := (hg.rows _ (rdL3_mem hmr.1 (by omega))).2 v hv
      unfold clash at hc
      rw [Bool.and_eq_true, decide_eq_true_eq, decide_eq_true_eq] at hc
      exact hc.1 (hinj _ _ h2.1 h2.2 h1.1 h1.2 hc.2)
theorem all_inj {l : List S37} {ws : List Int} {rows : List (List Int)} (hr : IsRows l rows) (hg : GFit l ws rows) (hinj : ∀ u v : Int, 0 ≤ u → u < (ws.length : Int) → 0 ≤ v → v < (ws.length : Int) → rd ws u = rd ws v → u = v) : (List.range l.length).all (okAt l ws rows) = true :=
  List.all_eq_true.2 fun i hi => okAt_inj hr hg hinj (List.mem_range.1 hi)
/-- f 0 .. f (n - 1). -/
def ups (f : Nat → Int) (n : Nat) : List Int := (List.range n).map f
theorem ups_succ (f : Nat → Int) (n : Nat) : ups f (n + 1) = ups f n ++ [f n] := by
  unfold ups
  rw [List.range_succ, List.map_append]
  rfl
theorem ups_len (f : Nat → Int) (n : Nat) : (ups f n).length = n := by simp [ups]
theorem rd_ups (f : Nat → Int) (n i : Nat) (hi : i < n) : rd (ups f n) (i : Int) = f i := by
  rw [rd_at (ups f n) i (by rw [ups_len]; exact hi)]
  simp [ups]
theorem ups_wf {f : Nat → Int} (hf : ∀ i, i < 8 → -1000000 ≤ f i ∧ f i ≤ 1000000) {n : Nat} (hn : n ≤ 8) : ∀ v : Int, 0 ≤ v → v < ((ups f n).length : Int) → (Lit.int .i64 (rd (ups f n) v)).wf = true := by
  intro v h0 h1
  rw [ups_len] at h1
  obtain ⟨i, rfl⟩ := Int.eq_ofNat_of_zero_le h0
  rw [rd_ups f n i (by omega)]
  have := hf i (by omega)
  exact wf_few (by omega) (by omega)
theorem good_ups (raw : List S37) (f : Nat → Int) (hf : ∀ i, i < 8 → -1000000 ≤ f i ∧ f i ≤ 1000000) {n : Nat} (hn : valsOf (smallOf raw) = (n : Int)) (hinj : ∀ i j, f i = f j → i = j) (reg sl : Int) :
    Evt (fun k => cert_Good.f k (smallOf raw) (ups f n) reg sl) ((ups f n).all (inW reg sl)) := by
  have h8 := vals_le raw
  obtain ⟨rows, hr, _⟩ := live_Of_some (offit_small raw)
  have hl : ((ups f n).length : Int) = valsOf (smallOf raw) := by rw [ups_len, hn]
  have hwf := ups_wf (n := n) hf (by omega)
  have h := good_small raw (ups f n) hl hwf hr reg sl
  rw [all_inj hr (gfit_small raw hr hl hwf) ?_, Bool.and_true] at h
  · exact h
  · intro u v u0 u1 v0 v1 e
    rw [ups_len] at u1 v1
    obtain ⟨i, rfl⟩ := Int.eq_ofNat_of_zero_le u0
    obtain ⟨j, rfl⟩ := Int.eq_ofNat_of_zero_le v0
    rw [rd_ups f n i (by omega), rd_ups f n j (by omega)] at e
    rw [hinj i j e]
theorem all_ups {f : Nat → Int} {n : Nat} {p : Int → Bool} (h : ∀ i, i < n → p (f i) = true) : (ups f n).all p = true := by
  rw [List.all_eq_true]
  intro x hx
  obtain ⟨i, hi, rfl⟩ := List.mem_map.1 hx
  exact h i (List.mem_range.1 hi)
end Go.Proofs.Ytepgpapljoelhaa.PA
