/- Small codes: cert.Good's answer; awake. -/
import Derived.Test.YtepgpapljoelhaaPAx7
import Derived.Test.YtepgpapljoelhaaFit
namespace Go.Proofs.Ytepgpapljoelhaa.PA
open Go.RowKit Go.Proofs.YtepgpapljoelhaaW.PrintWords
set_option linter.unusedVariables false
set_option linter.unusedSimpArgs false

/-- The place of value i. -/
def plOf (wh : List Int) (i : Nat) : Int := if i < wh.length then rd wh (i : Int) else (i : Int)
/-- The places of n values. -/
def plsOf (wh : List Int) (n : Nat) : List Int := (List.range n).map (plOf wh)
theorem plsOf_succ (wh : List Int) (n : Nat) : plsOf wh (n + 1) = plsOf wh n ++ [plOf wh n] := by
  unfold plsOf
  rw [List.range_succ, List.map_append]
  rfl
theorem plsOf_len (wh : List Int) (n : Nat) : (plsOf wh n).length = n := by simp [plsOf]
theorem inW_more {reg sl more w : Int} (h0 : -128 ≤ reg) (h1 : reg ≤ 127) (h2 : -128 ≤ sl) (h3 : sl ≤ 127) (h4 : 0 ≤ more) (h5 : more ≤ 255) (h : inW reg sl w = true) : inW (reg + more) (sl + more) w = true := by
  unfold inW at *
  rw [w64 (by omega) (by omega)] at *
  simp at *
  omega
theorem few8_dv {c : S37} (h : Few8 c) : 0 ≤ dv c ∧ dv c < 8 := by
  have := h.2.1
  unfold dv
  split <;> omega
theorem gfit_small (raw : List S37) {ws : List Int} {rows : List (List Int)} (hr : IsRows (smallOf raw) rows) (hw : (ws.length : Int) = valsOf (smallOf raw)) (hwf : ∀ v : Int, 0 ≤ v → v < (ws.length : Int) → (Lit.int .i64 (rd ws v)).wf = true) : GFit (smallOf raw) ws rows :=
  gfit (by have := (smallOf_len raw).1; omega) hr hw (fun c hc u hu => (few8_us (smallOf_few raw c hc) u hu).1) (fun c hc _ => (few8_dv (smallOf_few raw c hc)).1) hwf
theorem wf_few {v : Int} (h0 : -1000000 ≤ v) (h1 : v ≤ 1000000) : (Lit.int .i64 v).wf = true := by
  simp only [Lit.wf, IntKind.min, IntKind.max, IntKind.signed, IntKind.bits, Bool.and_eq_true, decide_eq_true_eq, if_true]
  omega
theorem offit_small (raw : List S37) : OfFit (smallOf raw) :=
  ⟨by have := (smallOf_len raw).1; omega, fun c hc u hu => by have := few8_us (smallOf_few raw c hc) u hu; exact wf_few (by omega) (by omega)⟩
theorem okv_small (raw : List S37) : ∀ c ∈ smallOf raw, Okv c := fun c hc =>
  ⟨fun _ => by have := few8_dv (smallOf_few raw c hc); omega, fun u hu => by have := few8_us (smallOf_few raw c hc) u hu; omega⟩
theorem vals_small (raw : List S37) : Evt (fun k => code_Values.f k (smallOf raw)) (valsOf (smallOf raw)) :=
  vals_eq _ (by have := (smallOf_len raw).1; omega) (okv_small raw)
theorem vals_nat (raw : List S37) : ∃ n : Nat, valsOf (smallOf raw) = (n : Int) := Int.eq_ofNat_of_zero_le (vals_fold (smallOf raw) 0).1
theorem Evt.step {α β : Type} {v : Nat → Option α} {a : α} {g h : Nat → Option β} {r : β} (Hv : Evt v a) (H : Evt g r) (e : ∀ k, v k = some a → h (k + 1) = g k) : Evt h r := by
  obtain ⟨K, hK⟩ := Hv
  obtain ⟨L, hL⟩ := H
  refine ⟨K + L + 1, fun k hk => ?_⟩
  obtain ⟨k, rfl⟩ : ∃ m, k = m + 1 := ⟨k - 1, by omega⟩
  rw [e k (hK k (by omega)), hL k (by omega)]
theorem Evt.step3 {α β : Type} {v : Nat → Option α} {a : α} {x y h : Nat → Option β} {b c r : β} (Hv : Evt v a) (Hx : Evt x b) (Hy : Evt y c) (e : ∀ k, v k = some a → x k = some b → y k = some c → h (k + 1) = some r) : Evt h r := by
  obtain ⟨K, hK⟩ := Hv
  obtain ⟨L, hL⟩ := Hx
  obtain ⟨M, hM⟩ := Hy
  refine ⟨K + L + M + 1, fun k hk => ?_⟩
  obtain ⟨k, rfl⟩ : ∃ m, k = m + 1 := ⟨k - 1, by omega⟩
  exact e k (hK k (by omega)) (hL k (by omega)) (hM k (by omega))
theorem Evt.step4 {β : Type} {x y z w h : Nat → Option β} {a b c d r : β} (Hx : Evt x a) (Hy : Evt y b) (Hz : Evt z c) (Hw : Evt w d) (e : ∀ k, x k = some a → y k = some b → z k = some c → w k = some d → h (k + 1) = some r) : Evt h r := by
  obtain ⟨L, hL⟩ := Hx
  obtain ⟨M, hM⟩ := Hy
  obtain ⟨N, hN⟩ := Hz
  obtain ⟨O, hO⟩ := Hw
  refine ⟨L + M + N + O + 1, fun k hk => ?_⟩
  obtain ⟨k, rfl⟩ : ∃ m, k = m + 1 := ⟨k - 1, by omega⟩
  exact e k (hL k (by omega)) (hM k (by omega)) (hN k (by omega)) (hO k (by omega))
theorem vals_le (raw : List S37) : valsOf (smallOf raw) ≤ 8 :=
  (vals_bd (N := 8) (smallOf raw) 0 (by omega) (by omega) (fun c hc => (few8_ok (smallOf_few raw c hc)).2)).2.1
theorem rd_mem {xs : List Int} {i : Int} (h0 : 0 ≤ i) (h1 : i < (xs.length : Int)) : rd xs i ∈ xs := by
  obtain ⟨n, rfl⟩ := Int.eq_ofNat_of_zero_le h0
  rw [rd_at xs n (by omega)]
  exact List.getElem_mem _
theorem w8 {v : Int} (h : (Lit.int .i8 v).wf = true) : -128 ≤ v ∧ v ≤ 127 := by
  simp only [Lit.wf, IntKind.min, IntKind.max, IntKind.signed, IntKind.bits, Bool.and_eq_true, decide_eq_true_eq, if_true] at h
  omega
theorem plOf_bd {wh : List Int} (hw : ∀ y ∈ wh, (Lit.int .i8 y).wf = true) {i : Nat} (hi : i < 8) : -128 ≤ plOf wh i ∧ plOf wh i ≤ 127 := by
  unfold plOf
  split
  · exact w8 (hw _ (rd_mem (by omega) (by omega)))
  · omega
theorem rd_pls (wh : List Int) (n i : Nat) (hi : i < n) : rd (plsOf wh n) (i : Int) = plOf wh i := by
  rw [rd_at (plsOf wh n) i (by rw [plsOf_len]; exact hi)]
  simp [plsOf]
theorem pls_wf {wh : List Int} (hw : ∀ y ∈ wh, (Lit.int .i8 y).wf = true) {n : Nat} (hn : n ≤ 8) : ∀ v : Int, 0 ≤ v → v < ((plsOf wh n).length : Int) → (Lit.int .i64 (rd (plsOf wh n) v)).wf = true := by
  intro v h0 h1
  rw [plsOf_len] at h1
  obtain ⟨i, rfl⟩ := Int.eq_ofNat_of_zero_le h0
  rw [rd_pls wh n i (by omega)]
  have := plOf_bd hw (i := i) (by omega)
  exact wf_few (by omega) (by omega)
/-- cert.Good's answer at small codes. -/
theorem good_small (raw : List S37) (ws : List Int) (hl : (ws.length : Int) = valsOf (smallOf raw)) (hwf : ∀ v : Int, 0 ≤ v → v < (ws.length : Int) → (Lit.int .i64 (rd ws v)).wf = true) {rows : List (List Int)} (hr : IsRows (smallOf raw) rows) (reg sl : Int) :
    Evt (fun k => cert_Good.f k (smallOf raw) ws reg sl) (ws.all (inW reg sl) && (List.range (smallOf raw).length).all (okAt (smallOf raw) ws rows)) :=
  good_evt (smallOf raw) ws rows reg sl (by have := vals_le raw; omega) (by rw [hl]; exact vals_small raw) (offit_small raw) hr (gfit_small raw hr hl hwf)
/-- The codes of the document's example. -/
def acs : List S37 := [⟨0, 0, 0, 0, 0, 0, 0, 0⟩, ⟨0, 0, 1, 0, 0, 0, 0, 0⟩, ⟨12, 0, 0, 0, 0, 0, 0, 0⟩, ⟨12, 0, 0, 1, 0, 0, 0, 0⟩, ⟨13, 0, 0, 0, 0, 0, 0, 0⟩]
def arows : List (List Int) := [[], [0], [0, 1], [1], []]
theorem acs_uses : allUses acs = [0, 1] := by decide +kernel
theorem acs_rows : IsRows acs arows := by
  refine ⟨rfl, iterP acs 1, 1, rfl, cnt_fix acs 1 (by decide +kernel), fun i hi => ?_⟩
  have hi5 : i < 5 := hi
  have hin : ∀ v, iterP acs 1 i v = true → v = 0 ∨ v = 1 := fun v h => by
    have := (iterP_in acs 1 i v h).2
    rw [acs_uses] at this
    simpa using this
  have hall : ∀ j : Fin 5, (arows[j.1]'(j.2)).Pairwise (· < ·) ∧ (∀ v ∈ (arows[j.1]'(j.2)), iterP acs 1 j.1 v = true) ∧ (iterP acs 1 j.1 0 = true → (0 : Int) ∈ (arows[j.1]'(j.2))) ∧ (iterP acs 1 j.1 1 = true → (1 : Int) ∈ (arows[j.1]'(j.2))) := by decide +kernel
  have h := hall ⟨i, hi5⟩
  refine ⟨h.1, fun v => ⟨fun hv => h.2.1 v hv, fun hv => ?_⟩⟩
  rcases hin v hv with rfl | rfl
  · exact h.2.2.1 hv
  · exact h.2.2.2 hv
theorem acs_few : ∀ c ∈ acs, Few8 c := by
  unfold acs Few8
  simp
theorem acs_good (ws : List Int) (hl : ws.length = 2) (hwf : ∀ v : Int, 0 ≤ v → v < (ws.length : Int) → (Lit.int .i64 (rd ws v)).wf = true) :
    Evt (fun k => cert_Good.f k acs ws 2 0) (ws.all (inW 2 0) && (List.range acs.length).all (okAt acs ws arows)) := by
  have hv : valsOf acs = 2 := by decide +kernel
  have hlw : (ws.length : Int) = valsOf acs := by rw [hv, hl]; rfl
  refine good_evt acs ws arows 2 0 (by omega) ?_ ?_ acs_rows ?_
  · rw [hlw]
    exact vals_eq acs (by decide) (fun c hc => (few8_ok (acs_few c hc)).1)
  · exact ⟨by decide, fun c hc u hu => by have := few8_us (acs_few c hc) u hu; exact wf_few (by omega) (by omega)⟩
  · exact gfit (by decide) acs_rows hlw (fun c hc u hu => (few8_us (acs_few c hc) u hu).1) (fun c hc _ => (few8_dv (acs_few c hc)).1) hwf
theorem awake_evt : Evt (fun k => tautochronelaw18_awake.f k) true := by
  have h1 := acs_good [0, 1] rfl (by
    intro v h0 h1
    obtain rfl | rfl : v = 0 ∨ v = 1 := by simp at h1; omega
    · decide
    · decide)
  have h2 := acs_good [0, 0] rfl (by
    intro v h0 h1
    obtain rfl | rfl : v = 0 ∨ v = 1 := by simp at h1; omega
    · decide
    · decide)
  have e1 : (([0, 1] : List Int).all (inW 2 0) && (List.range acs.length).all (okAt acs [0, 1] arows)) = true := by decide +kernel
  have e2 : (([0, 0] : List Int).all (inW 2 0) && (List.range acs.length).all (okAt acs [0, 0] arows)) = false := by decide +kernel
  rw [e1] at h1
  rw [e2] at h2
  obtain ⟨K, hK⟩ := h1
  obtain ⟨L, hL⟩ := h2
  refine ⟨K + L, fun k hk => ?_⟩
  have a := hK k (by omega)
  have b := hL k (by omega)
  unfold acs at a b
  simp only [tautochronelaw18_awake.f, Option.bind_some, a, b, if_true, Bool.not_false]
end Go.Proofs.Ytepgpapljoelhaa.PA
