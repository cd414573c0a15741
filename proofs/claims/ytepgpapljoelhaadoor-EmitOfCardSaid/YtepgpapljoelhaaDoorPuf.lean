/- The plain law of EmitOf. -/
import Derived.Test.YtepgpapljoelhaaDoorPue
import Derived.Test.YtepgpapljoelhaaDoorLawe
import Derived.KernelRfl
namespace Go.Proofs.YtepgpapljoelhaaDoor.PE
open Go.RowKit Go.Proofs.YtepgpapljoelhaaDoorW.PrintWords
set_option linter.unusedVariables false
set_option linter.unusedSimpArgs false

theorem Evt.of_mono {α : Type} {g : Nat → Option α} (hm : ∀ k, LeO (g k) (g (k + 1))) {K : Nat} {r : α} (h : g K = some r) : Evt g r := by
  refine ⟨K, fun k hk => ?_⟩
  obtain ⟨d, rfl⟩ : ∃ d, k = K + d := ⟨k - K, by omega⟩
  clear hk
  induction d with
  | zero => exact h
  | succ d ih => exact hm (K + d) r ih
theorem awake19_40 : tautochronelaw19_awake.f 40 = some true := by kernel_rfl
theorem awake19_evt : Evt (fun k => tautochronelaw19_awake.f k) true :=
  Evt.of_mono (g := fun k => tautochronelaw19_awake.f k) tautochronelaw19_awake.mono (K := 40) awake19_40
/-- f 0 .. f (n - 1). -/
def ups (f : Nat → Int) (n : Nat) : List Int := (List.range n).map f
theorem ups_succ (f : Nat → Int) (n : Nat) : ups f (n + 1) = ups f n ++ [f n] := by
  unfold ups
  rw [List.range_succ, List.map_append]
  rfl
theorem ups_len (f : Nat → Int) (n : Nat) : (ups f n).length = n := by simp [ups]
/-- The place of value i. -/
def plE (wh : List Int) (i : Nat) : Int := if i < wh.length then rd wh (i : Int) else Int.tmod (i : Int) 5
theorem w8 {v : Int} (h : (Lit.int .i8 v).wf = true) : -128 ≤ v ∧ v ≤ 127 := by
  simp only [Lit.wf, IntKind.min, IntKind.max, IntKind.signed, IntKind.bits, Bool.and_eq_true, decide_eq_true_eq, if_true] at h
  omega
theorem rd_mem {xs : List Int} {i : Int} (h0 : 0 ≤ i) (h1 : i < (xs.length : Int)) : rd xs i ∈ xs := by
  obtain ⟨n, rfl⟩ := Int.eq_ofNat_of_zero_le h0
  rw [rd_at xs n (by omega)]
  exact List.getElem_mem _
theorem emitL_len (raw : List S37) (fr : Int) (ws : List Int) : (emitL fr ws (goodOf raw)).length ≤ 1000000 := by
  have h1 := outTo_len fr ws (goodOf raw) (goodOf raw).length
  have h2 := goodOf_len raw
  have h3 := (smallOf_len raw).1
  unfold emitL
  rw [List.length_map]
  omega
theorem emitOf_l0 (raw : List S37) (wh : List Int) (fr : Int) (hw : ∀ y ∈ wh, (Lit.int .i8 y).wf = true) (n : Nat) (hn8 : n ≤ 8) (hv : Evt (fun k => code_Values.f k (goodOf raw)) (n : Int)) (hf : efit (goodOf raw) n = true) :
    ∀ (d j : Nat), j + d = n → Evt (fun k => tautochronelaw19_EmitOf.l0 k wh fr (goodOf raw) (n : Int) (ups (plE wh) j) (j : Int)) true
  | 0, j, hj => by
    obtain rfl : j = n := by omega
    have hl := (smallOf_len raw).1
    have hgl := goodOf_len raw
    have hu := ups_len (plE wh) j
    have h1 := emit_yes raw hv hf (ups (plE wh) j) hu 128 fr
    have h2 := emit_len raw hv (([] : List Int) ++ ups (plE wh) j ++ [0]) (by simp [hu]) 0 fr
    have h3 := emit_bad (([] : List S37) ++ goodOf raw ++ [(⟨12, 0, 0, -1, 0, 0, 0, 0⟩ : S37)]) (good_no _ (by simp) (by simp; omega) (by rw [rdT_last])) (ups (plE wh) j) 0 fr
    have h4 := equal_evt (emitL fr (ups (plE wh) j) (goodOf raw)) (emitL_len raw fr _)
    have h5 : ∀ k, tautochronelaw19_want.f k (goodOf raw) (ups (plE wh) j) fr = some (emitL fr (ups (plE wh) j) (goodOf raw)) := fun k => by
      unfold tautochronelaw19_want.f
      rw [hu, if_pos hf]
    obtain ⟨K1, e1⟩ := h1
    obtain ⟨K2, e2⟩ := h2
    obtain ⟨K3, e3⟩ := h3
    obtain ⟨K4, e4⟩ := h4
    refine ⟨K1 + K2 + K3 + K4 + 1, fun k hk => ?_⟩
    obtain ⟨k, rfl⟩ : ∃ m, k = m + 1 := ⟨k - 1, by omega⟩
    dsimp only at e1 e2 e3 e4 ⊢
    rw [tautochronelaw19_EmitOf.l0, if_neg (by omega), e1 k (by omega), Option.bind_some, if_pos (by simp [hu]; omega), Option.bind_some, if_pos (by simp [hu]; omega), e2 k (by omega), Option.bind_some, if_pos (by simp; omega), Option.bind_some, if_pos (by simp; omega), e3 k (by omega), Option.bind_some, if_pos rfl, h5 k, Option.bind_some, e4 k (by omega), Option.bind_some, if_pos rfl, if_neg (by decide), if_pos (by simp), if_neg (by decide)]
    rfl
  | d + 1, j, hj => by
    have ih := emitOf_l0 raw wh fr hw n hn8 hv hf d (j + 1) (by omega)
    have hwr : wrap64 ((j : Int) + 1) = ((j + 1 : Nat) : Int) := by rw [w64 (by omega) (by omega)]; omega
    refine Evt.succ (fun k => ?_) ih
    rw [tautochronelaw19_EmitOf.l0, if_pos (by omega), hwr, ups_succ]
    by_cases c : (j : Int) < (wh.length : Int)
    · have hb := w8 (hw _ (rd_mem (xs := wh) (i := (j : Int)) (by omega) c))
      have e : plE wh j = wrap64 (rd wh (j : Int)) := by unfold plE; rw [if_pos (by omega), w64 (by omega) (by omega)]
      rw [if_pos c, if_pos (by omega), if_pos (by rw [ups_len]; omega), e]
    · have e : plE wh j = Int.tmod (j : Int) 5 := by unfold plE; rw [if_neg (by omega)]
      rw [if_neg c, if_pos (by rw [ups_len]; omega), e]
theorem emitOf_evt (raw : List S37) (wh : List Int) (fr : Int) (hw : ∀ y ∈ wh, (Lit.int .i8 y).wf = true) : Evt (fun k => tautochronelaw19_EmitOf.f k raw wh fr) true := by
  obtain ⟨n, hn8, hv, hf⟩ := goodOf_vals raw
  have hl := emitOf_l0 raw wh fr hw n hn8 hv hf n 0 (by omega)
  refine Evt.congr (fun k => ?_) (Evt.bind (f := fun t k => if t = true then ((tautochronelaw19_good.f k raw).bind fun t230 => ((code_Values.f k t230).bind fun t233 => (tautochronelaw19_EmitOf.l0 k wh fr t230 t233 ([] : List Int) 0))) else none) awake19_evt ?_) (r := true)
  · rfl
  · simp only [if_true]
    exact Evt.bind (f := fun t k => (code_Values.f k t).bind fun t233 => (tautochronelaw19_EmitOf.l0 k wh fr t t233 ([] : List Int) 0)) (good19_evt raw) (Evt.bind (f := fun t k => tautochronelaw19_EmitOf.l0 k wh fr (goodOf raw) t ([] : List Int) 0) hv hl)
end Go.Proofs.YtepgpapljoelhaaDoor.PE
