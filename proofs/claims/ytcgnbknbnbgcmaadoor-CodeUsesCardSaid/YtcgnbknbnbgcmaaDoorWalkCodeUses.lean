/- CodeUses: the walk, and that what it computes answers true. -/
import Derived.Test.YtcgnbknbnbgcmaaDoorSpec3
import Derived.Test.YtcgnbknbnbgcmaaDoorQUsesB
namespace Go.Proofs.YtcgnbknbnbgcmaaDoor.PQ
open Go.RowKit Go.Proofs.YtcgnbknbnbgcmaaDoorW.PrintWords Go.Proofs.YtcgnbknbnbgcmaaDoorW.PrintLast Go.Proofs.YtcgnbknbnbgcmaaDoorW.PrintMore
set_option linter.unusedSimpArgs false

theorem usesSets_eq (c : S26) : tautochronelaw12_sets.f c.f0 c.f1 c.f2 c.f3 c.f4 c.f5 c.f6 c.f7 = some (db c) := by
  unfold tautochronelaw12_sets.f db
  by_cases h0 : c.f0 = 0
  · simp [h0]
  by_cases h1 : c.f0 = 1
  · simp [h1]
  by_cases h2 : c.f0 = 2
  · simp [h2]
  by_cases h3 : c.f0 = 3
  · simp [h3]
  have : (c.f0 == 4) = decide (c.f0 = 4) := rfl
  simp [h0, h1, h2, h3, this]
theorem usesLaw_eq (c : S26) : Evt (fun k => tautochronelaw12_uses.f k c.f0 c.f1 c.f2 c.f3 c.f4 c.f5 c.f6 c.f7) (us c) := by
  refine Evt.succ (g := fun k => tautochronelaw12_uses.f (k + 1) c.f0 c.f1 c.f2 c.f3 c.f4 c.f5 c.f6 c.f7) (fun _ => rfl) (Evt.const fun k => ?_)
  unfold tautochronelaw12_uses.f us
  simp only [tautochronelaw12_uses.j0]
  by_cases h1 : c.f0 = 1
  · simp [h1]
  by_cases h7 : c.f0 = 7
  · simp [h7]
  by_cases h10 : c.f0 = 10
  · simp [h10]
  by_cases h12 : c.f0 = 12
  · simp [h12]
  by_cases h2 : c.f0 = 2
  · simp [h2]
  by_cases h3 : c.f0 = 3
  · simp [h3]
  by_cases h4 : c.f0 = 4
  · by_cases h : c.f3 ≥ 0 <;> simp [h4, h]
  by_cases h5 : c.f0 = 5
  · by_cases h : c.f3 ≥ 0 <;> simp [h5, h]
  simp [h1, h7, h10, h12, h2, h3, h4, h5]

theorem pureCodeUses (c : S26) : ∃ k, tautochronelaw12_CodeUses.f k c.f0 c.f1 c.f2 c.f3 c.f4 c.f5 c.f6 c.f7 = some true := by
  obtain ⟨K1, h1⟩ := awake_eq
  obtain ⟨K2, h2⟩ := Uses_eq c
  obtain ⟨K3, h3⟩ := usesLaw_eq c
  obtain ⟨K4, h4⟩ := same_refl (us c) (by have := us_len c; omega)
  refine ⟨K1 + K2 + K3 + K4, ?_⟩
  replace h1 := h1 (K1 + K2 + K3 + K4) (by omega)
  replace h2 := h2 (K1 + K2 + K3 + K4) (by omega)
  replace h3 := h3 (K1 + K2 + K3 + K4) (by omega)
  replace h4 := h4 (K1 + K2 + K3 + K4) (by omega)
  generalize K1 + K2 + K3 + K4 = K at *
  dsimp only at h1 h2 h3 h4
  unfold tautochronelaw12_CodeUses.f
  rw [h1, Option.bind_some, if_pos rfl, Defines_eq, Option.bind_some, Jumps_eq, Option.bind_some, usesSets_eq, Option.bind_some, h2, Option.bind_some, h3, Option.bind_some, h4, Option.bind_some]
  have hd : db c = true → dv c = c.f2 := fun h => by
    unfold db at h
    unfold dv
    rw [if_pos (by simpa using h)]
  have hd0 : db c = false → dv c = 0 := fun h => by
    unfold db at h
    unfold dv
    rw [if_neg (by simpa using h)]
  have e6 : c.f0 = 6 → jm c = true ∧ go c = false := fun h => by simp [jm, go, h]
  have e7 : c.f0 ≠ 6 → jm c = (c.f0 == 7) ∧ go c = (c.f0 != 13) := fun h => by
    have z : (c.f0 == 7) = decide (c.f0 = 7) := rfl
    have z2 : (c.f0 == 13) = decide (c.f0 = 13) := rfl
    simp [jm, go, h, z, z2, bne]
  cases hdb : db c with
  | true =>
    have := hd hdb
    by_cases h6 : c.f0 = 6
    · simp [this, h6, e6 h6]
    · simp [this, h6, (e7 h6).1, (e7 h6).2]
  | false =>
    have := hd0 hdb
    by_cases h6 : c.f0 = 6
    · simp [this, h6, e6 h6]
    · simp [this, h6, (e7 h6).1, (e7 h6).2]

theorem walkCodeUses (W : World) (x : S26) (_w0 : x.wf) :
    Calls Tryd.prog 3 #[.agg #[.int .i64 x.f0, .int .i64 x.f1, .int .i64 x.f2, .int .i64 x.f3, .int .i64 x.f4, .int .i64 x.f5, .int .u64 x.f6, .int .i64 x.f7]] W fun e W' => e = .returned (.bool true) ∧ Below W.heap.size W W' := by
  obtain ⟨k, h⟩ := pureCodeUses x
  exact tautochronelaw12_CodeUses.calls k _ _ _ _ _ _ _ _ true W h
end Go.Proofs.YtcgnbknbnbgcmaaDoor.PQ
