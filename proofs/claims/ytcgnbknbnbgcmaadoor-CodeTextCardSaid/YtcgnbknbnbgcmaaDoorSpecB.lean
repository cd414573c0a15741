/- CodeText: what it wants of Spec and Spec2, without the texts that those import beside. -/
import Derived.Test.YtcgnbknbnbgcmaaDoorPQx1
import Derived.Test.YtcgnbknbnbgcmaaDoorPQx5
import Derived.Test.YtcgnbknbnbgcmaaDoorPQx2
namespace Go.Proofs.YtcgnbknbnbgcmaaDoor.PQ
open Go.RowKit Go.Proofs.YtcgnbknbnbgcmaaDoorW.PrintWords
set_option linter.unusedVariables false
/-- With enough rounds: this answer. -/
def Evt {α : Type} (g : Nat → Option α) (r : α) : Prop := ∃ K, ∀ k, K ≤ k → g k = some r
theorem Evt.const {α : Type} {g : Nat → Option α} {r : α} (h : ∀ k, g k = some r) : Evt g r := ⟨0, fun k _ => h k⟩
theorem Evt.succ {α : Type} {g h : Nat → Option α} {r : α} (e : ∀ k, h (k + 1) = g k) (H : Evt g r) : Evt h r := by
  obtain ⟨K, hK⟩ := H
  refine ⟨K + 1, fun k hk => ?_⟩
  obtain ⟨k, rfl⟩ : ∃ m, k = m + 1 := ⟨k - 1, by omega⟩
  rw [e]
  exact hK k (by omega)
theorem Evt.congr {α : Type} {g h : Nat → Option α} {r : α} (e : ∀ k, h k = g k) (H : Evt g r) : Evt h r := by
  obtain ⟨K, hK⟩ := H
  exact ⟨K, fun k hk => (e k).trans (hK k hk)⟩
theorem Evt.bind {α β : Type} {g : Nat → Option α} {f : α → Nat → Option β} {a : α} {r : β} (Hg : Evt g a) (Hf : Evt (f a) r) : Evt (fun k => (g k).bind (fun x => f x k)) r := by
  obtain ⟨K, hK⟩ := Hg
  obtain ⟨K', hK'⟩ := Hf
  refine ⟨max K K', fun k hk => ?_⟩
  show (g k).bind _ = _
  rw [hK k (by omega)]
  exact hK' k (by omega)
theorem Evt.ex {α : Type} {g : Nat → Option α} {r : α} (H : Evt g r) : ∃ k, g k = some r := by
  obtain ⟨K, hK⟩ := H
  exact ⟨K, hK K (Nat.le_refl _)⟩

theorem w64 {x : Int} (h0 : -9223372036854775808 ≤ x) (h1 : x ≤ 9223372036854775807) : wrap64 x = x := by
  unfold wrap64
  omega

def dv (c : S26) : Int := if c.f0 = 0 ∨ c.f0 = 1 ∨ c.f0 = 2 ∨ c.f0 = 3 ∨ c.f0 = 4 then c.f2 else 0
def db (c : S26) : Bool := decide (c.f0 = 0 ∨ c.f0 = 1 ∨ c.f0 = 2 ∨ c.f0 = 3 ∨ c.f0 = 4)
def us (c : S26) : List Int :=
  if c.f0 = 1 ∨ c.f0 = 7 ∨ c.f0 = 10 ∨ c.f0 = 12 then [c.f3]
  else if c.f0 = 2 then [c.f3, c.f4]
  else if c.f0 = 3 then [c.f3, c.f4, c.f5]
  else if c.f0 = 4 then (if c.f3 ≥ 0 then [c.f3] else [])
  else if c.f0 = 5 then (if c.f3 ≥ 0 then [c.f3, c.f4] else [c.f4])
  else []
/-- Is it an operator? -/
def opr (o : Int) : Bool := decide (0 ≤ o ∧ o < 10)

theorem Defines_eq (c : S26) : code_Defines.f c.f0 c.f1 c.f2 c.f3 c.f4 c.f5 c.f6 c.f7 = some (dv c, db c) := by
  unfold code_Defines.f dv db
  repeat' split
  all_goals first | (simp_all; done) | (exfalso; omega)
theorem Uses_eq (c : S26) : Evt (fun k => code_Uses.f k c.f0 c.f1 c.f2 c.f3 c.f4 c.f5 c.f6 c.f7) (us c) := by
  refine Evt.succ (g := fun k => code_Uses.f (k + 1) c.f0 c.f1 c.f2 c.f3 c.f4 c.f5 c.f6 c.f7) (fun _ => rfl) (Evt.const fun k => ?_)
  unfold code_Uses.f us
  simp only [code_Uses.j0]
  by_cases h1 : c.f0 = 1
  · simp [h1]
  by_cases h7 : c.f0 = 7
  · simp [h7]
  by_cases h10 : c.f0 = 10
  · simp [h10]
  by_cases h12 : c.f0 = 12
  · simp [h12]
  by_cases h2 : c.f0 = 2
  · simp [h2]
  by_cases h3 : c.f0 = 3
  · simp [h3]
  by_cases h4 : c.f0 = 4
  · by_cases h : c.f3 ≥ 0 <;> simp [h4, h]
  by_cases h5 : c.f0 = 5
  · by_cases h : c.f3 ≥ 0 <;> simp [h5, h]
  simp [h1, h7, h10, h12, h2, h3, h4, h5]
theorem Tight_eq (o : Int) : ∃ t, word_Tight.f o = some t ∧ (t == 0) = !opr o ∧ decide (t > 0) = opr o := by
  unfold word_Tight.f opr
  simp only [Option.bind_some]
  by_cases h0 : o < 0
  · exact ⟨0, by rw [if_pos h0], by simp; omega, by simp; omega⟩
  · rw [if_neg h0]
    by_cases h1 : o ≥ (([6, 6, 7, 4, 1, 2, 5, 5, 3, 3] : List Int).length : Int)
    · rw [if_pos h1]
      simp at h1
      exact ⟨0, rfl, by simp; omega, by simp; omega⟩
    · rw [if_neg h1, if_pos (by omega), if_pos (by omega)]
      simp at h1
      refine ⟨_, rfl, ?_⟩
      have : o = 0 ∨ o = 1 ∨ o = 2 ∨ o = 3 ∨ o = 4 ∨ o = 5 ∨ o = 6 ∨ o = 7 ∨ o = 8 ∨ o = 9 := by omega
      rcases this with rfl | rfl | rfl | rfl | rfl | rfl | rfl | rfl | rfl | rfl <;> decide

theorem rd_at (xs : List Int) (i : Nat) (h : i < xs.length) : rd xs (i : Int) = xs[i] := by
  unfold rd
  simp [h]
theorem us_len (c : S26) : (us c).length ≤ 3 := by
  unfold us
  repeat' split
  all_goals simp

theorem Evt.of_mono {α : Type} {g : Nat → Option α} (hm : ∀ k, LeO (g k) (g (k + 1))) {K : Nat} {r : α} (h : g K = some r) : Evt g r := by
  refine ⟨K, fun k hk => ?_⟩
  obtain ⟨d, rfl⟩ : ∃ d, k = K + d := ⟨k - K, by omega⟩
  induction d with
  | zero => exact h
  | succ d ih => exact hm (K + d) r (ih (by omega))

theorem awake_eq : Evt (fun k => tautochronelaw12_awake.f k) true :=
  Evt.of_mono (g := fun k => tautochronelaw12_awake.f k) tautochronelaw12_awake.mono (K := 40) (by kernel_rfl)

end Go.Proofs.YtcgnbknbnbgcmaaDoor.PQ
