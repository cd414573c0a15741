/- What Defines, Uses and Jumps of a code answer, in plain words (after law12's). -/
import Derived.Test.YtepgpapljoelhaaDoorPEx2
namespace Go.Proofs.YtepgpapljoelhaaDoor.PE
open Go.RowKit Go.Proofs.YtepgpapljoelhaaDoorW.PrintWords Go.Proofs.YtepgpapljoelhaaDoorW.PrintLast Go.Proofs.YtepgpapljoelhaaDoorW.PrintMore
/-- With enough rounds: this answer. -/
def Evt {α : Type} (g : Nat → Option α) (r : α) : Prop := ∃ K, ∀ k, K ≤ k → g k = some r
theorem Evt.const {α : Type} {g : Nat → Option α} {r : α} (h : ∀ k, g k = some r) : Evt g r := ⟨0, fun k _ => h k⟩
theorem Evt.succ {α : Type} {g h : Nat → Option α} {r : α} (e : ∀ k, h (k + 1) = g k) (H : Evt g r) : Evt h r := by
  obtain ⟨K, hK⟩ := H
  refine ⟨K + 1, fun k hk => ?_⟩
  obtain ⟨k, rfl⟩ : ∃ m, k = m + 1 := ⟨k - 1, by omega⟩
  rw [e]
  exact hK k (by omega)
theorem Evt.congr {α : Type} {g h : Nat → Option α} {r : α} (e : ∀ k, h k = g k) (H : Evt g r) : Evt h r := by
  obtain ⟨K, hK⟩ := H
  exact ⟨K, fun k hk => (e k).trans (hK k hk)⟩
theorem Evt.bind {α β : Type} {g : Nat → Option α} {f : α → Nat → Option β} {a : α} {r : β} (Hg : Evt g a) (Hf : Evt (f a) r) : Evt (fun k => (g k).bind (fun x => f x k)) r := by
  obtain ⟨K, hK⟩ := Hg
  obtain ⟨K', hK'⟩ := Hf
  refine ⟨max K K', fun k hk => ?_⟩
  show (g k).bind _ = _
  rw [hK k (by omega)]
  exact hK' k (by omega)
theorem Evt.ex {α : Type} {g : Nat → Option α} {r : α} (H : Evt g r) : ∃ k, g k = some r := by
  obtain ⟨K, hK⟩ := H
  exact ⟨K, hK K (Nat.le_refl _)⟩

theorem w64 {x : Int} (h0 : -9223372036854775808 ≤ x) (h1 : x ≤ 9223372036854775807) : wrap64 x = x := by
  unfold wrap64
  omega

/-! ### What an instruction sets, takes, and where it goes -/
def dv (c : S37) : Int := if c.f0 = 0 ∨ c.f0 = 1 ∨ c.f0 = 2 ∨ c.f0 = 3 ∨ c.f0 = 4 then c.f2 else 0
def db (c : S37) : Bool := decide (c.f0 = 0 ∨ c.f0 = 1 ∨ c.f0 = 2 ∨ c.f0 = 3 ∨ c.f0 = 4)
def us (c : S37) : List Int :=
  if c.f0 = 1 ∨ c.f0 = 7 ∨ c.f0 = 10 ∨ c.f0 = 12 then [c.f3]
  else if c.f0 = 2 then [c.f3, c.f4]
  else if c.f0 = 3 then [c.f3, c.f4, c.f5]
  else if c.f0 = 4 then (if c.f3 ≥ 0 then [c.f3] else [])
  else if c.f0 = 5 then (if c.f3 ≥ 0 then [c.f3, c.f4] else [c.f4])
  else []
def jm (c : S37) : Bool := decide (c.f0 = 6 ∨ c.f0 = 7)
def go (c : S37) : Bool := decide (¬ (c.f0 = 6 ∨ c.f0 = 13))
/-- Is it an operator? -/
def opr (o : Int) : Bool := decide (0 ≤ o ∧ o < 10)

theorem Defines_eq (c : S37) : code_Defines.f c.f0 c.f1 c.f2 c.f3 c.f4 c.f5 c.f6 c.f7 = some (dv c, db c) := by
  unfold code_Defines.f dv db
  repeat' split
  all_goals first | (simp_all; done) | (exfalso; omega)
theorem Jumps_eq (c : S37) : code_Jumps.f c.f0 c.f1 c.f2 c.f3 c.f4 c.f5 c.f6 c.f7 = some (jm c, go c) := by
  unfold code_Jumps.f jm go
  by_cases h6 : c.f0 = 6
  · simp [h6]
  · by_cases h7 : c.f0 = 7
    · simp [h7]
    · have : (c.f0 == 13) = decide (c.f0 = 13) := rfl
      simp [h6, h7, bne, decide_not, this]
theorem Uses_eq (c : S37) : Evt (fun k => code_Uses.f k c.f0 c.f1 c.f2 c.f3 c.f4 c.f5 c.f6 c.f7) (us c) := by
  refine Evt.succ (g := fun k => code_Uses.f (k + 1) c.f0 c.f1 c.f2 c.f3 c.f4 c.f5 c.f6 c.f7) (fun _ => rfl) (Evt.const fun k => ?_)
  unfold code_Uses.f us
  simp only [code_Uses.j0]
  by_cases h1 : c.f0 = 1
  · simp [h1]
  by_cases h7 : c.f0 = 7
  · simp [h7]
  by_cases h10 : c.f0 = 10
  · simp [h10]
  by_cases h12 : c.f0 = 12
  · simp [h12]
  by_cases h2 : c.f0 = 2
  · simp [h2]
  by_cases h3 : c.f0 = 3
  · simp [h3]
  by_cases h4 : c.f0 = 4
  · by_cases h : c.f3 ≥ 0 <;> simp [h4, h]
  by_cases h5 : c.f0 = 5
  · by_cases h : c.f3 ≥ 0 <;> simp [h5, h]
  simp [h1, h7, h10, h12, h2, h3, h4, h5]
theorem rd_at (xs : List Int) (i : Nat) (h : i < xs.length) : rd xs (i : Int) = xs[i] := by
  unfold rd
  simp [h]
theorem rdT_at (xs : List S37) (i : Nat) (h : i < xs.length) : rd_T37 xs (i : Int) = xs[i] := by
  unfold rd_T37
  simp [h]

theorem us_len (c : S37) : (us c).length ≤ 3 := by
  unfold us
  repeat' split
  all_goals simp

end Go.Proofs.YtepgpapljoelhaaDoor.PE
