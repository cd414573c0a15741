/- The contracts of strconv.Itoa, strconv.FormatUint (both of numbers below 100) and strings.Join, in the shape in which printed functions ask for them. No conditions: where nothing is told the Lean function is none. -/
import Derived.Test.YtepgpapljoelhaaDoorShelf
import Derived.WalkKit
import Derived.Below
import Derived.Test.YtepgpapljoelhaaDoorWWords
namespace Go.Proofs.YtepgpapljoelhaaDoor.PE
open Go.RowKit Go.Proofs.YtepgpapljoelhaaDoorW.PrintWords

theorem internal_FormatUint_small (u : Nat) (h : u < 100) (w : World) :
    Calls Tryd.prog 66 #[.int .u64 u, .int .i64 10] w fun e w' => e = .returned (.string ⟨(Lib.decDigits u).toArray⟩) ∧ w' = w := by
  go_enter Tryd.func66, Tryd.ntmps66
  go_wp2_with (go_at_call 83; refine (Tryd.internal_strconv_small u h _).mono ?_; rintro e w' ⟨rfl, rfl⟩)
  go_ret
  exact ⟨rfl, rfl⟩

theorem FormatUint_small (u : Nat) (h : u < 100) (w : World) :
    Calls Tryd.prog 48 #[.int .u64 u, .int .i64 10] w fun e w' => e = .returned (.string ⟨(Lib.decDigits u).toArray⟩) ∧ w' = w := by
  go_enter Tryd.func48, Tryd.ntmps48
  go_wp2_with (go_at_call 66; refine (internal_FormatUint_small u h _).mono ?_; rintro e w' ⟨rfl, rfl⟩)
  go_ret
  exact ⟨rfl, rfl⟩

def strconv_Itoa.f (a0 : Int) : Option ByteArray := if 0 ≤ a0 ∧ a0 < 100 then some ⟨(Lib.decDigits a0.toNat).toArray⟩ else none
theorem strconv_Itoa.calls (a0 : Int) (r : ByteArray) (w : World) (h : strconv_Itoa.f a0 = some r) :
    Calls Tryd.prog 46 #[.int .i64 a0] w fun e w' => e = .returned (.string r) ∧ Below w.heap.size w w' := by
  unfold strconv_Itoa.f at h
  by_cases hc : 0 ≤ a0 ∧ a0 < 100
  · rw [if_pos hc] at h
    obtain rfl := Option.some.inj h
    obtain ⟨n, rfl⟩ := Int.eq_ofNat_of_zero_le hc.1
    refine (Tryd.strconv_Itoa_small n (by omega) w).mono ?_
    rintro e w' ⟨rfl, rfl⟩
    exact ⟨rfl, Below.refl _ _⟩
  · rw [if_neg hc] at h
    exact absurd h (by simp)

def strconv_FormatUint.f (a0 : Int) (a1 : Int) : Option ByteArray := if (0 ≤ a0 ∧ a0 < 100) ∧ a1 = 10 then some ⟨(Lib.decDigits a0.toNat).toArray⟩ else none
theorem strconv_FormatUint.calls (a0 : Int) (a1 : Int) (r : ByteArray) (w : World) (h : strconv_FormatUint.f a0 a1 = some r) :
    Calls Tryd.prog 48 #[.int .u64 a0, .int .i64 a1] w fun e w' => e = .returned (.string r) ∧ Below w.heap.size w w' := by
  unfold strconv_FormatUint.f at h
  by_cases hc : (0 ≤ a0 ∧ a0 < 100) ∧ a1 = 10
  · rw [if_pos hc] at h
    obtain rfl := Option.some.inj h
    obtain ⟨⟨h0, h1⟩, rfl⟩ := hc
    obtain ⟨n, rfl⟩ := Int.eq_ofNat_of_zero_le h0
    refine (FormatUint_small n (by omega) w).mono ?_
    rintro e w' ⟨rfl, rfl⟩
    exact ⟨rfl, Below.refl _ _⟩
  · rw [if_neg hc] at h
    exact absurd h (by simp)

theorem cell_plain {w : World} {a : Addr} {v : Value} (h : w.cell? a = some v) : a.spot = none ∧ a.block < w.heap.size := by
  unfold World.cell? at h
  split at h
  · rename_i hb
    split at h
    · simp at h
    · rename_i hs
      refine ⟨by simpa using hs, ?_⟩
      rcases Nat.lt_or_ge a.block w.heap.size with g | g
      · exact g
      · rw [Array.getElem?_eq_none g] at hb
        simp at hb
  · simp at h

/-- What Join writes. -/
def joinBytes (l0 : List ByteArray) (a1 : ByteArray) : List UInt8 := Lib.join (l0.map (·.data.toList)) a1.data.toList
def strings_Join.f (l0 : List ByteArray) (a1 : ByteArray) : Option ByteArray :=
  if l0.length ≤ 140737488355328 ∧ (joinBytes l0 a1).length ≤ 140737488355328 then some ⟨(joinBytes l0 a1).toArray⟩ else none
theorem strings_Join.calls (A0 : Option Addr) (c0 : Nat) (l0 : List ByteArray) (a1 : ByteArray) (r : ByteArray) (w : World) (hr0 : Kd.C Kd.string w A0 l0.length l0) (hc0 : l0.length ≤ c0) (h : strings_Join.f l0 a1 = some r) :
    Calls Tryd.prog 49 #[.slice A0 l0.length c0, .string a1] w fun e w' => e = .returned (.string r) ∧ Below w.heap.size w w' := by
  unfold strings_Join.f at h
  by_cases hc : l0.length ≤ 140737488355328 ∧ (joinBytes l0 a1).length ≤ 140737488355328
  · rw [if_pos hc] at h
    obtain rfl := Option.some.inj h
    cases l0 with
    | nil =>
      refine (Tryd.strings_Join_none A0 c0 a1 w).mono ?_
      rintro e w' ⟨rfl, rfl⟩
      exact ⟨by simp [joinBytes, Lib.join], Below.refl _ _⟩
    | cons x xs =>
      obtain ⟨ad, rfl, hcell⟩ := Kd.at_string hr0 0 (by omega) (by simp)
      obtain ⟨hs, hb⟩ := cell_plain hcell
      simp only [Int.toNat_zero, Addr.add, if_true] at hs hb hcell
      obtain ⟨b, o, s⟩ := ad
      simp only at hs hb
      subst hs
      refine (Tryd.strings_Join b o c0 (x :: xs) a1 w ?_ hb hc.1 hc0 hc.2).mono ?_
      · intro j y hj
        have hlt : j < (x :: xs).length := by
          rcases Nat.lt_or_ge j (x :: xs).length with g | g
          · exact g
          · rw [List.getElem?_eq_none g] at hj
            simp at hj
        obtain ⟨ad2, he, hcell2⟩ := Kd.at_string hr0 (j : Int) (by omega) (by omega)
        cases he
        rw [Int.toNat_natCast] at hcell2
        have hy : rdOf ByteArray.empty (x :: xs) (j : Int) = y := by
          unfold rdOf
          rw [Int.toNat_natCast, List.getD_eq_getElem?_getD, hj]
          rfl
        rw [hy] at hcell2
        by_cases hj0 : j = 0
        · subst hj0; simpa [Addr.add] using hcell2
        · simpa [Addr.add, hj0] using hcell2
      · rintro e w' ⟨rfl, hb⟩
        exact ⟨rfl, hb⟩
  · rw [if_neg hc] at h
    exact absurd h (by simp)
#print axioms strings_Join.calls
#print axioms strconv_FormatUint.calls
end Go.Proofs.YtepgpapljoelhaaDoor.PE
