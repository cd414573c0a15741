/- strconv.Itoa and strconv.FormatUint of every number, in the shape in which printed functions ask for them; with the table's fact. -/
import Derived.Test.YtcgnbknbnbgcmaaDoorUint
import Derived.Lib.SmallJoins
import Derived.Lib.AppendIntMem
namespace Go.Proofs.YtcgnbknbnbgcmaaDoor.PQ.V
open Go.RowKit Go.Sort Go.Lib Go.Proofs.YtcgnbknbnbgcmaaDoorW.PrintWords
abbrev TB (w : World) : Prop := Lib.TabIs Tryd.prog w "internal/strconv.uint64pow10" .u64 Lib.pow10Tab
def gNum : Nat := 0
theorem gTab : Tryd.prog.globalNamed "internal/strconv.uint64pow10" = some gNum := by kernel_rfl

def strconv_Itoa.f (a0 : Int) : Option ByteArray := if -9223372036854775808 ≤ a0 ∧ a0 ≤ 9223372036854775807 then some ⟨(Lib.itoa a0).toArray⟩ else none
theorem strconv_Itoa.calls (a0 : Int) (r : ByteArray) (w : World) (h : strconv_Itoa.f a0 = some r) (ht : TB w) :
    Calls Tryd.prog 22 #[.int .i64 a0] w fun e w' => e = .returned (.string r) ∧ Below w.heap.size w w' := by
  unfold strconv_Itoa.f at h
  by_cases hc : -9223372036854775808 ≤ a0 ∧ a0 ≤ 9223372036854775807
  · rw [if_pos hc] at h
    obtain rfl := Option.some.inj h
    refine (Tryd.strconv_Itoa a0 hc.1 hc.2 w ht).mono ?_
    rintro e w' ⟨rfl, k, os, rfl⟩
    exact ⟨rfl, Lib.below_grow _ _ (Nat.le_refl _) _ _⟩
  · rw [if_neg hc] at h
    exact absurd h (by simp)

theorem FormatUint_all (u : Nat) (h : u < 18446744073709551616) (w : World) (ht : TB w) :
    Calls Tryd.prog 24 #[.int .u64 u, .int .i64 10] w fun e w' => e = .returned (.string ⟨(Lib.decDigits u).toArray⟩) ∧ Below w.heap.size w w' := by
  go_enter Tryd.func24, Tryd.ntmps24
  go_wp2_with (go_at_call 27; refine (internal_FormatUint_all u h _ ht).mono ?_; rintro e w' ⟨rfl, k, os, rfl⟩)
  go_ret
  exact ⟨rfl, Lib.below_grow _ _ (Nat.le_refl _) _ _⟩

def strconv_FormatUint.f (a0 : Int) (a1 : Int) : Option ByteArray := if (0 ≤ a0 ∧ a0 < 18446744073709551616) ∧ a1 = 10 then some ⟨(Lib.decDigits a0.toNat).toArray⟩ else none
theorem strconv_FormatUint.calls (a0 : Int) (a1 : Int) (r : ByteArray) (w : World) (h : strconv_FormatUint.f a0 a1 = some r) (ht : TB w) :
    Calls Tryd.prog 24 #[.int .u64 a0, .int .i64 a1] w fun e w' => e = .returned (.string r) ∧ Below w.heap.size w w' := by
  unfold strconv_FormatUint.f at h
  by_cases hc : (0 ≤ a0 ∧ a0 < 18446744073709551616) ∧ a1 = 10
  · rw [if_pos hc] at h
    obtain rfl := Option.some.inj h
    obtain ⟨⟨h0, h1⟩, rfl⟩ := hc
    obtain ⟨n, rfl⟩ := Int.eq_ofNat_of_zero_le h0
    exact FormatUint_all n (by omega) w ht
  · rw [if_neg hc] at h
    exact absurd h (by simp)
end Go.Proofs.YtcgnbknbnbgcmaaDoor.PQ.V
