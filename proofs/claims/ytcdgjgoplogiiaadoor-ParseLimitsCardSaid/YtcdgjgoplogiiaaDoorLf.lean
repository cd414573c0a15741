/- The three small texts of ParseLimits: read or not, by one number. -/
import Derived.Test.YtcdgjgoplogiiaaDoorLdp
namespace Go.Proofs.YtcdgjgoplogiiaaDoor.PT
open Go.RowKit Go.Lib
set_option linter.unusedVariables false
set_option linter.unusedSimpArgs false
/-- Read (b), or left with error 6 (not b). -/
def says (s : ByteArray) (b : Bool) : Bool := match parse s with
  | .ok _ => b
  | .error (k, _) => !b && k == 6
theorem says_of {s : ByteArray} {b : Bool} (h : says s b = true) : (b = true → ∃ p, parse s = .ok p) ∧ (b = false → ∃ p, parse s = .error (6, p)) := by
  unfold says at h
  split at h
  · rename_i p hp
    exact ⟨fun _ => ⟨p, hp⟩, fun e => by rw [e] at h; cases h⟩
  · rename_i k q hp
    simp only [Bool.and_eq_true, Bool.not_eq_true', beq_iff_eq] at h
    refine ⟨fun e => ?_, fun _ => ⟨q, ?_⟩⟩
    · rw [h.1] at e; cases e
    · rw [hp, h.2]
def ftx (n : Nat) : ByteArray := (⟨#[112, 117, 98, 108, 105, 99, 32, 97, 91]⟩ : ByteArray) ++ numL n ++ ⟨#[93, 59, 32, 116, 104, 114, 101, 97, 100, 32, 123, 32, 125]⟩
def gtx (n : Nat) : ByteArray := (⟨#[116, 104, 114, 101, 97, 100, 32, 123, 32, 108, 111, 111, 112, 32, 105, 32]⟩ : ByteArray) ++ numL n ++ ⟨#[32, 123, 32, 125, 32, 125]⟩
def xtx : Nat → ByteArray
  | 0 => ⟨#[49]⟩
  | b + 1 => (⟨#[40]⟩ : ByteArray) ++ xtx b ++ ⟨#[41]⟩
def htx (n : Nat) : ByteArray := (⟨#[116, 104, 114, 101, 97, 100, 32, 123, 32, 111, 117, 116, 112, 117, 116, 32]⟩ : ByteArray) ++ xtx n ++ ⟨#[59, 32, 125]⟩
/-- f holds for every number in n .. n + k. -/
def allTo (f : Nat → Bool) : Nat → Bool
  | 0 => true
  | n + 1 => f n && allTo f n
theorem allTo_at {f : Nat → Bool} : ∀ {n : Nat}, allTo f n = true → ∀ i, i < n → f i = true
  | 0, _, i, hi => absurd hi (Nat.not_lt_zero i)
  | n + 1, h, i, hi => by
    simp only [allTo, Bool.and_eq_true] at h
    by_cases e : i = n
    · rw [e]; exact h.1
    · exact allTo_at h.2 i (by omega)
theorem f_says : allTo (fun n => says (ftx n) (Nat.ble 1 n && Nat.ble n 64)) 100 = true := by kernel_rfl
theorem h_says : allTo (fun n => says (htx n) (Nat.ble (n + 2) 40)) 60 = true := by kernel_rfl
theorem g_says : allTo (fun n => says (gtx n) (Nat.ble 1 n && Nat.ble n 256)) 400 = true := by kernel_rfl
end Go.Proofs.YtcdgjgoplogiiaaDoor.PT
