/- ParseLimits: number, is. -/
import Derived.Test.YtcdgjgoplogiiaaDoorAwk5
namespace Go.Proofs.YtcdgjgoplogiiaaDoor.PT
open Go.RowKit Go.Lib
set_option linter.unusedVariables false
set_option linter.unusedSimpArgs false
def dg (n : Nat) : ByteArray := ⟨#[UInt8.ofNat (48 + n)]⟩
def numL (n : Nat) : ByteArray := if n < 10 then dg n else if n < 100 then dg (n / 10) ++ dg (n % 10) else (dg (n / 100) ++ dg (n / 10 % 10)) ++ dg (n % 10)
def StrS (r : ByteArray) (w : World) (e : Ending) (w' : World) : Prop := e = .returned (.string r) ∧ w = w'
theorem number_10 (z : Int) (n : Nat) (hz : z = n) (h : n < 10) (w : World) : Calls Tryd.prog 13 #[.int .i64 z] w (StrS (dg n) w) := by
  subst hz
  rcases (show n = 0 ∨ n = 1 ∨ n = 2 ∨ n = 3 ∨ n = 4 ∨ n = 5 ∨ n = 6 ∨ n = 7 ∨ n = 8 ∨ n = 9 by omega) with rfl | rfl | rfl | rfl | rfl | rfl | rfl | rfl | rfl | rfl
  · have hc : ∀ w : World, (convert 21 9 (.int .i32 48)).run Tryd.prog w = .ok (.string ⟨#[48]⟩) w := fun w => by kernel_rfl
    go_enter Tryd.func13, Tryd.ntmps13
    go_wp2
    go_ret
    exact ⟨rfl, rfl⟩
  · have hc : ∀ w : World, (convert 21 9 (.int .i32 49)).run Tryd.prog w = .ok (.string ⟨#[49]⟩) w := fun w => by kernel_rfl
    go_enter Tryd.func13, Tryd.ntmps13
    go_wp2
    go_ret
    exact ⟨rfl, rfl⟩
  · have hc : ∀ w : World, (convert 21 9 (.int .i32 50)).run Tryd.prog w = .ok (.string ⟨#[50]⟩) w := fun w => by kernel_rfl
    go_enter Tryd.func13, Tryd.ntmps13
    go_wp2
    go_ret
    exact ⟨rfl, rfl⟩
  · have hc : ∀ w : World, (convert 21 9 (.int .i32 51)).run Tryd.prog w = .ok (.string ⟨#[51]⟩) w := fun w => by kernel_rfl
    go_enter Tryd.func13, Tryd.ntmps13
    go_wp2
    go_ret
    exact ⟨rfl, rfl⟩
  · have hc : ∀ w : World, (convert 21 9 (.int .i32 52)).run Tryd.prog w = .ok (.string ⟨#[52]⟩) w := fun w => by kernel_rfl
    go_enter Tryd.func13, Tryd.ntmps13
    go_wp2
    go_ret
    exact ⟨rfl, rfl⟩
  · have hc : ∀ w : World, (convert 21 9 (.int .i32 53)).run Tryd.prog w = .ok (.string ⟨#[53]⟩) w := fun w => by kernel_rfl
    go_enter Tryd.func13, Tryd.ntmps13
    go_wp2
    go_ret
    exact ⟨rfl, rfl⟩
  · have hc : ∀ w : World, (convert 21 9 (.int .i32 54)).run Tryd.prog w = .ok (.string ⟨#[54]⟩) w := fun w => by kernel_rfl
    go_enter Tryd.func13, Tryd.ntmps13
    go_wp2
    go_ret
    exact ⟨rfl, rfl⟩
  · have hc : ∀ w : World, (convert 21 9 (.int .i32 55)).run Tryd.prog w = .ok (.string ⟨#[55]⟩) w := fun w => by kernel_rfl
    go_enter Tryd.func13, Tryd.ntmps13
    go_wp2
    go_ret
    exact ⟨rfl, rfl⟩
  · have hc : ∀ w : World, (convert 21 9 (.int .i32 56)).run Tryd.prog w = .ok (.string ⟨#[56]⟩) w := fun w => by kernel_rfl
    go_enter Tryd.func13, Tryd.ntmps13
    go_wp2
    go_ret
    exact ⟨rfl, rfl⟩
  · have hc : ∀ w : World, (convert 21 9 (.int .i32 57)).run Tryd.prog w = .ok (.string ⟨#[57]⟩) w := fun w => by kernel_rfl
    go_enter Tryd.func13, Tryd.ntmps13
    go_wp2
    go_ret
    exact ⟨rfl, rfl⟩
theorem dg_size (n : Nat) : (dg n).size = 1 := rfl
theorem number_100 (z : Int) (n : Nat) (hz : z = n) (h : n < 100) (h' : 10 ≤ n) (w : World) : Calls Tryd.prog 13 #[.int .i64 z] w (StrS (dg (n / 10) ++ dg (n % 10)) w) := by
  have HZ := Lib.hid hz
  have z0 : 0 ≤ z := by omega
  have z1 : z < 100 := by omega
  have z2 : ¬ z < 10 := by omega
  obtain ⟨a, ha⟩ : ∃ a, a = dg (n / 10) := ⟨_, rfl⟩
  obtain ⟨b, hb⟩ : ∃ b, b = dg (n % 10) := ⟨_, rfl⟩
  have sa : a.size = 1 := by rw [ha]; rfl
  have sb : b.size = 1 := by rw [hb]; rfl
  have sa' : a.size ≤ 1 := by omega
  have sb' : b.size ≤ 1 := by omega
  have hA := fun w => number_10 (z / 10) (n / 10) (by omega) (by omega) w
  have hB := fun w => number_10 (z % 10) (n % 10) (by omega) (by omega) w
  rw [← ha] at hA
  rw [← hb] at hB
  rw [← ha, ← hb]
  have HA := Lib.hid hA
  have HB := Lib.hid hB
  clear hz ha hb hA hB h h' sa sb
  go_enter Tryd.func13, Tryd.ntmps13
  go_wp2_with fail
  refine (HA.out _).mono ?_
  rintro e w1 ⟨rfl, rfl⟩
  go_wp2_with fail
  refine (HB.out _).mono ?_
  rintro e w2 ⟨rfl, rfl⟩
  go_wp2
  go_ret
  exact ⟨rfl, rfl⟩
theorem number_1000 (z : Int) (n : Nat) (hz : z = n) (h : n < 1000) (h' : 100 ≤ n) (w : World) : Calls Tryd.prog 13 #[.int .i64 z] w (StrS ((dg (n / 100) ++ dg (n / 10 % 10)) ++ dg (n % 10)) w) := by
  have HZ := Lib.hid hz
  have z0 : 0 ≤ z := by omega
  have z1 : z < 1000 := by omega
  have z2 : ¬ z < 10 := by omega
  obtain ⟨a, ha⟩ : ∃ a, a = dg (n / 100) ++ dg (n / 10 % 10) := ⟨_, rfl⟩
  obtain ⟨b, hb⟩ : ∃ b, b = dg (n % 10) := ⟨_, rfl⟩
  have sa' : a.size ≤ 2 := by rw [ha, ByteArray.size_append, dg_size, dg_size]; omega
  have sb' : b.size ≤ 1 := by rw [hb, dg_size]; omega
  have hA := fun w => number_100 (z / 10) (n / 10) (by omega) (by omega) (by omega) w
  have hB := fun w => number_10 (z % 10) (n % 10) (by omega) (by omega) w
  rw [show n / 10 / 10 = n / 100 by omega, ← ha] at hA
  rw [← hb] at hB
  rw [← ha, ← hb]
  have HA := Lib.hid hA
  have HB := Lib.hid hB
  clear hz ha hb hA hB h h'
  go_enter Tryd.func13, Tryd.ntmps13
  go_wp2_with fail
  refine (HA.out _).mono ?_
  rintro e w1 ⟨rfl, rfl⟩
  go_wp2_with fail
  refine (HB.out _).mono ?_
  rintro e w2 ⟨rfl, rfl⟩
  go_wp2
  go_ret
  exact ⟨rfl, rfl⟩
theorem number_any (z : Int) (n : Nat) (hz : z = n) (h : n < 1000) (w : World) : Calls Tryd.prog 13 #[.int .i64 z] w (StrS (numL n) w) := by
  unfold numL
  split
  · exact number_10 z n hz (by assumption) w
  · split
    · exact number_100 z n hz (by assumption) (by omega) w
    · exact number_1000 z n hz h (by omega) w
theorem numL_size (n : Nat) : (numL n).size ≤ 3 := by
  unfold numL
  split
  · rw [dg_size]; decide
  · split <;> simp only [ByteArray.size_append, dg_size] <;> decide
def YesB (w : World) (e : Ending) (w' : World) : Prop := e = .returned (.bool true) ∧ Below w.heap.size w w'
theorem is_nil (w : World) : Calls Tryd.prog 14 #[.nilIface, .bool true] w (YesB w) := by
  go_enter Tryd.func14, Tryd.ntmps14
  go_wp2
  go_ret
  exact ⟨rfl, Below.refl _ _⟩
theorem is_err (v : Value) (p : Nat) (w : World) (hv : ErrV w 0 v 6 p) (hg : GT w) : Calls Tryd.prog 14 #[v, .bool false] w (YesB w) := by
  have HN := Lib.hid (number_err 6 p v w hv hg)
  clear hv hg
  go_enter Tryd.func14, Tryd.ntmps14
  go_wp2_with fail
  refine HN.out.mono ?_
  rintro e w1 ⟨rfl, hb⟩
  have HB := Lib.hid hb
  clear hb
  go_wp2
  go_ret
  exact ⟨rfl, HB.out⟩
end Go.Proofs.YtcdgjgoplogiiaaDoor.PT
