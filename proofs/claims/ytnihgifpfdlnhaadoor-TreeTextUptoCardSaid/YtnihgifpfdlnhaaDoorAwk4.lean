/- law04: the document's examples hold; a digit's text. -/
import Derived.Test.YtnihgifpfdlnhaaDoorExpr
namespace Go.Proofs.YtnihgifpfdlnhaaDoor.PT
open Go.RowKit Go.Lib
set_option linter.unusedVariables false
set_option linter.unusedSimpArgs false
theorem new_at4 {w : World} {n : Nat} (o : Obj) (hn : n = w.heap.size) : (w.alloc o).heap[n]? = some o := by subst hn; exact blk_new _ _
abbrev tN (c : UInt8) : Tree := .name ⟨#[c]⟩ 0
abbrev tThree : Tree := .bin 2 (.bin 0 (tN 97) (tN 98) 0) (.lit 3 0) 0
abbrev tLess : Tree := .bin 1 (tN 97) (.bin 1 (tN 98) (tN 99) 0) 0
theorem txtThree : txt tThree 0 = ⟨#[40, 97, 32, 43, 32, 98, 41, 32, 42, 32, 51]⟩ := by
  have h : Lib.decDigits 3 = [51] := Lib.decDigits_one (by omega)
  simp only [txt, h]
  decide
theorem txtLess : txt tLess 0 = ⟨#[97, 32, 45, 32, 40, 98, 32, 45, 32, 99, 41]⟩ := by
  simp only [txt]
  decide
theorem bdThree : bd tThree ≤ 1000000 ∧ bd tLess ≤ 1000000 := by decide
theorem okThree : ok tThree ∧ ok tLess := by
  refine ⟨⟨by omega, ⟨by omega, trivial, trivial⟩, ?_⟩, ⟨by omega, trivial, by omega, trivial, trivial⟩⟩
  show 3 < 18446744073709551616
  omega
abbrev xN (c : UInt8) : EV := ⟨1, 0, ⟨#[c]⟩, 0, none, 0, 0, 0⟩
abbrev xBin (o : Int) (g : Nat) : EV := ⟨3, o, ⟨#[]⟩, 0, some ⟨g, 0, none⟩, 2, 2, 0⟩
abbrev box2 (x y : EV) : Obj := .cells #[.int .i64 x.k, .int .i64 x.o, .string x.s, .int .u64 x.v, .slice x.A x.n x.c, .int .i64 x.p, .int .i64 y.k, .int .i64 y.o, .string y.s, .int .u64 y.v, .slice y.A y.n y.c, .int .i64 y.p] TE
theorem box2_row {w : World} {g : Nat} {x y : EV} (h : w.heap[g]? = some (box2 x y)) : Row w TE g (x.cells ++ y.cells) := Row.of h
set_option maxHeartbeats 1000000 in
theorem awake4_calls (w : World) (ht : TB w) : Calls Tryd.prog 9 #[] w fun e w' => e = .returned (.bool true) ∧ Below w.heap.size w w' := by
  have HE := Lib.hid expr_all
  have HT := Lib.hid ht
  clear ht
  go_enter Tryd.func9, Tryd.ntmps9
  go_wp2_with fail
  obtain ⟨n, hn⟩ : ∃ n, n = w.heap.size := ⟨_, rfl⟩
  rw [← hn]
  obtain ⟨w0, hw0⟩ : ∃ w0, w0 = (((((((((w.alloc (box (xN 97))).alloc (box (xN 98))).alloc (box (xN 99))).alloc (box2 (xN 97) (xN 98))).alloc (box (xBin 0 (n + 1 + 1 + 1)))).alloc (box2 (xBin 0 (n + 1 + 1 + 1)) ⟨0, 0, ⟨#[]⟩, 3, none, 0, 0, 0⟩)).alloc (box (xBin 2 (n + 1 + 1 + 1 + 1 + 1)))).alloc (box2 (xN 98) (xN 99))).alloc (box2 (xN 97) (xBin 1 (n + 1 + 1 + 1 + 1 + 1 + 1 + 1)))).alloc (box (xBin 1 (n + 1 + 1 + 1 + 1 + 1 + 1 + 1 + 1))) := ⟨_, rfl⟩
  have r1 : Row w0 TE (n + 1 + 1 + 1) ((xN 97).cells ++ (xN 98).cells) := box2_row (by
    rw [hw0]; exact blk_alloc (blk_alloc (blk_alloc (blk_alloc (blk_alloc (blk_alloc (new_at4 _ (by simp [hn])) _) _) _) _) _) _)
  have r2 : Row w0 TE (n + 1 + 1 + 1 + 1 + 1) ((xBin 0 (n + 1 + 1 + 1)).cells ++ EV.cells ⟨0, 0, ⟨#[]⟩, 3, none, 0, 0, 0⟩) := box2_row (by
    rw [hw0]; exact blk_alloc (blk_alloc (blk_alloc (blk_alloc (new_at4 _ (by simp [hn])) _) _) _) _)
  have r3 : Row w0 TE (n + 1 + 1 + 1 + 1 + 1 + 1 + 1) ((xN 98).cells ++ (xN 99).cells) := box2_row (by
    rw [hw0]; exact blk_alloc (blk_alloc (new_at4 _ (by simp [hn])) _) _)
  have r4 : Row w0 TE (n + 1 + 1 + 1 + 1 + 1 + 1 + 1 + 1) ((xN 97).cells ++ (xBin 1 (n + 1 + 1 + 1 + 1 + 1 + 1 + 1)).cells) := box2_row (by
    rw [hw0]; exact blk_alloc (new_at4 _ (by simp [hn])) _)
  have r5 : w0.heap[n + 1 + 1 + 1 + 1 + 1 + 1 + 1 + 1 + 1]? = some (box (xBin 1 (n + 1 + 1 + 1 + 1 + 1 + 1 + 1 + 1))) := by
    rw [hw0]; exact new_at4 _ (by simp [hn])
  have hB : Below w.heap.size w w0 := by
    rw [hw0]
    repeat' (first | exact Below.refl _ _ | refine Below.alloc ?_ (by simp; try omega) _)
  have hat1 : At tThree (fun _ => True) w0 (xBin 2 (n + 1 + 1 + 1 + 1 + 1)) :=
    ⟨_, _, _, _, trivial, Nat.le_refl _, rfl, r2, ⟨_, _, _, _, trivial, Nat.le_refl _, rfl, r1, rfl, rfl⟩, rfl⟩
  have hat2 : At tLess (fun _ => True) w0 (xBin 1 (n + 1 + 1 + 1 + 1 + 1 + 1 + 1 + 1)) :=
    ⟨_, _, _, _, trivial, Nat.le_refl _, rfl, r4, rfl, ⟨_, _, _, _, trivial, Nat.le_refl _, rfl, r3, rfl, rfl⟩⟩
  have hT := HT.out.below hB
  have HA1 := Lib.hid hat1
  have HA2 := Lib.hid hat2
  have HT0 := Lib.hid hT
  have HB := Lib.hid hB
  have HR5 := Lib.hid r5
  have HW := Lib.hid hw0
  have HN := Lib.hid hn
  clear hat1 hat2 hT hB r1 r2 r3 r4 r5 hw0 hn
  rw [← HW.out]
  refine (HE.out tThree (xBin 2 (n + 1 + 1 + 1 + 1 + 1)) _ _ 0 HA1.out okThree.1 bdThree.1 HT0.out (by omega) (by omega)).mono ?_
  rintro e w1 ⟨rfl, hb1⟩
  rw [txtThree]
  have h5 := blk_below HR5.out hb1
  have x0 := (blk_cell h5 0).trans rfl
  have x1 := (blk_cell h5 1).trans rfl
  have x2 := (blk_cell h5 2).trans rfl
  have x3 := (blk_cell h5 3).trans rfl
  have x4 := (blk_cell h5 4).trans rfl
  have x5 := (blk_cell h5 5).trans rfl
  have HB1 := Lib.hid hb1
  clear hb1 h5
  go_wp2_with fail
  refine (HE.out tLess (xBin 1 (n + 1 + 1 + 1 + 1 + 1 + 1 + 1 + 1)) _ _ 0 (HA2.out.below HB1.out) okThree.2 bdThree.2 (HT0.out.below HB1.out) (by omega) (by omega)).mono ?_
  rintro e w2 ⟨rfl, hb2⟩
  rw [txtLess]
  have HB2 := Lib.hid hb2
  clear hb2
  go_wp2
  go_ret
  exact ⟨rfl, HB.out.trans ((HB1.out.trans (HB2.out.mono HB1.out.size)).mono HB.out.size)⟩

/-- A digit's text. -/
def dgt (n : Nat) : ByteArray := ⟨#[UInt8.ofNat (48 + n)]⟩
set_option maxRecDepth 100000 in
theorem digit_calls (n : Nat) (h : n < 10) (w : World) : Calls Tryd.prog 10 #[.int .i64 n] w fun e w' => e = .returned (.string (dgt n)) ∧ w = w' := by
  rcases (show n = 0 ∨ n = 1 ∨ n = 2 ∨ n = 3 ∨ n = 4 ∨ n = 5 ∨ n = 6 ∨ n = 7 ∨ n = 8 ∨ n = 9 by omega) with h | h | h | h | h | h | h | h | h | h <;> subst h
  · have hc : ∀ w : World, (convert 21 9 (.int .i32 48)).run Tryd.prog w = .ok (.string ⟨#[48]⟩) w := fun w => by kernel_rfl
    go_enter Tryd.func10, Tryd.ntmps10
    go_wp2
    go_ret
    exact ⟨rfl, rfl⟩
  · have hc : ∀ w : World, (convert 21 9 (.int .i32 49)).run Tryd.prog w = .ok (.string ⟨#[49]⟩) w := fun w => by kernel_rfl
    go_enter Tryd.func10, Tryd.ntmps10
    go_wp2
    go_ret
    exact ⟨rfl, rfl⟩
  · have hc : ∀ w : World, (convert 21 9 (.int .i32 50)).run Tryd.prog w = .ok (.string ⟨#[50]⟩) w := fun w => by kernel_rfl
    go_enter Tryd.func10, Tryd.ntmps10
    go_wp2
    go_ret
    exact ⟨rfl, rfl⟩
  · have hc : ∀ w : World, (convert 21 9 (.int .i32 51)).run Tryd.prog w = .ok (.string ⟨#[51]⟩) w := fun w => by kernel_rfl
    go_enter Tryd.func10, Tryd.ntmps10
    go_wp2
    go_ret
    exact ⟨rfl, rfl⟩
  · have hc : ∀ w : World, (convert 21 9 (.int .i32 52)).run Tryd.prog w = .ok (.string ⟨#[52]⟩) w := fun w => by kernel_rfl
    go_enter Tryd.func10, Tryd.ntmps10
    go_wp2
    go_ret
    exact ⟨rfl, rfl⟩
  · have hc : ∀ w : World, (convert 21 9 (.int .i32 53)).run Tryd.prog w = .ok (.string ⟨#[53]⟩) w := fun w => by kernel_rfl
    go_enter Tryd.func10, Tryd.ntmps10
    go_wp2
    go_ret
    exact ⟨rfl, rfl⟩
  · have hc : ∀ w : World, (convert 21 9 (.int .i32 54)).run Tryd.prog w = .ok (.string ⟨#[54]⟩) w := fun w => by kernel_rfl
    go_enter Tryd.func10, Tryd.ntmps10
    go_wp2
    go_ret
    exact ⟨rfl, rfl⟩
  · have hc : ∀ w : World, (convert 21 9 (.int .i32 55)).run Tryd.prog w = .ok (.string ⟨#[55]⟩) w := fun w => by kernel_rfl
    go_enter Tryd.func10, Tryd.ntmps10
    go_wp2
    go_ret
    exact ⟨rfl, rfl⟩
  · have hc : ∀ w : World, (convert 21 9 (.int .i32 56)).run Tryd.prog w = .ok (.string ⟨#[56]⟩) w := fun w => by kernel_rfl
    go_enter Tryd.func10, Tryd.ntmps10
    go_wp2
    go_ret
    exact ⟨rfl, rfl⟩
  · have hc : ∀ w : World, (convert 21 9 (.int .i32 57)).run Tryd.prog w = .ok (.string ⟨#[57]⟩) w := fun w => by kernel_rfl
    go_enter Tryd.func10, Tryd.ntmps10
    go_wp2
    go_ret
    exact ⟨rfl, rfl⟩
end Go.Proofs.YtnihgifpfdlnhaaDoor.PT
