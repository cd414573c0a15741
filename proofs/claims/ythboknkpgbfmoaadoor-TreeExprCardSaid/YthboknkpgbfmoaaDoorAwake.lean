/- law04: the document's examples hold. -/
import Derived.Test.YthboknkpgbfmoaaDoorExpr
namespace Go.Proofs.YthboknkpgbfmoaaDoor.PQ
open Go.RowKit Go.Lib Go.Proofs.YthboknkpgbfmoaaDoorW.PrintWords
set_option linter.unusedVariables false
theorem new_at {w : World} {n : Nat} (o : Obj) (hn : n = w.heap.size) : (w.alloc o).heap[n]? = some o := by subst hn; exact blk_new _ _
abbrev tN (c : UInt8) : Tree := .name ⟨#[c]⟩
abbrev tThree : Tree := .bin 2 (.bin 0 (tN 97) (tN 98)) (.lit 3)
abbrev tLess : Tree := .bin 1 (tN 97) (.bin 1 (tN 98) (tN 99))
theorem txtThree : txt tThree 0 = ⟨#[40, 97, 32, 43, 32, 98, 41, 32, 42, 32, 51]⟩ := by
  have h : Lib.decDigits 3 = [51] := Lib.decDigits_one (by omega)
  simp only [txt, h]
  decide
theorem txtLess : txt tLess 0 = ⟨#[97, 32, 45, 32, 40, 98, 32, 45, 32, 99, 41]⟩ := by
  simp only [txt]
  decide
theorem bdThree : bd tThree ≤ 1000000 ∧ bd tLess ≤ 1000000 := by decide
theorem okThree : ok tThree ∧ ok tLess := by
  refine ⟨⟨by omega, ⟨by omega, trivial, trivial⟩, ?_⟩, ⟨by omega, trivial, by omega, trivial, trivial⟩⟩
  show 3 < 18446744073709551616
  omega
abbrev xN (c : UInt8) : EV := ⟨1, 0, ⟨#[c]⟩, 0, none, 0⟩
set_option maxHeartbeats 1000000 in
theorem awake_calls (hE : ∀ t, ExprSays t) (w : World) (ht : TB w) : Calls Tryd.prog 5 #[] w fun e w' => e = .returned (.bool true) ∧ Below w.heap.size w w' := by
  have HE := Lib.hid hE
  have HT := Lib.hid ht
  clear hE ht
  go_enter Tryd.func5, Tryd.ntmps5
  go_wp2_with fail
  obtain ⟨n, hn⟩ : ∃ n, n = w.heap.size := ⟨_, rfl⟩
  rw [← hn]
  obtain ⟨w0, hw0⟩ : ∃ w0, w0 = (((((((((w.alloc (row1 (xN 97))).alloc (row1 (xN 98))).alloc (row1 (xN 99))).alloc (row2 (xN 97) (xN 98))).alloc (row1 ⟨3, 0, ⟨#[]⟩, 0, some ⟨n + 1 + 1 + 1, 0, none⟩, 2⟩)).alloc (row2 ⟨3, 0, ⟨#[]⟩, 0, some ⟨n + 1 + 1 + 1, 0, none⟩, 2⟩ ⟨0, 0, ⟨#[]⟩, 3, none, 0⟩)).alloc (row1 ⟨3, 2, ⟨#[]⟩, 0, some ⟨n + 1 + 1 + 1 + 1 + 1, 0, none⟩, 2⟩)).alloc (row2 (xN 98) (xN 99))).alloc (row2 (xN 97) ⟨3, 1, ⟨#[]⟩, 0, some ⟨n + 1 + 1 + 1 + 1 + 1 + 1 + 1, 0, none⟩, 2⟩)).alloc (row1 ⟨3, 1, ⟨#[]⟩, 0, some ⟨n + 1 + 1 + 1 + 1 + 1 + 1 + 1 + 1, 0, none⟩, 2⟩) := ⟨_, rfl⟩
  have r1 : Row2 w0 (n + 1 + 1 + 1) (xN 97) (xN 98) := by
    rw [hw0]; exact blk_alloc (blk_alloc (blk_alloc (blk_alloc (blk_alloc (blk_alloc (new_at _ (by simp [hn])) _) _) _) _) _) _
  have r2 : Row2 w0 (n + 1 + 1 + 1 + 1 + 1) ⟨3, 0, ⟨#[]⟩, 0, some ⟨n + 1 + 1 + 1, 0, none⟩, 2⟩ ⟨0, 0, ⟨#[]⟩, 3, none, 0⟩ := by
    rw [hw0]; exact blk_alloc (blk_alloc (blk_alloc (blk_alloc (new_at _ (by simp [hn])) _) _) _) _
  have r3 : Row2 w0 (n + 1 + 1 + 1 + 1 + 1 + 1 + 1) (xN 98) (xN 99) := by
    rw [hw0]; exact blk_alloc (blk_alloc (new_at _ (by simp [hn])) _) _
  have r4 : Row2 w0 (n + 1 + 1 + 1 + 1 + 1 + 1 + 1 + 1) (xN 97) ⟨3, 1, ⟨#[]⟩, 0, some ⟨n + 1 + 1 + 1 + 1 + 1 + 1 + 1, 0, none⟩, 2⟩ := by
    rw [hw0]; exact blk_alloc (new_at _ (by simp [hn])) _
  have r5 : Row1 w0 (n + 1 + 1 + 1 + 1 + 1 + 1 + 1 + 1 + 1) ⟨3, 1, ⟨#[]⟩, 0, some ⟨n + 1 + 1 + 1 + 1 + 1 + 1 + 1 + 1, 0, none⟩, 2⟩ := by
    rw [hw0]; exact new_at _ (by simp [hn])
  have hB : Below w.heap.size w w0 := by
    rw [hw0]
    repeat' (first | exact Below.refl _ _ | refine Below.alloc ?_ (by simp; try omega) _)
  have hat1 : At tThree 0 w0 ⟨3, 2, ⟨#[]⟩, 0, some ⟨n + 1 + 1 + 1 + 1 + 1, 0, none⟩, 2⟩ :=
    ⟨_, _, _, Nat.zero_le _, rfl, r2, ⟨_, _, _, Nat.zero_le _, rfl, r1, rfl, rfl⟩, rfl⟩
  have hat2 : At tLess 0 w0 ⟨3, 1, ⟨#[]⟩, 0, some ⟨n + 1 + 1 + 1 + 1 + 1 + 1 + 1 + 1, 0, none⟩, 2⟩ :=
    ⟨_, _, _, Nat.zero_le _, rfl, r4, rfl, ⟨_, _, _, Nat.zero_le _, rfl, r3, rfl, rfl⟩⟩
  have hT := HT.out.below hB
  have HA1 := Lib.hid hat1
  have HA2 := Lib.hid hat2
  have HT0 := Lib.hid hT
  have HB := Lib.hid hB
  have HR5 := Lib.hid r5
  have HW := Lib.hid hw0
  have HN := Lib.hid hn
  clear hat1 hat2 hT hB r1 r2 r3 r4 r5 hw0 hn
  rw [← HW.out]
  refine (HE.out tThree ⟨3, 2, ⟨#[]⟩, 0, some ⟨n + 1 + 1 + 1 + 1 + 1, 0, none⟩, 2⟩ 0 _ 0 HA1.out okThree.1 bdThree.1 HT0.out (by omega) (by omega)).mono ?_
  rintro e w1 ⟨rfl, hb1⟩
  rw [txtThree]
  obtain ⟨x0, x1, x2, x3, x4, x5⟩ := Row1.facts (blk_below HR5.out hb1)
  have HB1 := Lib.hid hb1
  clear hb1
  go_wp2_with fail
  refine (HE.out tLess ⟨3, 1, ⟨#[]⟩, 0, some ⟨n + 1 + 1 + 1 + 1 + 1 + 1 + 1 + 1, 0, none⟩, 2⟩ 0 _ 0 (HA2.out.below HB1.out) okThree.2 bdThree.2 (HT0.out.below HB1.out) (by omega) (by omega)).mono ?_
  rintro e w2 ⟨rfl, hb2⟩
  rw [txtLess]
  have HB2 := Lib.hid hb2
  clear hb2
  go_wp2
  go_ret
  exact ⟨rfl, HB.out.trans ((HB1.out.trans (HB2.out.mono HB1.out.size)).mono HB.out.size)⟩
end Go.Proofs.YthboknkpgbfmoaaDoor.PQ
