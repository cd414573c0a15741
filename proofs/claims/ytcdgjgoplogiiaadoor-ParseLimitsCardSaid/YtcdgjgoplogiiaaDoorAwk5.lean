/- law05's examples. -/
import Derived.Test.YtcdgjgoplogiiaaDoorNum
namespace Go.Proofs.YtcdgjgoplogiiaaDoor.PT
open Go.RowKit Go.Lib
set_option linter.unusedVariables false
set_option linter.unusedSimpArgs false
theorem pa1 : parse ⟨#[116, 104, 114, 101, 97, 100, 32, 123, 32, 125]⟩ = .ok ⟨[], [.nil]⟩ := by kernel_rfl
theorem pa2 : parse ⟨#[116, 104, 114, 101, 97, 100, 32, 123, 32, 97, 32, 61, 32, 49, 32, 125]⟩ = .error (2, 15) := by kernel_rfl
theorem pa3 : parse ⟨#[]⟩ = .error (2, 0) := by kernel_rfl
set_option maxRecDepth 100000 in
set_option maxHeartbeats 4000000 in
theorem awake5_calls (w : World) (hg : GT w) : Calls Tryd.prog 11 #[] w fun e w' => e = .returned (.bool true) ∧ Below w.heap.size w w' := by
  have HG := Lib.hid hg
  clear hg
  go_enter Tryd.func11, Tryd.ntmps11
  go_wp2_with fail
  refine (prog_ok pa1 _).mono ?_
  rintro e w1 ⟨A, n, c, A', n', c', rfl, hb1, ⟨hn, _⟩, ⟨hn', _⟩⟩
  obtain rfl : n = 0 := hn
  obtain rfl : n' = 1 := hn'
  have HB1 := Lib.hid hb1
  clear hb1
  go_wp2_with fail
  refine (prog_err pa2 _).mono ?_
  rintro e w2 ⟨u, rfl, hb2, hu⟩
  have HB2 : Hid (Below w.heap.size w w2) := Lib.hid ((HB1.out.alloc HB1.out.size _).trans (hb2.mono (by have := HB1.out.size; simp; omega)))
  have HP2 : Hid (w2.heap[w1.heap.size]? = some (.cells #[.slice A 0 c, .slice A' 1 c'] TPg (0, 0))) := Lib.hid (blk_below (blk_new _ _) hb2)
  have HU2 := Lib.hid hu
  obtain ⟨gF, _, rfl, _⟩ := hu
  clear hb2
  go_wp2_with fail
  refine (prog_err pa3 _).mono ?_
  rintro e w3 ⟨v, rfl, hb3, hv⟩
  have HB3 : Hid (Below w.heap.size w w3) := Lib.hid ((HB2.out.alloc HB2.out.size _).trans (hb3.mono (by have := HB2.out.size; simp; omega)))
  have HP3 : Hid (w3.heap[w1.heap.size]? = some (.cells #[.slice A 0 c, .slice A' 1 c'] TPg (0, 0))) := Lib.hid (blk_below (blk_alloc HP2.out _) hb3)
  have HU3 := Lib.hid ((HU2.out.below ((Below.refl _ _).alloc (Nat.le_refl _) _)).below hb3)
  have HV3 := Lib.hid hv
  obtain ⟨gV, _, rfl, _⟩ := hv
  clear hb3
  obtain ⟨w4, hw4⟩ : ∃ w4, w4 = w3.alloc (.cells #[.slice none 0 0, .slice none 0 0] TPg) := ⟨_, rfl⟩
  have HB4 : Hid (Below w.heap.size w w4) := Lib.hid (by rw [hw4]; exact HB3.out.alloc HB3.out.size _)
  have HP4 := Lib.hid (blk_alloc HP3.out (.cells #[.slice none 0 0, .slice none 0 0] TPg))
  have HU4 := Lib.hid (HU3.out.below ((Below.refl _ _).alloc (Nat.le_refl _) (.cells #[.slice none 0 0, .slice none 0 0] TPg)))
  have HV4 := Lib.hid (HV3.out.below ((Below.refl _ _).alloc (Nat.le_refl _) (.cells #[.slice none 0 0, .slice none 0 0] TPg)))
  rw [← hw4] at HP4 HU4 HV4
  have hP3 := lt_heap HP3.out
  have p0 : w3.cell? ⟨w1.heap.size, 0, none⟩ = some (.slice A 0 c) := (blk_cell HP3.out 0).trans rfl
  have p1 : w3.cell? ⟨w1.heap.size, 1, none⟩ = some (.slice A' 1 c') := (blk_cell HP3.out 1).trans rfl
  go_wp2_with fail
  show Calls _ _ _ (w3.alloc (.cells #[.slice none 0 0, .slice none 0 0] TPg)) _
  rw [← hw4]
  clear hw4 p0 p1 hP3
  refine (number_err 2 15 _ w4 HU4.out (HG.out.below (HB4.out.mono (Nat.le_of_eq rfl)))).mono ?_
  rintro e w5 ⟨rfl, hb5⟩
  have HB5 := Lib.hid (HB4.out.trans (hb5.mono HB4.out.size))
  have HU5 := Lib.hid (HU4.out.below hb5)
  have HV5 := Lib.hid (HV4.out.below hb5)
  clear hb5
  go_wp2_with fail
  refine (place_err 2 15 _ w5 HU5.out (HG.out.below HB5.out)).mono ?_
  rintro e w6 ⟨rfl, hb6⟩
  have HB6 := Lib.hid (HB5.out.trans (hb6.mono HB5.out.size))
  have HV6 := Lib.hid (HV5.out.below hb6)
  clear hb6
  go_wp2_with fail
  refine (number_err 2 0 _ w6 HV6.out (HG.out.below HB6.out)).mono ?_
  rintro e w7 ⟨rfl, hb7⟩
  have HB7 := Lib.hid (HB6.out.trans (hb7.mono HB6.out.size))
  have HV7 := Lib.hid (HV6.out.below hb7)
  clear hb7
  go_wp2_with fail
  refine (place_err 2 0 _ w7 HV7.out (HG.out.below HB7.out)).mono ?_
  rintro e w8 ⟨rfl, hb8⟩
  have HB8 := Lib.hid (HB7.out.trans (hb8.mono HB7.out.size))
  clear hb8
  go_wp2
  go_ret
  exact ⟨rfl, HB8.out⟩
end Go.Proofs.YtcdgjgoplogiiaaDoor.PT
