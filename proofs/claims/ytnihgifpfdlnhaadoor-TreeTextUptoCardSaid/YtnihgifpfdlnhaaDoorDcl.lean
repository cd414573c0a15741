/- tree.decl and tree.Text. -/
import Derived.Test.YtnihgifpfdlnhaaDoorTxt
namespace Go.Proofs.YtnihgifpfdlnhaaDoor.PT
open Go.RowKit Go.Lib
set_option linter.unusedVariables false
set_option linter.unusedSimpArgs false

abbrev Dcl.val (d : Dcl) : Value := .agg #[.bool d.lock, .int .i64 d.label, .string d.name, .int .i64 d.size, .string d.by', .int .i64 d.p]
def Dcl.cells (d : Dcl) : List Value := [.bool d.lock, .int .i64 d.label, .string d.name, .int .i64 d.size, .string d.by', .int .i64 d.p]
abbrev dbox (d : Dcl) : Obj := .cells #[.bool d.lock, .int .i64 d.label, .string d.name, .int .i64 d.size, .string d.by', .int .i64 d.p] TD
def Dcl.ok (d : Dcl) : Prop := d.size < 1000000 ∧ d.name.size ≤ 2000000 ∧ d.by'.size ≤ 2000000
theorem dbox_cells {w w' : World} {bx : Nat} {x : Dcl} (h : w.heap[bx]? = some (dbox x)) (hb : Below w.heap.size w w') :
    (w'.cell? ⟨bx, 0, none⟩ = some (.bool x.lock) ∧ w'.cell? ⟨bx, 1, none⟩ = some (.int .i64 x.label) ∧ w'.cell? ⟨bx, 2, none⟩ = some (.string x.name)) ∧ w'.cell? ⟨bx, 3, none⟩ = some (.int .i64 x.size) ∧ w'.cell? ⟨bx, 4, none⟩ = some (.string x.by') ∧ w'.cell? ⟨bx, 5, none⟩ = some (.int .i64 x.p) := by
  have h' := blk_below h hb
  exact ⟨⟨(blk_cell h' 0).trans rfl, (blk_cell h' 1).trans rfl, (blk_cell h' 2).trans rfl⟩, (blk_cell h' 3).trans rfl, (blk_cell h' 4).trans rfl, (blk_cell h' 5).trans rfl⟩
theorem itoa_calls (n : Int) (h0 : 0 ≤ n) (h1 : n < 1000000) (w : World) (ht : TB w) : Calls Tryd.prog 43 #[.int .i64 n] w (Says w (numT n)) := by
  refine (Tryd.strconv_Itoa n (by omega) (by omega) w ht).mono ?_
  rintro e w2 ⟨rfl, k, os, rfl⟩
  refine ⟨?_, Lib.below_grow _ _ (Nat.le_refl _) _ _⟩
  have : Lib.itoa n = Lib.decDigits n.toNat := by unfold Lib.itoa; rw [if_neg (by omega)]; try rfl
  rw [this]; rfl
theorem says_eq {w w' : World} {e : Ending} {a b : ByteArray} (h : Says w a e w') (hab : a = b) : Says w b e w' := hab ▸ h

set_option maxHeartbeats 2000000 in
theorem decl_calls (d : Dcl) (hd : d.ok) (w : World) (ht : TB w) : Calls Tryd.prog 21 #[d.val] w (Says w (declT d)) := by
  obtain ⟨h1, h2, h3⟩ := hd
  obtain ⟨lock, label, nm, sz, by', p⟩ := d
  dsimp only at h1 h2 h3
  have HX := Lib.hid (blk_new w (dbox ⟨lock, label, nm, sz, by', p⟩))
  have HB := Lib.hid ((Below.refl w.heap.size w).alloc (Nat.le_refl _) (dbox ⟨lock, label, nm, sz, by', p⟩))
  have HT := Lib.hid (ht.below HB.out)
  clear ht
  have HIT : Hid (0 < sz → Calls Tryd.prog 43 #[.int .i64 sz] (w.alloc (dbox ⟨lock, label, nm, sz, by', p⟩)) (Says (w.alloc (dbox ⟨lock, label, nm, sz, by', p⟩)) (numT sz))) := Lib.hid fun h => itoa_calls sz (by omega) h1 _ HT.out
  cases lock with
  | true =>
    go_enter Tryd.func21, Tryd.ntmps21
    go_wp2
    go_ret
    exact ⟨rfl, (Below.refl _ _).alloc (Nat.le_refl _) _⟩
  | false =>
    have hnum : Hid (0 < sz → (numT sz).size ≤ 20) := Lib.hid fun h => numT_size sz (by omega) h1
    obtain ⟨v0, e0⟩ : ∃ v0, v0 = numT sz := ⟨_, rfl⟩
    rw [← e0] at HIT hnum
    have HE0 := Lib.hid e0
    clear e0 h1
    obtain ⟨a0, ha0, hsa⟩ : ∃ a0 : ByteArray, a0 = (if label = 0 then (⟨#[112, 117, 98, 108, 105, 99, 32]⟩ : ByteArray) else ⟨#[115, 101, 99, 114, 101, 116, 32]⟩) ∧ a0.size = 7 := ⟨_, rfl, by split <;> rfl⟩
    have HA0 := Lib.hid ha0
    have hcut : declT ⟨false, label, nm, sz, by', p⟩ = (let a := a0 ++ nm; let b := if 0 < sz then a ++ (kOpen ++ v0 ++ ⟨#[93]⟩) else a; (if by'.size = 0 then b else b ++ (⟨#[32, 98, 121, 32]⟩ ++ by')) ++ kSemi) := by rw [ha0, HE0.out]; rfl
    have HC := Lib.hid hcut
    clear ha0 hcut
    have hlb : by'.size = 0 → by' = ⟨#[]⟩ := fun h => by
      obtain ⟨⟨l⟩⟩ := by'
      cases l with
      | nil => rfl
      | cons a t => simp [ByteArray.size] at h
    have hpb : ¬ by'.size = 0 → by'.toList.isEmpty = false := fun h => by
      rw [Lib.toList_data]
      obtain ⟨⟨l⟩⟩ := by'
      cases l with
      | nil => exact absurd rfl h
      | cons a t => rfl
    by_cases hl : label = 0
    · subst hl
      rw [if_pos rfl] at HA0
      obtain rfl := HA0.out
      by_cases hs : 0 < sz
      · by_cases hb : by'.size = 0
        · have hv := hnum.out hs
          obtain rfl := hlb hb
          clear hlb hpb h3
          go_enter Tryd.func21, Tryd.ntmps21
          go_wp2_with (go_at_call 43; refine (HIT.out hs).mono ?_; rintro e w1 ⟨rfl, hb1⟩; obtain ⟨⟨z0, z1, z2⟩, z3, z4, z5⟩ := dbox_cells HX.out hb1; dsimp only at z0 z1 z2 z3 z4 z5)
          go_ret
          refine ⟨?_, HB.out.trans (hb1.mono HB.out.size)⟩
          rw [HC.out]
          simp only [if_pos hs, show ((⟨#[]⟩ : ByteArray).size = 0) = True from eq_true rfl, if_true]
          rfl
        · have hv := hnum.out hs
          have hbe := hpb hb
          have hbl : ¬ by'.toList = [] := fun h => by rw [h] at hbe; cases hbe
          clear hlb hpb
          go_enter Tryd.func21, Tryd.ntmps21
          go_wp2_with (go_at_call 43; refine (HIT.out hs).mono ?_; rintro e w1 ⟨rfl, hb1⟩; obtain ⟨⟨z0, z1, z2⟩, z3, z4, z5⟩ := dbox_cells HX.out hb1; dsimp only at z0 z1 z2 z3 z4 z5)
          go_ret
          refine ⟨?_, HB.out.trans (hb1.mono HB.out.size)⟩
          rw [HC.out]
          simp only [if_pos hs, if_neg hb]
          rfl
      · by_cases hb : by'.size = 0
        · obtain rfl := hlb hb
          clear hlb hpb h3
          go_enter Tryd.func21, Tryd.ntmps21
          go_wp2
          go_ret
          refine ⟨?_, HB.out⟩
          rw [HC.out]
          simp only [if_neg (show ¬ 0 < sz by omega), show ((⟨#[]⟩ : ByteArray).size = 0) = True from eq_true rfl, if_true]
          rfl
        · have hbe := hpb hb
          have hbl : ¬ by'.toList = [] := fun h => by rw [h] at hbe; cases hbe
          clear hlb hpb
          go_enter Tryd.func21, Tryd.ntmps21
          go_wp2
          go_ret
          refine ⟨?_, HB.out⟩
          rw [HC.out]
          simp only [if_neg (show ¬ 0 < sz by omega), if_neg hb]
          rfl
    · rw [if_neg hl] at HA0
      obtain rfl := HA0.out
      have hlb2 : (label != 0) = true := by simp [hl]
      by_cases hs : 0 < sz
      · by_cases hb : by'.size = 0
        · have hv := hnum.out hs
          obtain rfl := hlb hb
          clear hlb hpb h3
          go_enter Tryd.func21, Tryd.ntmps21
          go_wp2_with (go_at_call 43; refine (HIT.out hs).mono ?_; rintro e w1 ⟨rfl, hb1⟩; obtain ⟨⟨z0, z1, z2⟩, z3, z4, z5⟩ := dbox_cells HX.out hb1; dsimp only at z0 z1 z2 z3 z4 z5)
          go_ret
          refine ⟨?_, HB.out.trans (hb1.mono HB.out.size)⟩
          rw [HC.out]
          simp only [if_pos hs, show ((⟨#[]⟩ : ByteArray).size = 0) = True from eq_true rfl, if_true]
          rfl
        · have hv := hnum.out hs
          have hbe := hpb hb
          have hbl : ¬ by'.toList = [] := fun h => by rw [h] at hbe; cases hbe
          clear hlb hpb
          go_enter Tryd.func21, Tryd.ntmps21
          go_wp2_with (go_at_call 43; refine (HIT.out hs).mono ?_; rintro e w1 ⟨rfl, hb1⟩; obtain ⟨⟨z0, z1, z2⟩, z3, z4, z5⟩ := dbox_cells HX.out hb1; dsimp only at z0 z1 z2 z3 z4 z5)
          go_ret
          refine ⟨?_, HB.out.trans (hb1.mono HB.out.size)⟩
          rw [HC.out]
          simp only [if_pos hs, if_neg hb]
          rfl
      · by_cases hb : by'.size = 0
        · obtain rfl := hlb hb
          clear hlb hpb h3
          go_enter Tryd.func21, Tryd.ntmps21
          go_wp2
          go_ret
          refine ⟨?_, HB.out⟩
          rw [HC.out]
          simp only [if_neg (show ¬ 0 < sz by omega), show ((⟨#[]⟩ : ByteArray).size = 0) = True from eq_true rfl, if_true]
          rfl
        · have hbe := hpb hb
          have hbl : ¬ by'.toList = [] := fun h => by rw [h] at hbe; cases hbe
          clear hlb hpb
          go_enter Tryd.func21, Tryd.ntmps21
          go_wp2
          go_ret
          refine ⟨?_, HB.out⟩
          rw [HC.out]
          simp only [if_neg (show ¬ 0 < sz by omega), if_neg hb]
          rfl
end Go.Proofs.YtnihgifpfdlnhaaDoor.PT
