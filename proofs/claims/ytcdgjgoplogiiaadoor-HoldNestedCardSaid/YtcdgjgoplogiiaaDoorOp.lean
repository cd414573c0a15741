/- (*parser).op -/
import Derived.Test.YtcdgjgoplogiiaaDoorPar
import Derived.Test.YtcdgjgoplogiiaaDoorExpr
namespace Go.Proofs.YtcdgjgoplogiiaaDoor.PT
open Go.RowKit Go.Lib
set_option linter.unusedVariables false
set_option linter.unusedSimpArgs false
def idxv : Option Nat → Int
  | some o => o
  | none => -1
theorem idxFrom_eq (x : ByteArray) (zs : List ByteArray) (i : Nat) : Lib.idxFromS zs x i = match zs.findIdx? (beq x) with | some k => ((i + k : Nat) : Int) | none => -1 := by
  induction zs generalizing i with
  | nil => rfl
  | cons z r ih =>
    rw [List.findIdx?_cons]
    by_cases h : z = x
    · have h' : beq x z = true := (beq_iff x z).2 h.symm
      rw [h']
      simp [Lib.idxFromS, h]
    · have h' : beq x z = false := by
        cases hb : beq x z
        · rfl
        · exact absurd ((beq_iff x z).1 hb).symm h
      rw [h']
      simp only [Lib.idxFromS, if_neg h, ih, Bool.false_eq_true, if_false]
      cases r.findIdx? (beq x) with
      | none => rfl
      | some k =>
        show ((i + 1 + k : Nat) : Int) = ((i + (k + 1) : Nat) : Int)
        omega
theorem idxOf_eq (x : ByteArray) : Lib.idxOfS signs x = idxv (opOf x) := by
  unfold Lib.idxOfS
  rw [idxFrom_eq]
  unfold opOf idxv
  cases signs.findIdx? (beq x) <;> simp
theorem opOf_lt {s : ByteArray} {o : Nat} (h : opOf s = some o) : o < 10 := (List.findIdx?_eq_some_iff_findIdx_eq.1 h).1
theorem idxv_some {o : Option Nat} (h : 0 ≤ idxv o) : ∃ k : Nat, o = some k := by
  cases o with
  | none => exact absurd h (by decide)
  | some k => exact ⟨k, rfl⟩
theorem idxv_none {o : Option Nat} (h : ¬ 0 ≤ idxv o) : o = none := by
  cases o with
  | none => rfl
  | some k => exact absurd (Int.natCast_nonneg k) h
set_option maxRecDepth 100000 in
set_option maxHeartbeats 2000000 in
theorem op_calls (b g c : Nat) (ts : List Tok) (q : PS) (dp : Nat) (hts : Toks ts) (w : World) (h : PM w b g c ts q dp) :
    Calls Tryd.prog 106 #[.pointer (some ⟨b, 0, none⟩)] w fun e w' => (∃ k : Int, e = .returned (.tuple #[.int .i64 k, .bool (opp ts q).isSome]) ∧ ∀ o, opp ts q = some o → k = o ∧ o < 10) ∧ Below w.heap.size w w' := by
  have hn := next_calls b g c ts q dp hts w h
  unfold opp
  generalize nxt ts q = t at hn ⊢
  have HN := Lib.hid hn
  obtain ⟨ix, hix⟩ : ∃ ix, ix = idxv (opOf t.s) := ⟨_, rfl⟩
  have HI : Hid (Lib.idxOfS (signs.take 10) t.s = ix) := Lib.hid (by rw [hix]; exact idxOf_eq t.s)
  obtain ⟨oo, hoo⟩ : ∃ oo, oo = if t.k == 4 then opOf t.s else none := ⟨_, rfl⟩
  rw [← hoo]
  have HO : Hid ((∀ o, oo = some o → ix = o ∧ o < 10) ∧ ((t.k : Int) = 4 → 0 ≤ ix → oo.isSome = true) ∧ ((t.k : Int) = 4 → ¬ 0 ≤ ix → oo.isSome = false) ∧ (¬ (t.k : Int) = 4 → oo.isSome = false)) := Lib.hid (by
    refine ⟨fun o h => ?_, fun h4 h0 => ?_, fun h4 h0 => ?_, fun h4 => ?_⟩
    · rw [hoo] at h
      split at h
      · rw [hix, h]; exact ⟨rfl, opOf_lt h⟩
      · cases h
    · rw [hix] at h0
      obtain ⟨k, hk⟩ := idxv_some h0
      rw [hoo, if_pos (by simp; omega), hk]; rfl
    · rw [hix] at h0
      rw [hoo, if_pos (by simp; omega), idxv_none h0]; rfl
    · rw [hoo, if_neg (by simp; omega)]; rfl)
  clear hix hoo
  clear hn h hts
  go_enter Tryd.func106, Tryd.ntmps106
  go_wp2_with (go_at_call 31; refine HN.out.mono ?_; rintro e w1 ⟨rfl, hb1⟩; have HB1 := Lib.hid hb1; clear hb1)
  go_region_with (first
    | (go_at_call 38; refine (signs_calls _).mono ?_; rintro e w2 ⟨gs, rfl, hgs, hrow, hb2⟩; have c1 : w2.cell? ⟨w1.heap.size, 1, none⟩ = some (.string t.s) := (hb2.cell (p := ⟨w1.heap.size, 1, none⟩) (by simp)).trans (by go_simp); have HB2 : Hid (Below w.heap.size w w2) := Lib.hid (HB1.out.trans ((((Below.refl _ _).alloc (Nat.le_refl _) _).drew.trans (hb2.mono (by simp))).mono HB1.out.size)); have c0 : w2.cell? ⟨w1.heap.size, 0, none⟩ = some (.int .i64 t.k) := (hb2.cell (p := ⟨w1.heap.size, 0, none⟩) (by simp)).trans (by go_simp); clear hb2)
    | (go_at_call 118; refine (Tryd.slices_Index_string gs 0 10 10 signs t.s _ (by decide) (by decide) (fun j hj => by rw [Nat.zero_add]; exact sign_cell hrow j hj)).mono ?_; rintro e w3 ⟨he, rfl⟩; rw [HI.out] at he; subst he))
  all_goals (by_cases h4 : (t.k : Int) = 4 <;> by_cases h0 : 0 ≤ ix)
  all_goals go_wp2
  all_goals go_ret2
  all_goals refine ⟨⟨ix, ?_, HO.out.1⟩, by first | exact HB2.out | exact HB2.out.drew⟩
  all_goals first
    | (rw [HO.out.2.1 h4 h0]; rfl)
    | (rw [HO.out.2.2.1 h4 (by omega)]; rfl)
    | (rw [HO.out.2.2.2 h4]; rfl)
end Go.Proofs.YtcdgjgoplogiiaaDoor.PT
