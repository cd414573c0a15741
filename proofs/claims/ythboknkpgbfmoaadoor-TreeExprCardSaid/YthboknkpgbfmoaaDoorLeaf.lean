/- The contracts of what makes single expressions, and of the operators' tables. -/
import Derived.Test.YthboknkpgbfmoaaDoorTree
import Derived.IntWalk
import Derived.Lib.Hide
import Derived.Test.YthboknkpgbfmoaaDoorWWords
import Derived.Test.YthboknkpgbfmoaaDoorWMore
namespace Go.Proofs.YthboknkpgbfmoaaDoor.PQ
open Go.RowKit Go.Lib Go.Proofs.YthboknkpgbfmoaaDoorW.PrintWords
set_option linter.unusedVariables false
theorem cell_plain {w : World} {a : Addr} {v : Value} (h : w.cell? a = some v) : a.spot = none ∧ a.block < w.heap.size := by
  unfold World.cell? at h
  split at h
  · rename_i hb
    split at h
    · simp at h
    · rename_i hs
      refine ⟨by simpa using hs, ?_⟩
      rcases Nat.lt_or_ge a.block w.heap.size with g | g
      · exact g
      · rw [Array.getElem?_eq_none g] at hb
        simp at hb
  · simp at h
theorem ret_int {k : IntKind} {a b : Int} (h : a = b) : Ending.returned (.int k a) = .returned (.int k b) := by rw [h]

set_option maxRecDepth 100000 in
theorem digit0 (w : World) : Calls Tryd.prog 8 #[.int .i64 0] w fun e w' => e = .returned (.string ⟨#[48]⟩) ∧ w = w' := by
  have hc : ∀ w : World, (convert 21 9 (.int .i32 48)).run Tryd.prog w = .ok (.string ⟨#[48]⟩) w := fun w => by kernel_rfl
  go_enter Tryd.func8, Tryd.ntmps8
  go_wp2
  go_ret
  exact ⟨rfl, rfl⟩

theorem literal_calls (b : Option Addr) (n : Int) (h0 : 0 ≤ n) (h1 : n < 256) (w : World) :
    Calls Tryd.prog 17 #[.pointer b, .int .i64 n] w fun e w' => e = .returned (EV.val ⟨0, 0, ⟨#[]⟩, n, none, 0⟩) ∧ Below w.heap.size w w' := by
  go_enter Tryd.func17, Tryd.ntmps17
  go_wp2
  refine bodyPost_ret (v := EV.val ⟨0, 0, ⟨#[]⟩, n, none, 0⟩) (by simp [results, Tryd.results17, go_sem]) rfl ⟨rfl, ?_⟩
  exact (Below.refl _ _).alloc (Nat.le_refl _) _

theorem name_calls (s : ByteArray) (w : World) :
    Calls Tryd.prog 11 #[.string s] w fun e w' => e = .returned (EV.val ⟨1, 0, s, 0, none, 0⟩) ∧ Below w.heap.size w w' := by
  go_enter Tryd.func11, Tryd.ntmps11
  go_wp2
  refine bodyPost_ret (v := EV.val ⟨1, 0, s, 0, none, 0⟩) (by simp [results, Tryd.results11, go_sem]) rfl ⟨rfl, ?_⟩
  exact (Below.refl _ _).alloc (Nat.le_refl _) _

/-- A name is a tree wherever it lies. -/
def NamePost (w : World) (e : Ending) (w' : World) : Prop := ∃ x t, e = .returned (EV.val x) ∧ (∀ B W, At t B W x) ∧ ok t ∧ bd t ≤ 10 ∧ Below w.heap.size w w'
theorem name_any (s : ByteArray) (w : World) (hs : s.size ≤ 10) : Calls Tryd.prog 11 #[.string s] w (NamePost w) :=
  (name_calls s w).mono fun _ _ ⟨h1, h2⟩ => ⟨⟨1, 0, s, 0, none, 0⟩, .name s, h1, fun _ _ => rfl, trivial, hs, h2⟩

set_option maxHeartbeats 4000000 in
theorem tight_calls (o : Nat) (h : o < 10) (w : World) :
    Calls Tryd.prog 15 #[.int .i64 o] w fun e w' => e = .returned (.int .i64 (tightOf o)) ∧ Below w.heap.size w w' := by
  rcases (show o = 0 ∨ o = 1 ∨ o = 2 ∨ o = 3 ∨ o = 4 ∨ o = 5 ∨ o = 6 ∨ o = 7 ∨ o = 8 ∨ o = 9 by omega) with h | h | h | h | h | h | h | h | h | h <;> subst h
  all_goals
    go_enter Tryd.func15, Tryd.ntmps15
    go_wp2
    go_ret
    exact ⟨rfl, (Below.refl _ _).alloc (Nat.le_refl _) _⟩

theorem signs_calls (w : World) :
    Calls Tryd.prog 16 #[] w fun e w' => ∃ g, e = .returned (.slice (some ⟨g, 0, none⟩) 10 10) ∧ w.heap.size ≤ g ∧ w'.heap[g]? = some (.cells (signs.map Value.string).toArray 9 (0, 0)) ∧ Below w.heap.size w w' := by
  go_enter Tryd.func16, Tryd.ntmps16
  go_wp2
  go_ret
  exact ⟨w.heap.size, rfl, Nat.le_refl _, by rw [World.alloc]; simp [signs], (Below.refl _ _).alloc (Nat.le_refl _) _⟩

/-- What comes of the next number. -/
def NextPost (b : Nat) (n : Int) (w : World) (e : Ending) (w' : World) : Prop := ∃ k : Nat, e = .returned (.int .i64 k) ∧ (k : Int) < n ∧ MK w' b ∧ Kept b w w'
theorem NS.cut {w : World} {b : Nat} {A : Option Addr} {n : Nat} (h : NS w b A n) (h1 : 1 ≤ n) (ad : Addr) (hA : A = some ad) : NS w b (some (ad.add 1)) (n - 1) := fun hn => by
  obtain ⟨ad', e, hl, hc⟩ := h (by omega)
  obtain rfl : ad = ad' := Option.some.inj (hA.symm.trans e)
  refine ⟨_, rfl, by unfold Addr.add; split <;> exact hl, fun j hj => ?_⟩
  obtain ⟨x, hx, hcell⟩ := hc (1 + j) (by omega)
  refine ⟨x, hx, ?_⟩
  have : (ad.add 1).add j = ad.add (1 + j) := by
    unfold Addr.add
    by_cases hj : j = 0 <;> simp [hj, Nat.add_assoc]
  rw [this]
  exact hcell

set_option maxHeartbeats 1000000 in
theorem next_calls (b : Nat) (n : Int) (h0 : 1 ≤ n) (h1 : n ≤ 1000) (w : World) (hm : MK w b) :
    Calls Tryd.prog 9 #[.pointer (some ⟨b, 0, none⟩), .int .i64 n] w (NextPost b n w) := by
  obtain ⟨A, m, c, hmc, hc, hns, hb⟩ := hm
  have c0 : w.cell? ⟨b, 0, none⟩ = some (.slice A m c) := (blk_cell hb 0).trans rfl
  have f0 := blk_frozen hb 0
  have HB := Lib.hid hb
  have HN := Lib.hid hns
  have HC := Lib.hid hc
  clear hb hns hc
  by_cases hz : m = 0
  · subst hz
    go_enter Tryd.func9, Tryd.ntmps9
    go_wp2
    go_ret
    exact ⟨0, rfl, by omega, ⟨A, 0, c, hmc, HC.out, HN.out, HB.out⟩, Kept.refl _ _⟩
  · obtain ⟨ad, hA, hl, hcell⟩ := HN.out (by omega)
    obtain ⟨x, hx, hx0⟩ := hcell 0 (by omega)
    have e0 : ad.add 0 = ad := by simp [Addr.add]
    rw [e0] at hx0
    subst hA
    have HX := Lib.hid hcell
    clear hcell e0
    have hm1 : 1 ≤ m := by omega
    go_enter Tryd.func9, Tryd.ntmps9
    go_wp2
    all_goals
      go_ret
      have hlt : (x : Int) % n < n := Int.emod_lt_of_pos _ (by omega)
      have hge : 0 ≤ (x : Int) % n := Int.emod_nonneg _ (by omega)
      obtain ⟨k, hk⟩ := Int.eq_ofNat_of_zero_le hge
      refine ⟨k, by rw [hk]; rfl, by omega, ?_, (Kept.refl _ _).set _ _⟩
    · have hm0 : m - 1 = 0 := by omega
      exact ⟨some ad, m - 1, 0, by omega, trivial, fun h => absurd h (by omega), blk_put HB.out 0 _ rfl⟩
    · have e1 : ad.add 1 = ⟨ad.block, ad.off + 1, none⟩ := by simp [Addr.add]
      rw [← e1]
      refine ⟨some (ad.add 1), m - 1, c - 1, by omega, trivial, ?_, blk_put HB.out 0 _ rfl⟩
      exact (HN.out.cut hm1 ad rfl).below ((Below.refl b w).setCell (p := ⟨b, 0, none⟩) (Nat.le_refl b) _)
end Go.Proofs.YthboknkpgbfmoaaDoor.PQ
