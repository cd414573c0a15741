/- api.Number, api.Place; parse.Program where it is known what it gives. -/
import Derived.Test.YtcdgjgoplogiiaaDoorPro
import Derived.Test.YtcdgjgoplogiiaaDoorTok
import Derived.Test.YtcdgjgoplogiiaaDoorErr
namespace Go.Proofs.YtcdgjgoplogiiaaDoor.PT
open Go.RowKit Go.Lib
set_option linter.unusedVariables false
set_option linter.unusedSimpArgs false
/-- package errors' variable holds the type 'error'. -/
def GT (w : World) : Prop := w.cell? ⟨0, 0, none⟩ = some (.iface TRt (.agg #[.pointer (some ⟨HT, 33, none⟩)]))
theorem GT.below {w w' : World} (h : GT w) (hb : Below w.heap.size w w') : GT w' := (hb.cell (World.block_lt_of_cell? w _ h)).trans h
def IntB (w : World) (k : TypeId) (n : Int) (e : Ending) (w' : World) : Prop := e = .returned (.int .i64 n) ∧ Below w.heap.size w w'
theorem number_nil (w : World) : Calls Tryd.prog 25 #[.nilIface] w (IntB w 0 0) := by
  go_enter Tryd.func25, Tryd.ntmps25
  go_wp2_with (go_at_call 45; refine (as_nil _ _).mono ?_; rintro e w' ⟨rfl, rfl⟩)
  go_ret
  exact ⟨rfl, (Below.refl _ _).alloc (Nat.le_refl _) _⟩
theorem number_err (n p : Nat) (v : Value) (w : World) (hv : ErrV w 0 v n p) (hg : GT w) : Calls Tryd.prog 25 #[v] w (IntB w 0 n) := by
  obtain ⟨gF, _, rfl, hF⟩ := hv
  have hgl := World.block_lt_of_cell? w _ hg
  have hFl := lt_heap hF
  have hA := as_N gF n ⟨w.heap.size, 0, none⟩ 0 (w.alloc (.cells #[.int .i64 0] 51)) (GT.below hg ((Below.refl _ _).alloc (Nat.le_refl _) _)) ((blk_cell (blk_new _ _) 0).trans rfl) (blk_frozen (blk_new _ _) 0) ((blk_cell (blk_alloc hF _) 1).trans rfl)
  have HA := Lib.hid hA
  clear hA hF hg
  go_enter Tryd.func25, Tryd.ntmps25
  go_wp2_with (go_at_call 45; refine HA.out.mono ?_; rintro e w5 ⟨rfl, hw5⟩; have HB : Hid (Below w.heap.size w w5) := Lib.hid (by rw [hw5]; exact (((((((Below.refl w.heap.size w).alloc (Nat.le_refl _) _).alloc (by simp) _).alloc (by simp; omega) _).alloc (by simp; omega) _).alloc (by simp; omega) _)).setCell (p := ⟨w.heap.size, 0, none⟩) (Nat.le_refl _) _); have c5 : w5.cell? ⟨w.heap.size, 0, none⟩ = some (.int .i64 n) := (by rw [hw5]; exact (blk_cell (blk_put (blk_alloc (blk_alloc (blk_alloc (blk_alloc (blk_new w (.cells #[.int .i64 0] 51)) _) _) _) _) 0 _ rfl) 0).trans rfl); clear hw5)
  go_ret
  exact ⟨rfl, HB.out⟩
theorem place_nil (w : World) : Calls Tryd.prog 26 #[.nilIface] w (IntB w 0 (-1)) := by
  go_enter Tryd.func26, Tryd.ntmps26
  go_wp2_with (go_at_call 45; refine (as_nil _ _).mono ?_; rintro e w' ⟨rfl, rfl⟩)
  go_ret
  exact ⟨rfl, (Below.refl _ _).alloc (Nat.le_refl _) _⟩
theorem place_err (n p : Nat) (v : Value) (w : World) (hv : ErrV w 0 v n p) (hg : GT w) : Calls Tryd.prog 26 #[v] w (IntB w 0 p) := by
  obtain ⟨gF, _, rfl, hF⟩ := hv
  have hgl := World.block_lt_of_cell? w _ hg
  have hFl := lt_heap hF
  have hA := as_F ⟨gF, 0, none⟩ ⟨w.heap.size, 0, none⟩ none (w.alloc (.cells #[.pointer none] 106)) (GT.below hg ((Below.refl _ _).alloc (Nat.le_refl _) _)) ((blk_cell (blk_new _ _) 0).trans rfl) (blk_frozen (blk_new _ _) 0)
  have HA := Lib.hid hA
  have hp : w.cell? ⟨gF, 0, none⟩ = some (.int .i64 p) := (blk_cell hF 0).trans rfl
  have hne : w.heap.size ≠ gF := by omega
  clear hA hF hg
  go_enter Tryd.func26, Tryd.ntmps26
  go_wp2_with (go_at_call 45; refine HA.out.mono ?_; rintro e w5 ⟨rfl, hw5⟩; have HB : Hid (Below w.heap.size w w5) := Lib.hid (by rw [hw5]; exact (((((((Below.refl w.heap.size w).alloc (Nat.le_refl _) _).alloc (by simp) _).alloc (by simp; omega) _).alloc (by simp; omega) _).alloc (by simp; omega) _)).setCell (p := ⟨w.heap.size, 0, none⟩) (Nat.le_refl _) _); have c5 : w5.cell? ⟨w.heap.size, 0, none⟩ = some (.pointer (some ⟨gF, 0, none⟩)) := (by rw [hw5]; exact (blk_cell (blk_put (blk_alloc (blk_alloc (blk_alloc (blk_alloc (blk_new w (.cells #[.pointer none] 106)) _) _) _) _) 0 _ rfl) 0).trans rfl); have p5 : w5.cell? ⟨gF, 0, none⟩ = some (.int .i64 p) := (HB.out.cell (p := ⟨gF, 0, none⟩) hFl).trans hp; clear hw5)
  go_ret
  exact ⟨rfl, HB.out⟩
def ProgOk (p : Prg) (w : World) (e : Ending) (w' : World) : Prop := ∃ A n c A' n' c', e = .returned (.tuple #[.agg #[.slice A n c, .slice A' n' c'], .nilIface]) ∧ Below w.heap.size w w' ∧ DsA p.ds (fun i => w.heap.size ≤ i) w' A n c ∧ ThA p.ts (fun i => w.heap.size ≤ i) w' A' n' c'
theorem prog_ok {s : ByteArray} {p : Prg} (hp : parse s = .ok p) (w : World) : Calls Tryd.prog 12 #[.string s] w (ProgOk p w) := by
  refine (prog_calls s w (fun ts h => toks_of_cut s ts h)).mono ?_
  rintro e w' ⟨hb, h⟩
  rw [hp] at h
  obtain ⟨A, n, c, A', n', c', h1, h2, h3⟩ := h
  exact ⟨A, n, c, A', n', c', h1, hb, h2, h3⟩
def ProgErr (x : Nat × Nat) (w : World) (e : Ending) (w' : World) : Prop := ∃ u, e = .returned (.tuple #[.agg #[.slice none 0 0, .slice none 0 0], u]) ∧ Below w.heap.size w w' ∧ ErrV w' 0 u x.1 x.2
theorem prog_err {s : ByteArray} {x : Nat × Nat} (hp : parse s = .error x) (w : World) : Calls Tryd.prog 12 #[.string s] w (ProgErr x w) := by
  refine (prog_calls s w (fun ts h => toks_of_cut s ts h)).mono ?_
  rintro e w' ⟨hb, h⟩
  rw [hp] at h
  obtain ⟨u, h1, h2⟩ := h
  exact ⟨u, h1, hb, h2⟩
end Go.Proofs.YtcdgjgoplogiiaaDoor.PT
