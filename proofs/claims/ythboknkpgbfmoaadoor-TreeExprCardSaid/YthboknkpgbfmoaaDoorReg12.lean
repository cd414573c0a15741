/- TreeExpr's region 12: three rows and three variables are made, in whatever order: what stands behind it. Written by mkr12.py. -/
import Derived.Test.YthboknkpgbfmoaaDoorMake
import Derived.Orders
namespace Go.Proofs.YthboknkpgbfmoaaDoor.PQ
open Go.RowKit Go.Lib Go.Proofs.YthboknkpgbfmoaaDoorW.PrintWords
set_option linter.unusedVariables false
set_option linter.unusedSimpArgs false
def OPS12 : Array Oper := #[{ dst := some 67, op := Op.load 35 (Operand.tmp 8), type := 35, pos := "law.go:223", after := #[], guard := none }, { dst := some 68, op := Op.buildSlice 33 1 #[(0, Operand.tmp 67)], type := 33, pos := "law.go:223", after := #[{ on := 0, ground := Ground.data }], guard := none }, { dst := some 69, op := Op.build 35 #[(0, Operand.const (Value.int IntKind.i64 4)), (4, Operand.tmp 68)], type := 35, pos := "law.go:223", after := #[{ on := 1, ground := Ground.data }], guard := none }, { dst := some 70, op := Op.load 35 (Operand.tmp 8), type := 35, pos := "law.go:223", after := #[{ on := 14, ground := Ground.gcOnly Departure.lateStores }], guard := none }, { dst := some 71, op := Op.buildSlice 33 1 #[(0, Operand.tmp 70)], type := 33, pos := "law.go:223", after := #[{ on := 3, ground := Ground.data }, { on := 14, ground := Ground.gcOnly Departure.lateStores }], guard := none }, { dst := some 72, op := Op.build 35 #[(0, Operand.const (Value.int IntKind.i64 2)), (2, Operand.const (Value.string { data := #[110] })), (4, Operand.tmp 71)], type := 35, pos := "law.go:223", after := #[{ on := 4, ground := Ground.data }, { on := 14, ground := Ground.gcOnly Departure.lateStores }], guard := none }, { dst := some 73, op := Op.load 35 (Operand.tmp 8), type := 35, pos := "law.go:223", after := #[{ on := 15, ground := Ground.gcOnly Departure.lateStores }], guard := none }, { dst := some 74, op := Op.load 35 (Operand.tmp 9), type := 35, pos := "law.go:223", after := #[{ on := 15, ground := Ground.gcOnly Departure.lateStores }], guard := none }, { dst := some 75, op := Op.load 35 (Operand.tmp 8), type := 35, pos := "law.go:223", after := #[{ on := 15, ground := Ground.gcOnly Departure.lateStores }], guard := none }, { dst := some 76, op := Op.buildSlice 33 3 #[(0, Operand.tmp 73), (1, Operand.tmp 74), (2, Operand.tmp 75)], type := 33, pos := "law.go:223", after := #[{ on := 6, ground := Ground.data }, { on := 7, ground := Ground.data }, { on := 8, ground := Ground.data }, { on := 15, ground := Ground.gcOnly Departure.lateStores }], guard := none }, { dst := some 77, op := Op.build 35 #[(0, Operand.const (Value.int IntKind.i64 5)), (4, Operand.tmp 76)], type := 35, pos := "law.go:223", after := #[{ on := 9, ground := Ground.data }, { on := 15, ground := Ground.gcOnly Departure.lateStores }], guard := none }, { dst := some 15, op := Op.alloc 35, type := 0, pos := "law.go:223", after := #[], guard := none }, { dst := some 16, op := Op.alloc 35, type := 0, pos := "law.go:223", after := #[], guard := none }, { dst := some 17, op := Op.alloc 35, type := 0, pos := "law.go:223", after := #[], guard := none }, { dst := none, op := Op.store 35 (Operand.tmp 15) (Operand.tmp 69), type := 0, pos := "law.go:223", after := #[{ on := 11, ground := Ground.data }, { on := 2, ground := Ground.data }, { on := 0, ground := Ground.phase }, { on := 1, ground := Ground.phase }, { on := 2, ground := Ground.phase }, { on := 3, ground := Ground.textOnly Departure.lateStores }, { on := 4, ground := Ground.textOnly Departure.lateStores }, { on := 5, ground := Ground.textOnly Departure.lateStores }, { on := 6, ground := Ground.textOnly Departure.lateStores }, { on := 7, ground := Ground.textOnly Departure.lateStores }, { on := 8, ground := Ground.textOnly Departure.lateStores }, { on := 9, ground := Ground.textOnly Departure.lateStores }, { on := 10, ground := Ground.textOnly Departure.lateStores }, { on := 11, ground := Ground.phase }, { on := 12, ground := Ground.phase }, { on := 13, ground := Ground.phase }], guard := none }, { dst := none, op := Op.store 35 (Operand.tmp 16) (Operand.tmp 72), type := 0, pos := "law.go:223", after := #[{ on := 12, ground := Ground.data }, { on := 5, ground := Ground.data }, { on := 14, ground := Ground.chain }, { on := 0, ground := Ground.phase }, { on := 1, ground := Ground.phase }, { on := 2, ground := Ground.phase }, { on := 3, ground := Ground.phase }, { on := 4, ground := Ground.phase }, { on := 5, ground := Ground.phase }, { on := 6, ground := Ground.textOnly Departure.lateStores }, { on := 7, ground := Ground.textOnly Departure.lateStores }, { on := 8, ground := Ground.textOnly Departure.lateStores }, { on := 9, ground := Ground.textOnly Departure.lateStores }, { on := 10, ground := Ground.textOnly Departure.lateStores }, { on := 11, ground := Ground.phase }, { on := 12, ground := Ground.phase }, { on := 13, ground := Ground.phase }, { on := 14, ground := Ground.phase }], guard := none }, { dst := none, op := Op.store 35 (Operand.tmp 17) (Operand.tmp 77), type := 0, pos := "law.go:223", after := #[{ on := 13, ground := Ground.data }, { on := 10, ground := Ground.data }, { on := 15, ground := Ground.chain }, { on := 0, ground := Ground.phase }, { on := 1, ground := Ground.phase }, { on := 2, ground := Ground.phase }, { on := 3, ground := Ground.phase }, { on := 4, ground := Ground.phase }, { on := 5, ground := Ground.phase }, { on := 6, ground := Ground.phase }, { on := 7, ground := Ground.phase }, { on := 8, ground := Ground.phase }, { on := 9, ground := Ground.phase }, { on := 10, ground := Ground.phase }, { on := 11, ground := Ground.phase }, { on := 12, ground := Ground.phase }, { on := 13, ground := Ground.phase }, { on := 14, ground := Ground.phase }, { on := 15, ground := Ground.phase }], guard := none }]
abbrev zb : Obj := .cells #[.int .i64 0, .int .i64 0, .string ⟨#[]⟩, .int .u64 0, .slice none 0 0, .int .i64 0] 35
/-- The frame, what the region writes by name. -/
abbrev fr (t : Nat → Value) (s15 s16 s17 s67 s68 s69 s70 s71 s72 s73 s74 s75 s76 s77 : Value) : Act := ⟨#[t 0, t 1, t 2, t 3, t 4, t 5, t 6, t 7, t 8, t 9, t 10, t 11, t 12, t 13, t 14, s15, s16, s17, t 18, t 19, t 20, t 21, t 22, t 23, t 24, t 25, t 26, t 27, t 28, t 29, t 30, t 31, t 32, t 33, t 34, t 35, t 36, t 37, t 38, t 39, t 40, t 41, t 42, t 43, t 44, t 45, t 46, t 47, t 48, t 49, t 50, t 51, t 52, t 53, t 54, t 55, t 56, t 57, t 58, t 59, t 60, t 61, t 62, t 63, t 64, t 65, t 66, s67, s68, s69, s70, s71, s72, s73, s74, s75, s76, s77, t 78, t 79, t 80, t 81, t 82, t 83, t 84, t 85, t 86, t 87, t 88, t 89, t 90, t 91, t 92, t 93, t 94, t 95, t 96, t 97, t 98, t 99, t 100, t 101, t 102, t 103, t 104, t 105, t 106, t 107, t 108, t 109, t 110, t 111, t 112, t 113, t 114, t 115, t 116, t 117, t 118], []⟩

theorem op_val {P : Program} {ops : Array Oper} {Q : Exit → Act → World → Prop} {i : Nat} {o : Oper} {v : Value} {w w1 : World} {K : Act → World → Prop} {a : Act} (ho : ops[i]? = some o) (hw : Region.wanted o (yielded ops a.tmps) = true) (hrun : (execOp a.eval o).run P w = .ok (.value v) w1) (h : K (a.put o.dst v) w1) : wpOp P ops Q i K a w := by
  unfold wpOp
  rw [ho]
  simp only [hw, if_true]
  left
  unfold Oper.wp
  rw [hrun]
  exact h
theorem op_skip {P : Program} {ops : Array Oper} {Q : Exit → Act → World → Prop} {i : Nat} {o : Oper} {w w1 : World} {K : Act → World → Prop} {a : Act} (ho : ops[i]? = some o) (hw : Region.wanted o (yielded ops a.tmps) = true) (hrun : (execOp a.eval o).run P w = .ok .skip w1) (h : K (a.put o.dst undef) w1) : wpOp P ops Q i K a w := by
  unfold wpOp
  rw [ho]
  simp only [hw, if_true]
  left
  unfold Oper.wp
  rw [hrun]
  exact h
theorem getD_set (l : Array Bool) (i j : Nat) (hi : i < l.size) (b : Bool) : (l.setIfInBounds i true).getD j b = if i = j then true else l.getD j b := by
  by_cases h : i = j
  · subst h; simp [hi]
  · simp [h, Array.getD_eq_getD_getElem?, Array.getElem?_setIfInBounds]
/-- What holds when some of the operations have been done. -/
def J12 (w0 : World) (t : Nat → Value) (x y : EV) (l : Array Bool) (a : Act) (w : World) : Prop :=
  l.size = 17 ∧ Below w0.heap.size w0 w ∧
  ∃ (s15 s16 s17 s67 s68 s69 s70 s71 s72 s73 s74 s75 s76 s77 : Value) (b1 b4 b9 b11 b12 b13 : Nat), a = fr t s15 s16 s17 s67 s68 s69 s70 s71 s72 s73 s74 s75 s76 s77 ∧ (l.getD 0 false = true → s67 = EV.val x) ∧
    (l.getD 1 false = true → s68 = .slice (some ⟨b1, 0, none⟩) 1 1 ∧ Row1 w b1 x ∧ w0.heap.size ≤ b1) ∧
    (l.getD 2 false = true → l.getD 1 false = true ∧ s69 = EV.val ⟨4, 0, ⟨#[]⟩, 0, some ⟨b1, 0, none⟩, 1⟩) ∧
    (l.getD 3 false = true → s70 = EV.val x) ∧
    (l.getD 4 false = true → s71 = .slice (some ⟨b4, 0, none⟩) 1 1 ∧ Row1 w b4 x ∧ w0.heap.size ≤ b4) ∧
    (l.getD 5 false = true → l.getD 4 false = true ∧ s72 = EV.val ⟨2, 0, ⟨#[110]⟩, 0, some ⟨b4, 0, none⟩, 1⟩) ∧
    (l.getD 6 false = true → s73 = EV.val x) ∧
    (l.getD 7 false = true → s74 = EV.val y) ∧
    (l.getD 8 false = true → s75 = EV.val x) ∧
    (l.getD 9 false = true → s76 = .slice (some ⟨b9, 0, none⟩) 3 3 ∧ Row3 w b9 x y x ∧ w0.heap.size ≤ b9) ∧
    (l.getD 10 false = true → l.getD 9 false = true ∧ s77 = EV.val ⟨5, 0, ⟨#[]⟩, 0, some ⟨b9, 0, none⟩, 3⟩) ∧
    (l.getD 11 false = true → s15 = .pointer (some ⟨b11, 0, none⟩) ∧ b11 < w.heap.size ∧ w0.heap.size ≤ b11) ∧
    (l.getD 12 false = true → s16 = .pointer (some ⟨b12, 0, none⟩) ∧ b12 < w.heap.size ∧ w0.heap.size ≤ b12) ∧
    (l.getD 13 false = true → s17 = .pointer (some ⟨b13, 0, none⟩) ∧ b13 < w.heap.size ∧ w0.heap.size ≤ b13) ∧
    (l.getD 11 false = true → l.getD 14 false = false → ZB w b11) ∧
    (l.getD 12 false = true → l.getD 15 false = false → ZB w b12) ∧
    (l.getD 13 false = true → l.getD 16 false = false → ZB w b13) ∧
    (l.getD 14 false = true → l.getD 11 false = true ∧ l.getD 2 false = true ∧ Row1 w b11 ⟨4, 0, ⟨#[]⟩, 0, some ⟨b1, 0, none⟩, 1⟩) ∧
    (l.getD 15 false = true → l.getD 12 false = true ∧ l.getD 5 false = true ∧ Row1 w b12 ⟨2, 0, ⟨#[110]⟩, 0, some ⟨b4, 0, none⟩, 1⟩) ∧
    (l.getD 16 false = true → l.getD 13 false = true ∧ l.getD 10 false = true ∧ Row1 w b13 ⟨5, 0, ⟨#[]⟩, 0, some ⟨b9, 0, none⟩, 3⟩) ∧
    (l.getD 11 false = true → l.getD 1 false = true → b11 ≠ b1) ∧
    (l.getD 11 false = true → l.getD 4 false = true → b11 ≠ b4) ∧
    (l.getD 11 false = true → l.getD 9 false = true → b11 ≠ b9) ∧
    (l.getD 11 false = true → l.getD 12 false = true → b11 ≠ b12) ∧
    (l.getD 11 false = true → l.getD 13 false = true → b11 ≠ b13) ∧
    (l.getD 12 false = true → l.getD 1 false = true → b12 ≠ b1) ∧
    (l.getD 12 false = true → l.getD 4 false = true → b12 ≠ b4) ∧
    (l.getD 12 false = true → l.getD 9 false = true → b12 ≠ b9) ∧
    (l.getD 12 false = true → l.getD 13 false = true → b12 ≠ b13) ∧
    (l.getD 13 false = true → l.getD 1 false = true → b13 ≠ b1) ∧
    (l.getD 13 false = true → l.getD 4 false = true → b13 ≠ b4) ∧
    (l.getD 13 false = true → l.getD 9 false = true → b13 ≠ b9)

theorem ready12 {l : Array Bool} {i : Nat} (h : i ∈ Region.ready .any OPS12 l) : (i = 0 ∧ l.getD 0 true = false) ∨ (i = 1 ∧ l.getD 1 true = false ∧ l.getD 0 false = true) ∨ (i = 2 ∧ l.getD 2 true = false ∧ l.getD 1 false = true) ∨ (i = 3 ∧ l.getD 3 true = false) ∨ (i = 4 ∧ l.getD 4 true = false ∧ l.getD 3 false = true) ∨ (i = 5 ∧ l.getD 5 true = false ∧ l.getD 4 false = true) ∨ (i = 6 ∧ l.getD 6 true = false) ∨ (i = 7 ∧ l.getD 7 true = false) ∨ (i = 8 ∧ l.getD 8 true = false) ∨ (i = 9 ∧ l.getD 9 true = false ∧ l.getD 6 false = true ∧ l.getD 7 false = true ∧ l.getD 8 false = true) ∨ (i = 10 ∧ l.getD 10 true = false ∧ l.getD 9 false = true) ∨ (i = 11 ∧ l.getD 11 true = false) ∨ (i = 12 ∧ l.getD 12 true = false) ∨ (i = 13 ∧ l.getD 13 true = false) ∨ (i = 14 ∧ l.getD 14 true = false ∧ l.getD 0 false = true ∧ l.getD 1 false = true ∧ l.getD 2 false = true ∧ l.getD 11 false = true ∧ l.getD 12 false = true ∧ l.getD 13 false = true) ∨ (i = 15 ∧ l.getD 15 true = false ∧ l.getD 0 false = true ∧ l.getD 1 false = true ∧ l.getD 2 false = true ∧ l.getD 3 false = true ∧ l.getD 4 false = true ∧ l.getD 5 false = true ∧ l.getD 11 false = true ∧ l.getD 12 false = true ∧ l.getD 13 false = true ∧ l.getD 14 false = true) ∨ (i = 16 ∧ l.getD 16 true = false ∧ l.getD 0 false = true ∧ l.getD 1 false = true ∧ l.getD 2 false = true ∧ l.getD 3 false = true ∧ l.getD 4 false = true ∧ l.getD 5 false = true ∧ l.getD 6 false = true ∧ l.getD 7 false = true ∧ l.getD 8 false = true ∧ l.getD 9 false = true ∧ l.getD 10 false = true ∧ l.getD 11 false = true ∧ l.getD 12 false = true ∧ l.getD 13 false = true ∧ l.getD 14 false = true ∧ l.getD 15 false = true) := by
  unfold Region.ready at h
  rw [List.mem_filter] at h
  obtain ⟨h1, h2⟩ := h
  have h3 : i < 17 := List.mem_range.1 h1
  rcases (show i = 0 ∨ i = 1 ∨ i = 2 ∨ i = 3 ∨ i = 4 ∨ i = 5 ∨ i = 6 ∨ i = 7 ∨ i = 8 ∨ i = 9 ∨ i = 10 ∨ i = 11 ∨ i = 12 ∨ i = 13 ∨ i = 14 ∨ i = 15 ∨ i = 16 by omega) with rfl | rfl | rfl | rfl | rfl | rfl | rfl | rfl | rfl | rfl | rfl | rfl | rfl | rfl | rfl | rfl | rfl
  all_goals
    simp [OPS12, Region.binds, -Array.getD_eq_getD_getElem?] at h2
    simp [h2, -Array.getD_eq_getD_getElem?]

theorem getD_tf {l : Array Bool} {i : Nat} (h : l.getD i true = false) : i < l.size ∧ l.getD i false = false := by
  by_cases hi : i < l.size
  · refine ⟨hi, ?_⟩
    simp [hi] at h ⊢
    exact h
  · simp [hi] at h
theorem put6_other (w : World) (g G : Nat) (x : EV) (h : g ≠ G) : (put6 w G x).heap[g]? = w.heap[g]? :=
  (Below.heap_setCell _ ⟨G, 5, none⟩ _ g h).trans ((Below.heap_setCell _ ⟨G, 4, none⟩ _ g h).trans ((Below.heap_setCell _ ⟨G, 3, none⟩ _ g h).trans ((Below.heap_setCell _ ⟨G, 2, none⟩ _ g h).trans ((Below.heap_setCell _ ⟨G, 1, none⟩ _ g h).trans (Below.heap_setCell _ ⟨G, 0, none⟩ _ g h)))))
theorem put6_below {w0 w : World} {G : Nat} (h : Below w0.heap.size w0 w) (hG : w0.heap.size ≤ G) (x : EV) : Below w0.heap.size w0 (put6 w G x) :=
  (((((h.setCell (p := ⟨G, 0, none⟩) hG _).setCell (p := ⟨G, 1, none⟩) hG _).setCell (p := ⟨G, 2, none⟩) hG _).setCell (p := ⟨G, 3, none⟩) hG _).setCell (p := ⟨G, 4, none⟩) hG _).setCell (p := ⟨G, 5, none⟩) hG _
theorem alloc_size (w : World) (o : Obj) : (w.alloc o).heap.size = w.heap.size + 1 := by simp

set_option maxHeartbeats 1000000 in
set_option maxRecDepth 100000 in
theorem step12_0 {w0 : World} {t : Nat → Value} {x y : EV} {G : Nat} {l : Array Bool} {a : Act} {w : World} (rA : Row1 w0 G x) (rB : Row1 w0 (G + 1) y) (h8 : t 8 = .pointer (some ⟨G, 0, none⟩)) (h9 : t 9 = .pointer (some ⟨G + 1, 0, none⟩)) (hJ : J12 w0 t x y l a w) (hn : l.getD 0 true = false) (Q : Exit → Act → World → Prop) :
    wpOp Tryd.prog OPS12 Q 0 (J12 w0 t x y (l.setIfInBounds 0 true)) a w := by
  obtain ⟨hsz, hB, s15, s16, s17, s67, s68, s69, s70, s71, s72, s73, s74, s75, s76, s77, b1, b4, b9, b11, b12, b13, rfl, c0, c1, c2, c3, c4, c5, c6, c7, c8, c9, c10, c11, c12, c13, z11, z12, z13, e11, e12, e13, d11_1, d11_4, d11_9, d11_12, d11_13, d12_1, d12_4, d12_9, d12_13, d13_1, d13_4, d13_9⟩ := hJ
  obtain ⟨hlt, hf⟩ := getD_tf hn
  have hO : ∀ j b, 0 ≠ j → (l.setIfInBounds 0 true).getD j b = l.getD j b := fun j b h => (getD_set l 0 j hlt b).trans (if_neg h)
  obtain ⟨f0, f1, f2, f3, f4, f5⟩ := Row1.facts ((hB.block _ (lt_heap rA)).trans rA)
  refine op_val (o := { dst := some 67, op := Op.load 35 (Operand.tmp 8), type := 35, pos := "law.go:223", after := #[], guard := none }) (v := x.val) (w1 := w) rfl rfl ?_ ?_
  · go_simp
  · refine ⟨by simp [hsz], hB, s15, s16, s17, x.val, s68, s69, s70, s71, s72, s73, s74, s75, s76, s77, b1, b4, b9, b11, b12, b13, rfl, ?_⟩
    exact ⟨fun _ => rfl,
      fun h => ⟨(c1 ((hO 1 false (by decide)).symm.trans h)).1, (c1 ((hO 1 false (by decide)).symm.trans h)).2.1, (c1 ((hO 1 false (by decide)).symm.trans h)).2.2⟩,
      fun h => ⟨(hO 1 false (by decide)).trans (c2 ((hO 2 false (by decide)).symm.trans h)).1, (c2 ((hO 2 false (by decide)).symm.trans h)).2⟩,
      fun h => c3 ((hO 3 false (by decide)).symm.trans h),
      fun h => ⟨(c4 ((hO 4 false (by decide)).symm.trans h)).1, (c4 ((hO 4 false (by decide)).symm.trans h)).2.1, (c4 ((hO 4 false (by decide)).symm.trans h)).2.2⟩,
      fun h => ⟨(hO 4 false (by decide)).trans (c5 ((hO 5 false (by decide)).symm.trans h)).1, (c5 ((hO 5 false (by decide)).symm.trans h)).2⟩,
      fun h => c6 ((hO 6 false (by decide)).symm.trans h),
      fun h => c7 ((hO 7 false (by decide)).symm.trans h),
      fun h => c8 ((hO 8 false (by decide)).symm.trans h),
      fun h => ⟨(c9 ((hO 9 false (by decide)).symm.trans h)).1, (c9 ((hO 9 false (by decide)).symm.trans h)).2.1, (c9 ((hO 9 false (by decide)).symm.trans h)).2.2⟩,
      fun h => ⟨(hO 9 false (by decide)).trans (c10 ((hO 10 false (by decide)).symm.trans h)).1, (c10 ((hO 10 false (by decide)).symm.trans h)).2⟩,
      fun h => ⟨(c11 ((hO 11 false (by decide)).symm.trans h)).1, (c11 ((hO 11 false (by decide)).symm.trans h)).2.1, (c11 ((hO 11 false (by decide)).symm.trans h)).2.2⟩,
      fun h => ⟨(c12 ((hO 12 false (by decide)).symm.trans h)).1, (c12 ((hO 12 false (by decide)).symm.trans h)).2.1, (c12 ((hO 12 false (by decide)).symm.trans h)).2.2⟩,
      fun h => ⟨(c13 ((hO 13 false (by decide)).symm.trans h)).1, (c13 ((hO 13 false (by decide)).symm.trans h)).2.1, (c13 ((hO 13 false (by decide)).symm.trans h)).2.2⟩,
      fun h h2 => z11 ((hO 11 false (by decide)).symm.trans h) ((hO 14 false (by decide)).symm.trans h2),
      fun h h2 => z12 ((hO 12 false (by decide)).symm.trans h) ((hO 15 false (by decide)).symm.trans h2),
      fun h h2 => z13 ((hO 13 false (by decide)).symm.trans h) ((hO 16 false (by decide)).symm.trans h2),
      fun h => ⟨(hO 11 false (by decide)).trans (e11 ((hO 14 false (by decide)).symm.trans h)).1, (hO 2 false (by decide)).trans (e11 ((hO 14 false (by decide)).symm.trans h)).2.1, (e11 ((hO 14 false (by decide)).symm.trans h)).2.2⟩,
      fun h => ⟨(hO 12 false (by decide)).trans (e12 ((hO 15 false (by decide)).symm.trans h)).1, (hO 5 false (by decide)).trans (e12 ((hO 15 false (by decide)).symm.trans h)).2.1, (e12 ((hO 15 false (by decide)).symm.trans h)).2.2⟩,
      fun h => ⟨(hO 13 false (by decide)).trans (e13 ((hO 16 false (by decide)).symm.trans h)).1, (hO 10 false (by decide)).trans (e13 ((hO 16 false (by decide)).symm.trans h)).2.1, (e13 ((hO 16 false (by decide)).symm.trans h)).2.2⟩,
      fun h1 h2 => d11_1 ((hO 11 false (by decide)).symm.trans h1) ((hO 1 false (by decide)).symm.trans h2),
      fun h1 h2 => d11_4 ((hO 11 false (by decide)).symm.trans h1) ((hO 4 false (by decide)).symm.trans h2),
      fun h1 h2 => d11_9 ((hO 11 false (by decide)).symm.trans h1) ((hO 9 false (by decide)).symm.trans h2),
      fun h1 h2 => d11_12 ((hO 11 false (by decide)).symm.trans h1) ((hO 12 false (by decide)).symm.trans h2),
      fun h1 h2 => d11_13 ((hO 11 false (by decide)).symm.trans h1) ((hO 13 false (by decide)).symm.trans h2),
      fun h1 h2 => d12_1 ((hO 12 false (by decide)).symm.trans h1) ((hO 1 false (by decide)).symm.trans h2),
      fun h1 h2 => d12_4 ((hO 12 false (by decide)).symm.trans h1) ((hO 4 false (by decide)).symm.trans h2),
      fun h1 h2 => d12_9 ((hO 12 false (by decide)).symm.trans h1) ((hO 9 false (by decide)).symm.trans h2),
      fun h1 h2 => d12_13 ((hO 12 false (by decide)).symm.trans h1) ((hO 13 false (by decide)).symm.trans h2),
      fun h1 h2 => d13_1 ((hO 13 false (by decide)).symm.trans h1) ((hO 1 false (by decide)).symm.trans h2),
      fun h1 h2 => d13_4 ((hO 13 false (by decide)).symm.trans h1) ((hO 4 false (by decide)).symm.trans h2),
      fun h1 h2 => d13_9 ((hO 13 false (by decide)).symm.trans h1) ((hO 9 false (by decide)).symm.trans h2)⟩

set_option maxHeartbeats 1000000 in
set_option maxRecDepth 100000 in
theorem step12_1 {w0 : World} {t : Nat → Value} {x y : EV} {G : Nat} {l : Array Bool} {a : Act} {w : World} (rA : Row1 w0 G x) (rB : Row1 w0 (G + 1) y) (h8 : t 8 = .pointer (some ⟨G, 0, none⟩)) (h9 : t 9 = .pointer (some ⟨G + 1, 0, none⟩)) (hJ : J12 w0 t x y l a w) (hn : l.getD 1 true = false) (q0 : l.getD 0 false = true) (Q : Exit → Act → World → Prop) :
    wpOp Tryd.prog OPS12 Q 1 (J12 w0 t x y (l.setIfInBounds 1 true)) a w := by
  obtain ⟨hsz, hB, s15, s16, s17, s67, s68, s69, s70, s71, s72, s73, s74, s75, s76, s77, b1, b4, b9, b11, b12, b13, rfl, c0, c1, c2, c3, c4, c5, c6, c7, c8, c9, c10, c11, c12, c13, z11, z12, z13, e11, e12, e13, d11_1, d11_4, d11_9, d11_12, d11_13, d12_1, d12_4, d12_9, d12_13, d13_1, d13_4, d13_9⟩ := hJ
  obtain ⟨hlt, hf⟩ := getD_tf hn
  have hO : ∀ j b, 1 ≠ j → (l.setIfInBounds 1 true).getD j b = l.getD j b := fun j b h => (getD_set l 1 j hlt b).trans (if_neg h)
  obtain rfl := c0 q0
  refine op_val (o := { dst := some 68, op := Op.buildSlice 33 1 #[(0, Operand.tmp 67)], type := 33, pos := "law.go:223", after := #[{ on := 0, ground := Ground.data }], guard := none }) (v := .slice (some ⟨w.heap.size, 0, none⟩) 1 1) (w1 := w.alloc (row1 x)) rfl rfl ?_ ?_
  · go_simp
  · refine ⟨by simp [hsz], hB.alloc hB.size _, s15, s16, s17, x.val, .slice (some ⟨w.heap.size, 0, none⟩) 1 1, s69, s70, s71, s72, s73, s74, s75, s76, s77, w.heap.size, b4, b9, b11, b12, b13, rfl, ?_⟩
    exact ⟨fun h => c0 ((hO 0 false (by decide)).symm.trans h),
      fun _ => ⟨rfl, blk_new _ _, hB.size⟩,
      fun h => absurd (c2 ((hO 2 false (by decide)).symm.trans h)).1 (by rw [hf]; decide),
      fun h => c3 ((hO 3 false (by decide)).symm.trans h),
      fun h => ⟨(c4 ((hO 4 false (by decide)).symm.trans h)).1, blk_alloc ((c4 ((hO 4 false (by decide)).symm.trans h)).2.1) _, (c4 ((hO 4 false (by decide)).symm.trans h)).2.2⟩,
      fun h => ⟨(hO 4 false (by decide)).trans (c5 ((hO 5 false (by decide)).symm.trans h)).1, (c5 ((hO 5 false (by decide)).symm.trans h)).2⟩,
      fun h => c6 ((hO 6 false (by decide)).symm.trans h),
      fun h => c7 ((hO 7 false (by decide)).symm.trans h),
      fun h => c8 ((hO 8 false (by decide)).symm.trans h),
      fun h => ⟨(c9 ((hO 9 false (by decide)).symm.trans h)).1, blk_alloc ((c9 ((hO 9 false (by decide)).symm.trans h)).2.1) _, (c9 ((hO 9 false (by decide)).symm.trans h)).2.2⟩,
      fun h => ⟨(hO 9 false (by decide)).trans (c10 ((hO 10 false (by decide)).symm.trans h)).1, (c10 ((hO 10 false (by decide)).symm.trans h)).2⟩,
      fun h => ⟨(c11 ((hO 11 false (by decide)).symm.trans h)).1, by rw [alloc_size]; exact Nat.lt_succ_of_lt (c11 ((hO 11 false (by decide)).symm.trans h)).2.1, (c11 ((hO 11 false (by decide)).symm.trans h)).2.2⟩,
      fun h => ⟨(c12 ((hO 12 false (by decide)).symm.trans h)).1, by rw [alloc_size]; exact Nat.lt_succ_of_lt (c12 ((hO 12 false (by decide)).symm.trans h)).2.1, (c12 ((hO 12 false (by decide)).symm.trans h)).2.2⟩,
      fun h => ⟨(c13 ((hO 13 false (by decide)).symm.trans h)).1, by rw [alloc_size]; exact Nat.lt_succ_of_lt (c13 ((hO 13 false (by decide)).symm.trans h)).2.1, (c13 ((hO 13 false (by decide)).symm.trans h)).2.2⟩,
      fun h h2 => blk_alloc (z11 ((hO 11 false (by decide)).symm.trans h) ((hO 14 false (by decide)).symm.trans h2)) _,
      fun h h2 => blk_alloc (z12 ((hO 12 false (by decide)).symm.trans h) ((hO 15 false (by decide)).symm.trans h2)) _,
      fun h h2 => blk_alloc (z13 ((hO 13 false (by decide)).symm.trans h) ((hO 16 false (by decide)).symm.trans h2)) _,
      fun h => absurd (c2 (e11 ((hO 14 false (by decide)).symm.trans h)).2.1).1 (by rw [hf]; decide),
      fun h => ⟨(hO 12 false (by decide)).trans (e12 ((hO 15 false (by decide)).symm.trans h)).1, (hO 5 false (by decide)).trans (e12 ((hO 15 false (by decide)).symm.trans h)).2.1, blk_alloc ((e12 ((hO 15 false (by decide)).symm.trans h)).2.2) _⟩,
      fun h => ⟨(hO 13 false (by decide)).trans (e13 ((hO 16 false (by decide)).symm.trans h)).1, (hO 10 false (by decide)).trans (e13 ((hO 16 false (by decide)).symm.trans h)).2.1, blk_alloc ((e13 ((hO 16 false (by decide)).symm.trans h)).2.2) _⟩,
      fun h1 h2 => by have := (c11 ((hO 11 false (by decide)).symm.trans h1)).2.1; omega,
      fun h1 h2 => d11_4 ((hO 11 false (by decide)).symm.trans h1) ((hO 4 false (by decide)).symm.trans h2),
      fun h1 h2 => d11_9 ((hO 11 false (by decide)).symm.trans h1) ((hO 9 false (by decide)).symm.trans h2),
      fun h1 h2 => d11_12 ((hO 11 false (by decide)).symm.trans h1) ((hO 12 false (by decide)).symm.trans h2),
      fun h1 h2 => d11_13 ((hO 11 false (by decide)).symm.trans h1) ((hO 13 false (by decide)).symm.trans h2),
      fun h1 h2 => by have := (c12 ((hO 12 false (by decide)).symm.trans h1)).2.1; omega,
      fun h1 h2 => d12_4 ((hO 12 false (by decide)).symm.trans h1) ((hO 4 false (by decide)).symm.trans h2),
      fun h1 h2 => d12_9 ((hO 12 false (by decide)).symm.trans h1) ((hO 9 false (by decide)).symm.trans h2),
      fun h1 h2 => d12_13 ((hO 12 false (by decide)).symm.trans h1) ((hO 13 false (by decide)).symm.trans h2),
      fun h1 h2 => by have := (c13 ((hO 13 false (by decide)).symm.trans h1)).2.1; omega,
      fun h1 h2 => d13_4 ((hO 13 false (by decide)).symm.trans h1) ((hO 4 false (by decide)).symm.trans h2),
      fun h1 h2 => d13_9 ((hO 13 false (by decide)).symm.trans h1) ((hO 9 false (by decide)).symm.trans h2)⟩

set_option maxHeartbeats 1000000 in
set_option maxRecDepth 100000 in
theorem step12_2 {w0 : World} {t : Nat → Value} {x y : EV} {G : Nat} {l : Array Bool} {a : Act} {w : World} (rA : Row1 w0 G x) (rB : Row1 w0 (G + 1) y) (h8 : t 8 = .pointer (some ⟨G, 0, none⟩)) (h9 : t 9 = .pointer (some ⟨G + 1, 0, none⟩)) (hJ : J12 w0 t x y l a w) (hn : l.getD 2 true = false) (q1 : l.getD 1 false = true) (Q : Exit → Act → World → Prop) :
    wpOp Tryd.prog OPS12 Q 2 (J12 w0 t x y (l.setIfInBounds 2 true)) a w := by
  obtain ⟨hsz, hB, s15, s16, s17, s67, s68, s69, s70, s71, s72, s73, s74, s75, s76, s77, b1, b4, b9, b11, b12, b13, rfl, c0, c1, c2, c3, c4, c5, c6, c7, c8, c9, c10, c11, c12, c13, z11, z12, z13, e11, e12, e13, d11_1, d11_4, d11_9, d11_12, d11_13, d12_1, d12_4, d12_9, d12_13, d13_1, d13_4, d13_9⟩ := hJ
  obtain ⟨hlt, hf⟩ := getD_tf hn
  have hO : ∀ j b, 2 ≠ j → (l.setIfInBounds 2 true).getD j b = l.getD j b := fun j b h => (getD_set l 2 j hlt b).trans (if_neg h)
  obtain ⟨rfl, k1, k2⟩ := c1 q1
  refine op_val (o := { dst := some 69, op := Op.build 35 #[(0, Operand.const (Value.int IntKind.i64 4)), (4, Operand.tmp 68)], type := 35, pos := "law.go:223", after := #[{ on := 1, ground := Ground.data }], guard := none }) (v := EV.val ⟨4, 0, ⟨#[]⟩, 0, some ⟨b1, 0, none⟩, 1⟩) (w1 := w) rfl rfl ?_ ?_
  · go_simp
  · refine ⟨by simp [hsz], hB, s15, s16, s17, s67, .slice (some ⟨b1, 0, none⟩) 1 1, EV.val ⟨4, 0, ⟨#[]⟩, 0, some ⟨b1, 0, none⟩, 1⟩, s70, s71, s72, s73, s74, s75, s76, s77, b1, b4, b9, b11, b12, b13, rfl, ?_⟩
    exact ⟨fun h => c0 ((hO 0 false (by decide)).symm.trans h),
      fun h => ⟨(c1 ((hO 1 false (by decide)).symm.trans h)).1, (c1 ((hO 1 false (by decide)).symm.trans h)).2.1, (c1 ((hO 1 false (by decide)).symm.trans h)).2.2⟩,
      fun _ => ⟨(hO 1 false (by decide)).trans q1, rfl⟩,
      fun h => c3 ((hO 3 false (by decide)).symm.trans h),
      fun h => ⟨(c4 ((hO 4 false (by decide)).symm.trans h)).1, (c4 ((hO 4 false (by decide)).symm.trans h)).2.1, (c4 ((hO 4 false (by decide)).symm.trans h)).2.2⟩,
      fun h => ⟨(hO 4 false (by decide)).trans (c5 ((hO 5 false (by decide)).symm.trans h)).1, (c5 ((hO 5 false (by decide)).symm.trans h)).2⟩,
      fun h => c6 ((hO 6 false (by decide)).symm.trans h),
      fun h => c7 ((hO 7 false (by decide)).symm.trans h),
      fun h => c8 ((hO 8 false (by decide)).symm.trans h),
      fun h => ⟨(c9 ((hO 9 false (by decide)).symm.trans h)).1, (c9 ((hO 9 false (by decide)).symm.trans h)).2.1, (c9 ((hO 9 false (by decide)).symm.trans h)).2.2⟩,
      fun h => ⟨(hO 9 false (by decide)).trans (c10 ((hO 10 false (by decide)).symm.trans h)).1, (c10 ((hO 10 false (by decide)).symm.trans h)).2⟩,
      fun h => ⟨(c11 ((hO 11 false (by decide)).symm.trans h)).1, (c11 ((hO 11 false (by decide)).symm.trans h)).2.1, (c11 ((hO 11 false (by decide)).symm.trans h)).2.2⟩,
      fun h => ⟨(c12 ((hO 12 false (by decide)).symm.trans h)).1, (c12 ((hO 12 false (by decide)).symm.trans h)).2.1, (c12 ((hO 12 false (by decide)).symm.trans h)).2.2⟩,
      fun h => ⟨(c13 ((hO 13 false (by decide)).symm.trans h)).1, (c13 ((hO 13 false (by decide)).symm.trans h)).2.1, (c13 ((hO 13 false (by decide)).symm.trans h)).2.2⟩,
      fun h h2 => z11 ((hO 11 false (by decide)).symm.trans h) ((hO 14 false (by decide)).symm.trans h2),
      fun h h2 => z12 ((hO 12 false (by decide)).symm.trans h) ((hO 15 false (by decide)).symm.trans h2),
      fun h h2 => z13 ((hO 13 false (by decide)).symm.trans h) ((hO 16 false (by decide)).symm.trans h2),
      fun h => absurd (e11 ((hO 14 false (by decide)).symm.trans h)).2.1 (by rw [hf]; decide),
      fun h => ⟨(hO 12 false (by decide)).trans (e12 ((hO 15 false (by decide)).symm.trans h)).1, (hO 5 false (by decide)).trans (e12 ((hO 15 false (by decide)).symm.trans h)).2.1, (e12 ((hO 15 false (by decide)).symm.trans h)).2.2⟩,
      fun h => ⟨(hO 13 false (by decide)).trans (e13 ((hO 16 false (by decide)).symm.trans h)).1, (hO 10 false (by decide)).trans (e13 ((hO 16 false (by decide)).symm.trans h)).2.1, (e13 ((hO 16 false (by decide)).symm.trans h)).2.2⟩,
      fun h1 h2 => d11_1 ((hO 11 false (by decide)).symm.trans h1) ((hO 1 false (by decide)).symm.trans h2),
      fun h1 h2 => d11_4 ((hO 11 false (by decide)).symm.trans h1) ((hO 4 false (by decide)).symm.trans h2),
      fun h1 h2 => d11_9 ((hO 11 false (by decide)).symm.trans h1) ((hO 9 false (by decide)).symm.trans h2),
      fun h1 h2 => d11_12 ((hO 11 false (by decide)).symm.trans h1) ((hO 12 false (by decide)).symm.trans h2),
      fun h1 h2 => d11_13 ((hO 11 false (by decide)).symm.trans h1) ((hO 13 false (by decide)).symm.trans h2),
      fun h1 h2 => d12_1 ((hO 12 false (by decide)).symm.trans h1) ((hO 1 false (by decide)).symm.trans h2),
      fun h1 h2 => d12_4 ((hO 12 false (by decide)).symm.trans h1) ((hO 4 false (by decide)).symm.trans h2),
      fun h1 h2 => d12_9 ((hO 12 false (by decide)).symm.trans h1) ((hO 9 false (by decide)).symm.trans h2),
      fun h1 h2 => d12_13 ((hO 12 false (by decide)).symm.trans h1) ((hO 13 false (by decide)).symm.trans h2),
      fun h1 h2 => d13_1 ((hO 13 false (by decide)).symm.trans h1) ((hO 1 false (by decide)).symm.trans h2),
      fun h1 h2 => d13_4 ((hO 13 false (by decide)).symm.trans h1) ((hO 4 false (by decide)).symm.trans h2),
      fun h1 h2 => d13_9 ((hO 13 false (by decide)).symm.trans h1) ((hO 9 false (by decide)).symm.trans h2)⟩

set_option maxHeartbeats 1000000 in
set_option maxRecDepth 100000 in
theorem step12_3 {w0 : World} {t : Nat → Value} {x y : EV} {G : Nat} {l : Array Bool} {a : Act} {w : World} (rA : Row1 w0 G x) (rB : Row1 w0 (G + 1) y) (h8 : t 8 = .pointer (some ⟨G, 0, none⟩)) (h9 : t 9 = .pointer (some ⟨G + 1, 0, none⟩)) (hJ : J12 w0 t x y l a w) (hn : l.getD 3 true = false) (Q : Exit → Act → World → Prop) :
    wpOp Tryd.prog OPS12 Q 3 (J12 w0 t x y (l.setIfInBounds 3 true)) a w := by
  obtain ⟨hsz, hB, s15, s16, s17, s67, s68, s69, s70, s71, s72, s73, s74, s75, s76, s77, b1, b4, b9, b11, b12, b13, rfl, c0, c1, c2, c3, c4, c5, c6, c7, c8, c9, c10, c11, c12, c13, z11, z12, z13, e11, e12, e13, d11_1, d11_4, d11_9, d11_12, d11_13, d12_1, d12_4, d12_9, d12_13, d13_1, d13_4, d13_9⟩ := hJ
  obtain ⟨hlt, hf⟩ := getD_tf hn
  have hO : ∀ j b, 3 ≠ j → (l.setIfInBounds 3 true).getD j b = l.getD j b := fun j b h => (getD_set l 3 j hlt b).trans (if_neg h)
  obtain ⟨f0, f1, f2, f3, f4, f5⟩ := Row1.facts ((hB.block _ (lt_heap rA)).trans rA)
  refine op_val (o := { dst := some 70, op := Op.load 35 (Operand.tmp 8), type := 35, pos := "law.go:223", after := #[{ on := 14, ground := Ground.gcOnly Departure.lateStores }], guard := none }) (v := x.val) (w1 := w) rfl rfl ?_ ?_
  · go_simp
  · refine ⟨by simp [hsz], hB, s15, s16, s17, s67, s68, s69, x.val, s71, s72, s73, s74, s75, s76, s77, b1, b4, b9, b11, b12, b13, rfl, ?_⟩
    exact ⟨fun h => c0 ((hO 0 false (by decide)).symm.trans h),
      fun h => ⟨(c1 ((hO 1 false (by decide)).symm.trans h)).1, (c1 ((hO 1 false (by decide)).symm.trans h)).2.1, (c1 ((hO 1 false (by decide)).symm.trans h)).2.2⟩,
      fun h => ⟨(hO 1 false (by decide)).trans (c2 ((hO 2 false (by decide)).symm.trans h)).1, (c2 ((hO 2 false (by decide)).symm.trans h)).2⟩,
      fun _ => rfl,
      fun h => ⟨(c4 ((hO 4 false (by decide)).symm.trans h)).1, (c4 ((hO 4 false (by decide)).symm.trans h)).2.1, (c4 ((hO 4 false (by decide)).symm.trans h)).2.2⟩,
      fun h => ⟨(hO 4 false (by decide)).trans (c5 ((hO 5 false (by decide)).symm.trans h)).1, (c5 ((hO 5 false (by decide)).symm.trans h)).2⟩,
      fun h => c6 ((hO 6 false (by decide)).symm.trans h),
      fun h => c7 ((hO 7 false (by decide)).symm.trans h),
      fun h => c8 ((hO 8 false (by decide)).symm.trans h),
      fun h => ⟨(c9 ((hO 9 false (by decide)).symm.trans h)).1, (c9 ((hO 9 false (by decide)).symm.trans h)).2.1, (c9 ((hO 9 false (by decide)).symm.trans h)).2.2⟩,
      fun h => ⟨(hO 9 false (by decide)).trans (c10 ((hO 10 false (by decide)).symm.trans h)).1, (c10 ((hO 10 false (by decide)).symm.trans h)).2⟩,
      fun h => ⟨(c11 ((hO 11 false (by decide)).symm.trans h)).1, (c11 ((hO 11 false (by decide)).symm.trans h)).2.1, (c11 ((hO 11 false (by decide)).symm.trans h)).2.2⟩,
      fun h => ⟨(c12 ((hO 12 false (by decide)).symm.trans h)).1, (c12 ((hO 12 false (by decide)).symm.trans h)).2.1, (c12 ((hO 12 false (by decide)).symm.trans h)).2.2⟩,
      fun h => ⟨(c13 ((hO 13 false (by decide)).symm.trans h)).1, (c13 ((hO 13 false (by decide)).symm.trans h)).2.1, (c13 ((hO 13 false (by decide)).symm.trans h)).2.2⟩,
      fun h h2 => z11 ((hO 11 false (by decide)).symm.trans h) ((hO 14 false (by decide)).symm.trans h2),
      fun h h2 => z12 ((hO 12 false (by decide)).symm.trans h) ((hO 15 false (by decide)).symm.trans h2),
      fun h h2 => z13 ((hO 13 false (by decide)).symm.trans h) ((hO 16 false (by decide)).symm.trans h2),
      fun h => ⟨(hO 11 false (by decide)).trans (e11 ((hO 14 false (by decide)).symm.trans h)).1, (hO 2 false (by decide)).trans (e11 ((hO 14 false (by decide)).symm.trans h)).2.1, (e11 ((hO 14 false (by decide)).symm.trans h)).2.2⟩,
      fun h => ⟨(hO 12 false (by decide)).trans (e12 ((hO 15 false (by decide)).symm.trans h)).1, (hO 5 false (by decide)).trans (e12 ((hO 15 false (by decide)).symm.trans h)).2.1, (e12 ((hO 15 false (by decide)).symm.trans h)).2.2⟩,
      fun h => ⟨(hO 13 false (by decide)).trans (e13 ((hO 16 false (by decide)).symm.trans h)).1, (hO 10 false (by decide)).trans (e13 ((hO 16 false (by decide)).symm.trans h)).2.1, (e13 ((hO 16 false (by decide)).symm.trans h)).2.2⟩,
      fun h1 h2 => d11_1 ((hO 11 false (by decide)).symm.trans h1) ((hO 1 false (by decide)).symm.trans h2),
      fun h1 h2 => d11_4 ((hO 11 false (by decide)).symm.trans h1) ((hO 4 false (by decide)).symm.trans h2),
      fun h1 h2 => d11_9 ((hO 11 false (by decide)).symm.trans h1) ((hO 9 false (by decide)).symm.trans h2),
      fun h1 h2 => d11_12 ((hO 11 false (by decide)).symm.trans h1) ((hO 12 false (by decide)).symm.trans h2),
      fun h1 h2 => d11_13 ((hO 11 false (by decide)).symm.trans h1) ((hO 13 false (by decide)).symm.trans h2),
      fun h1 h2 => d12_1 ((hO 12 false (by decide)).symm.trans h1) ((hO 1 false (by decide)).symm.trans h2),
      fun h1 h2 => d12_4 ((hO 12 false (by decide)).symm.trans h1) ((hO 4 false (by decide)).symm.trans h2),
      fun h1 h2 => d12_9 ((hO 12 false (by decide)).symm.trans h1) ((hO 9 false (by decide)).symm.trans h2),
      fun h1 h2 => d12_13 ((hO 12 false (by decide)).symm.trans h1) ((hO 13 false (by decide)).symm.trans h2),
      fun h1 h2 => d13_1 ((hO 13 false (by decide)).symm.trans h1) ((hO 1 false (by decide)).symm.trans h2),
      fun h1 h2 => d13_4 ((hO 13 false (by decide)).symm.trans h1) ((hO 4 false (by decide)).symm.trans h2),
      fun h1 h2 => d13_9 ((hO 13 false (by decide)).symm.trans h1) ((hO 9 false (by decide)).symm.trans h2)⟩

set_option maxHeartbeats 1000000 in
set_option maxRecDepth 100000 in
theorem step12_4 {w0 : World} {t : Nat → Value} {x y : EV} {G : Nat} {l : Array Bool} {a : Act} {w : World} (rA : Row1 w0 G x) (rB : Row1 w0 (G + 1) y) (h8 : t 8 = .pointer (some ⟨G, 0, none⟩)) (h9 : t 9 = .pointer (some ⟨G + 1, 0, none⟩)) (hJ : J12 w0 t x y l a w) (hn : l.getD 4 true = false) (q3 : l.getD 3 false = true) (Q : Exit → Act → World → Prop) :
    wpOp Tryd.prog OPS12 Q 4 (J12 w0 t x y (l.setIfInBounds 4 true)) a w := by
  obtain ⟨hsz, hB, s15, s16, s17, s67, s68, s69, s70, s71, s72, s73, s74, s75, s76, s77, b1, b4, b9, b11, b12, b13, rfl, c0, c1, c2, c3, c4, c5, c6, c7, c8, c9, c10, c11, c12, c13, z11, z12, z13, e11, e12, e13, d11_1, d11_4, d11_9, d11_12, d11_13, d12_1, d12_4, d12_9, d12_13, d13_1, d13_4, d13_9⟩ := hJ
  obtain ⟨hlt, hf⟩ := getD_tf hn
  have hO : ∀ j b, 4 ≠ j → (l.setIfInBounds 4 true).getD j b = l.getD j b := fun j b h => (getD_set l 4 j hlt b).trans (if_neg h)
  obtain rfl := c3 q3
  refine op_val (o := { dst := some 71, op := Op.buildSlice 33 1 #[(0, Operand.tmp 70)], type := 33, pos := "law.go:223", after := #[{ on := 3, ground := Ground.data }, { on := 14, ground := Ground.gcOnly Departure.lateStores }], guard := none }) (v := .slice (some ⟨w.heap.size, 0, none⟩) 1 1) (w1 := w.alloc (row1 x)) rfl rfl ?_ ?_
  · go_simp
  · refine ⟨by simp [hsz], hB.alloc hB.size _, s15, s16, s17, s67, s68, s69, x.val, .slice (some ⟨w.heap.size, 0, none⟩) 1 1, s72, s73, s74, s75, s76, s77, b1, w.heap.size, b9, b11, b12, b13, rfl, ?_⟩
    exact ⟨fun h => c0 ((hO 0 false (by decide)).symm.trans h),
      fun h => ⟨(c1 ((hO 1 false (by decide)).symm.trans h)).1, blk_alloc ((c1 ((hO 1 false (by decide)).symm.trans h)).2.1) _, (c1 ((hO 1 false (by decide)).symm.trans h)).2.2⟩,
      fun h => ⟨(hO 1 false (by decide)).trans (c2 ((hO 2 false (by decide)).symm.trans h)).1, (c2 ((hO 2 false (by decide)).symm.trans h)).2⟩,
      fun h => c3 ((hO 3 false (by decide)).symm.trans h),
      fun _ => ⟨rfl, blk_new _ _, hB.size⟩,
      fun h => absurd (c5 ((hO 5 false (by decide)).symm.trans h)).1 (by rw [hf]; decide),
      fun h => c6 ((hO 6 false (by decide)).symm.trans h),
      fun h => c7 ((hO 7 false (by decide)).symm.trans h),
      fun h => c8 ((hO 8 false (by decide)).symm.trans h),
      fun h => ⟨(c9 ((hO 9 false (by decide)).symm.trans h)).1, blk_alloc ((c9 ((hO 9 false (by decide)).symm.trans h)).2.1) _, (c9 ((hO 9 false (by decide)).symm.trans h)).2.2⟩,
      fun h => ⟨(hO 9 false (by decide)).trans (c10 ((hO 10 false (by decide)).symm.trans h)).1, (c10 ((hO 10 false (by decide)).symm.trans h)).2⟩,
      fun h => ⟨(c11 ((hO 11 false (by decide)).symm.trans h)).1, by rw [alloc_size]; exact Nat.lt_succ_of_lt (c11 ((hO 11 false (by decide)).symm.trans h)).2.1, (c11 ((hO 11 false (by decide)).symm.trans h)).2.2⟩,
      fun h => ⟨(c12 ((hO 12 false (by decide)).symm.trans h)).1, by rw [alloc_size]; exact Nat.lt_succ_of_lt (c12 ((hO 12 false (by decide)).symm.trans h)).2.1, (c12 ((hO 12 false (by decide)).symm.trans h)).2.2⟩,
      fun h => ⟨(c13 ((hO 13 false (by decide)).symm.trans h)).1, by rw [alloc_size]; exact Nat.lt_succ_of_lt (c13 ((hO 13 false (by decide)).symm.trans h)).2.1, (c13 ((hO 13 false (by decide)).symm.trans h)).2.2⟩,
      fun h h2 => blk_alloc (z11 ((hO 11 false (by decide)).symm.trans h) ((hO 14 false (by decide)).symm.trans h2)) _,
      fun h h2 => blk_alloc (z12 ((hO 12 false (by decide)).symm.trans h) ((hO 15 false (by decide)).symm.trans h2)) _,
      fun h h2 => blk_alloc (z13 ((hO 13 false (by decide)).symm.trans h) ((hO 16 false (by decide)).symm.trans h2)) _,
      fun h => ⟨(hO 11 false (by decide)).trans (e11 ((hO 14 false (by decide)).symm.trans h)).1, (hO 2 false (by decide)).trans (e11 ((hO 14 false (by decide)).symm.trans h)).2.1, blk_alloc ((e11 ((hO 14 false (by decide)).symm.trans h)).2.2) _⟩,
      fun h => absurd (c5 (e12 ((hO 15 false (by decide)).symm.trans h)).2.1).1 (by rw [hf]; decide),
      fun h => ⟨(hO 13 false (by decide)).trans (e13 ((hO 16 false (by decide)).symm.trans h)).1, (hO 10 false (by decide)).trans (e13 ((hO 16 false (by decide)).symm.trans h)).2.1, blk_alloc ((e13 ((hO 16 false (by decide)).symm.trans h)).2.2) _⟩,
      fun h1 h2 => d11_1 ((hO 11 false (by decide)).symm.trans h1) ((hO 1 false (by decide)).symm.trans h2),
      fun h1 h2 => by have := (c11 ((hO 11 false (by decide)).symm.trans h1)).2.1; omega,
      fun h1 h2 => d11_9 ((hO 11 false (by decide)).symm.trans h1) ((hO 9 false (by decide)).symm.trans h2),
      fun h1 h2 => d11_12 ((hO 11 false (by decide)).symm.trans h1) ((hO 12 false (by decide)).symm.trans h2),
      fun h1 h2 => d11_13 ((hO 11 false (by decide)).symm.trans h1) ((hO 13 false (by decide)).symm.trans h2),
      fun h1 h2 => d12_1 ((hO 12 false (by decide)).symm.trans h1) ((hO 1 false (by decide)).symm.trans h2),
      fun h1 h2 => by have := (c12 ((hO 12 false (by decide)).symm.trans h1)).2.1; omega,
      fun h1 h2 => d12_9 ((hO 12 false (by decide)).symm.trans h1) ((hO 9 false (by decide)).symm.trans h2),
      fun h1 h2 => d12_13 ((hO 12 false (by decide)).symm.trans h1) ((hO 13 false (by decide)).symm.trans h2),
      fun h1 h2 => d13_1 ((hO 13 false (by decide)).symm.trans h1) ((hO 1 false (by decide)).symm.trans h2),
      fun h1 h2 => by have := (c13 ((hO 13 false (by decide)).symm.trans h1)).2.1; omega,
      fun h1 h2 => d13_9 ((hO 13 false (by decide)).symm.trans h1) ((hO 9 false (by decide)).symm.trans h2)⟩

set_option maxHeartbeats 1000000 in
set_option maxRecDepth 100000 in
theorem step12_5 {w0 : World} {t : Nat → Value} {x y : EV} {G : Nat} {l : Array Bool} {a : Act} {w : World} (rA : Row1 w0 G x) (rB : Row1 w0 (G + 1) y) (h8 : t 8 = .pointer (some ⟨G, 0, none⟩)) (h9 : t 9 = .pointer (some ⟨G + 1, 0, none⟩)) (hJ : J12 w0 t x y l a w) (hn : l.getD 5 true = false) (q4 : l.getD 4 false = true) (Q : Exit → Act → World → Prop) :
    wpOp Tryd.prog OPS12 Q 5 (J12 w0 t x y (l.setIfInBounds 5 true)) a w := by
  obtain ⟨hsz, hB, s15, s16, s17, s67, s68, s69, s70, s71, s72, s73, s74, s75, s76, s77, b1, b4, b9, b11, b12, b13, rfl, c0, c1, c2, c3, c4, c5, c6, c7, c8, c9, c10, c11, c12, c13, z11, z12, z13, e11, e12, e13, d11_1, d11_4, d11_9, d11_12, d11_13, d12_1, d12_4, d12_9, d12_13, d13_1, d13_4, d13_9⟩ := hJ
  obtain ⟨hlt, hf⟩ := getD_tf hn
  have hO : ∀ j b, 5 ≠ j → (l.setIfInBounds 5 true).getD j b = l.getD j b := fun j b h => (getD_set l 5 j hlt b).trans (if_neg h)
  obtain ⟨rfl, k1, k2⟩ := c4 q4
  refine op_val (o := { dst := some 72, op := Op.build 35 #[(0, Operand.const (Value.int IntKind.i64 2)), (2, Operand.const (Value.string { data := #[110] })), (4, Operand.tmp 71)], type := 35, pos := "law.go:223", after := #[{ on := 4, ground := Ground.data }, { on := 14, ground := Ground.gcOnly Departure.lateStores }], guard := none }) (v := EV.val ⟨2, 0, ⟨#[110]⟩, 0, some ⟨b4, 0, none⟩, 1⟩) (w1 := w) rfl rfl ?_ ?_
  · go_simp
  · refine ⟨by simp [hsz], hB, s15, s16, s17, s67, s68, s69, s70, .slice (some ⟨b4, 0, none⟩) 1 1, EV.val ⟨2, 0, ⟨#[110]⟩, 0, some ⟨b4, 0, none⟩, 1⟩, s73, s74, s75, s76, s77, b1, b4, b9, b11, b12, b13, rfl, ?_⟩
    exact ⟨fun h => c0 ((hO 0 false (by decide)).symm.trans h),
      fun h => ⟨(c1 ((hO 1 false (by decide)).symm.trans h)).1, (c1 ((hO 1 false (by decide)).symm.trans h)).2.1, (c1 ((hO 1 false (by decide)).symm.trans h)).2.2⟩,
      fun h => ⟨(hO 1 false (by decide)).trans (c2 ((hO 2 false (by decide)).symm.trans h)).1, (c2 ((hO 2 false (by decide)).symm.trans h)).2⟩,
      fun h => c3 ((hO 3 false (by decide)).symm.trans h),
      fun h => ⟨(c4 ((hO 4 false (by decide)).symm.trans h)).1, (c4 ((hO 4 false (by decide)).symm.trans h)).2.1, (c4 ((hO 4 false (by decide)).symm.trans h)).2.2⟩,
      fun _ => ⟨(hO 4 false (by decide)).trans q4, rfl⟩,
      fun h => c6 ((hO 6 false (by decide)).symm.trans h),
      fun h => c7 ((hO 7 false (by decide)).symm.trans h),
      fun h => c8 ((hO 8 false (by decide)).symm.trans h),
      fun h => ⟨(c9 ((hO 9 false (by decide)).symm.trans h)).1, (c9 ((hO 9 false (by decide)).symm.trans h)).2.1, (c9 ((hO 9 false (by decide)).symm.trans h)).2.2⟩,
      fun h => ⟨(hO 9 false (by decide)).trans (c10 ((hO 10 false (by decide)).symm.trans h)).1, (c10 ((hO 10 false (by decide)).symm.trans h)).2⟩,
      fun h => ⟨(c11 ((hO 11 false (by decide)).symm.trans h)).1, (c11 ((hO 11 false (by decide)).symm.trans h)).2.1, (c11 ((hO 11 false (by decide)).symm.trans h)).2.2⟩,
      fun h => ⟨(c12 ((hO 12 false (by decide)).symm.trans h)).1, (c12 ((hO 12 false (by decide)).symm.trans h)).2.1, (c12 ((hO 12 false (by decide)).symm.trans h)).2.2⟩,
      fun h => ⟨(c13 ((hO 13 false (by decide)).symm.trans h)).1, (c13 ((hO 13 false (by decide)).symm.trans h)).2.1, (c13 ((hO 13 false (by decide)).symm.trans h)).2.2⟩,
      fun h h2 => z11 ((hO 11 false (by decide)).symm.trans h) ((hO 14 false (by decide)).symm.trans h2),
      fun h h2 => z12 ((hO 12 false (by decide)).symm.trans h) ((hO 15 false (by decide)).symm.trans h2),
      fun h h2 => z13 ((hO 13 false (by decide)).symm.trans h) ((hO 16 false (by decide)).symm.trans h2),
      fun h => ⟨(hO 11 false (by decide)).trans (e11 ((hO 14 false (by decide)).symm.trans h)).1, (hO 2 false (by decide)).trans (e11 ((hO 14 false (by decide)).symm.trans h)).2.1, (e11 ((hO 14 false (by decide)).symm.trans h)).2.2⟩,
      fun h => absurd (e12 ((hO 15 false (by decide)).symm.trans h)).2.1 (by rw [hf]; decide),
      fun h => ⟨(hO 13 false (by decide)).trans (e13 ((hO 16 false (by decide)).symm.trans h)).1, (hO 10 false (by decide)).trans (e13 ((hO 16 false (by decide)).symm.trans h)).2.1, (e13 ((hO 16 false (by decide)).symm.trans h)).2.2⟩,
      fun h1 h2 => d11_1 ((hO 11 false (by decide)).symm.trans h1) ((hO 1 false (by decide)).symm.trans h2),
      fun h1 h2 => d11_4 ((hO 11 false (by decide)).symm.trans h1) ((hO 4 false (by decide)).symm.trans h2),
      fun h1 h2 => d11_9 ((hO 11 false (by decide)).symm.trans h1) ((hO 9 false (by decide)).symm.trans h2),
      fun h1 h2 => d11_12 ((hO 11 false (by decide)).symm.trans h1) ((hO 12 false (by decide)).symm.trans h2),
      fun h1 h2 => d11_13 ((hO 11 false (by decide)).symm.trans h1) ((hO 13 false (by decide)).symm.trans h2),
      fun h1 h2 => d12_1 ((hO 12 false (by decide)).symm.trans h1) ((hO 1 false (by decide)).symm.trans h2),
      fun h1 h2 => d12_4 ((hO 12 false (by decide)).symm.trans h1) ((hO 4 false (by decide)).symm.trans h2),
      fun h1 h2 => d12_9 ((hO 12 false (by decide)).symm.trans h1) ((hO 9 false (by decide)).symm.trans h2),
      fun h1 h2 => d12_13 ((hO 12 false (by decide)).symm.trans h1) ((hO 13 false (by decide)).symm.trans h2),
      fun h1 h2 => d13_1 ((hO 13 false (by decide)).symm.trans h1) ((hO 1 false (by decide)).symm.trans h2),
      fun h1 h2 => d13_4 ((hO 13 false (by decide)).symm.trans h1) ((hO 4 false (by decide)).symm.trans h2),
      fun h1 h2 => d13_9 ((hO 13 false (by decide)).symm.trans h1) ((hO 9 false (by decide)).symm.trans h2)⟩

set_option maxHeartbeats 1000000 in
set_option maxRecDepth 100000 in
theorem step12_6 {w0 : World} {t : Nat → Value} {x y : EV} {G : Nat} {l : Array Bool} {a : Act} {w : World} (rA : Row1 w0 G x) (rB : Row1 w0 (G + 1) y) (h8 : t 8 = .pointer (some ⟨G, 0, none⟩)) (h9 : t 9 = .pointer (some ⟨G + 1, 0, none⟩)) (hJ : J12 w0 t x y l a w) (hn : l.getD 6 true = false) (Q : Exit → Act → World → Prop) :
    wpOp Tryd.prog OPS12 Q 6 (J12 w0 t x y (l.setIfInBounds 6 true)) a w := by
  obtain ⟨hsz, hB, s15, s16, s17, s67, s68, s69, s70, s71, s72, s73, s74, s75, s76, s77, b1, b4, b9, b11, b12, b13, rfl, c0, c1, c2, c3, c4, c5, c6, c7, c8, c9, c10, c11, c12, c13, z11, z12, z13, e11, e12, e13, d11_1, d11_4, d11_9, d11_12, d11_13, d12_1, d12_4, d12_9, d12_13, d13_1, d13_4, d13_9⟩ := hJ
  obtain ⟨hlt, hf⟩ := getD_tf hn
  have hO : ∀ j b, 6 ≠ j → (l.setIfInBounds 6 true).getD j b = l.getD j b := fun j b h => (getD_set l 6 j hlt b).trans (if_neg h)
  obtain ⟨f0, f1, f2, f3, f4, f5⟩ := Row1.facts ((hB.block _ (lt_heap rA)).trans rA)
  refine op_val (o := { dst := some 73, op := Op.load 35 (Operand.tmp 8), type := 35, pos := "law.go:223", after := #[{ on := 15, ground := Ground.gcOnly Departure.lateStores }], guard := none }) (v := x.val) (w1 := w) rfl rfl ?_ ?_
  · go_simp
  · refine ⟨by simp [hsz], hB, s15, s16, s17, s67, s68, s69, s70, s71, s72, x.val, s74, s75, s76, s77, b1, b4, b9, b11, b12, b13, rfl, ?_⟩
    exact ⟨fun h => c0 ((hO 0 false (by decide)).symm.trans h),
      fun h => ⟨(c1 ((hO 1 false (by decide)).symm.trans h)).1, (c1 ((hO 1 false (by decide)).symm.trans h)).2.1, (c1 ((hO 1 false (by decide)).symm.trans h)).2.2⟩,
      fun h => ⟨(hO 1 false (by decide)).trans (c2 ((hO 2 false (by decide)).symm.trans h)).1, (c2 ((hO 2 false (by decide)).symm.trans h)).2⟩,
      fun h => c3 ((hO 3 false (by decide)).symm.trans h),
      fun h => ⟨(c4 ((hO 4 false (by decide)).symm.trans h)).1, (c4 ((hO 4 false (by decide)).symm.trans h)).2.1, (c4 ((hO 4 false (by decide)).symm.trans h)).2.2⟩,
      fun h => ⟨(hO 4 false (by decide)).trans (c5 ((hO 5 false (by decide)).symm.trans h)).1, (c5 ((hO 5 false (by decide)).symm.trans h)).2⟩,
      fun _ => rfl,
      fun h => c7 ((hO 7 false (by decide)).symm.trans h),
      fun h => c8 ((hO 8 false (by decide)).symm.trans h),
      fun h => ⟨(c9 ((hO 9 false (by decide)).symm.trans h)).1, (c9 ((hO 9 false (by decide)).symm.trans h)).2.1, (c9 ((hO 9 false (by decide)).symm.trans h)).2.2⟩,
      fun h => ⟨(hO 9 false (by decide)).trans (c10 ((hO 10 false (by decide)).symm.trans h)).1, (c10 ((hO 10 false (by decide)).symm.trans h)).2⟩,
      fun h => ⟨(c11 ((hO 11 false (by decide)).symm.trans h)).1, (c11 ((hO 11 false (by decide)).symm.trans h)).2.1, (c11 ((hO 11 false (by decide)).symm.trans h)).2.2⟩,
      fun h => ⟨(c12 ((hO 12 false (by decide)).symm.trans h)).1, (c12 ((hO 12 false (by decide)).symm.trans h)).2.1, (c12 ((hO 12 false (by decide)).symm.trans h)).2.2⟩,
      fun h => ⟨(c13 ((hO 13 false (by decide)).symm.trans h)).1, (c13 ((hO 13 false (by decide)).symm.trans h)).2.1, (c13 ((hO 13 false (by decide)).symm.trans h)).2.2⟩,
      fun h h2 => z11 ((hO 11 false (by decide)).symm.trans h) ((hO 14 false (by decide)).symm.trans h2),
      fun h h2 => z12 ((hO 12 false (by decide)).symm.trans h) ((hO 15 false (by decide)).symm.trans h2),
      fun h h2 => z13 ((hO 13 false (by decide)).symm.trans h) ((hO 16 false (by decide)).symm.trans h2),
      fun h => ⟨(hO 11 false (by decide)).trans (e11 ((hO 14 false (by decide)).symm.trans h)).1, (hO 2 false (by decide)).trans (e11 ((hO 14 false (by decide)).symm.trans h)).2.1, (e11 ((hO 14 false (by decide)).symm.trans h)).2.2⟩,
      fun h => ⟨(hO 12 false (by decide)).trans (e12 ((hO 15 false (by decide)).symm.trans h)).1, (hO 5 false (by decide)).trans (e12 ((hO 15 false (by decide)).symm.trans h)).2.1, (e12 ((hO 15 false (by decide)).symm.trans h)).2.2⟩,
      fun h => ⟨(hO 13 false (by decide)).trans (e13 ((hO 16 false (by decide)).symm.trans h)).1, (hO 10 false (by decide)).trans (e13 ((hO 16 false (by decide)).symm.trans h)).2.1, (e13 ((hO 16 false (by decide)).symm.trans h)).2.2⟩,
      fun h1 h2 => d11_1 ((hO 11 false (by decide)).symm.trans h1) ((hO 1 false (by decide)).symm.trans h2),
      fun h1 h2 => d11_4 ((hO 11 false (by decide)).symm.trans h1) ((hO 4 false (by decide)).symm.trans h2),
      fun h1 h2 => d11_9 ((hO 11 false (by decide)).symm.trans h1) ((hO 9 false (by decide)).symm.trans h2),
      fun h1 h2 => d11_12 ((hO 11 false (by decide)).symm.trans h1) ((hO 12 false (by decide)).symm.trans h2),
      fun h1 h2 => d11_13 ((hO 11 false (by decide)).symm.trans h1) ((hO 13 false (by decide)).symm.trans h2),
      fun h1 h2 => d12_1 ((hO 12 false (by decide)).symm.trans h1) ((hO 1 false (by decide)).symm.trans h2),
      fun h1 h2 => d12_4 ((hO 12 false (by decide)).symm.trans h1) ((hO 4 false (by decide)).symm.trans h2),
      fun h1 h2 => d12_9 ((hO 12 false (by decide)).symm.trans h1) ((hO 9 false (by decide)).symm.trans h2),
      fun h1 h2 => d12_13 ((hO 12 false (by decide)).symm.trans h1) ((hO 13 false (by decide)).symm.trans h2),
      fun h1 h2 => d13_1 ((hO 13 false (by decide)).symm.trans h1) ((hO 1 false (by decide)).symm.trans h2),
      fun h1 h2 => d13_4 ((hO 13 false (by decide)).symm.trans h1) ((hO 4 false (by decide)).symm.trans h2),
      fun h1 h2 => d13_9 ((hO 13 false (by decide)).symm.trans h1) ((hO 9 false (by decide)).symm.trans h2)⟩

set_option maxHeartbeats 1000000 in
set_option maxRecDepth 100000 in
theorem step12_7 {w0 : World} {t : Nat → Value} {x y : EV} {G : Nat} {l : Array Bool} {a : Act} {w : World} (rA : Row1 w0 G x) (rB : Row1 w0 (G + 1) y) (h8 : t 8 = .pointer (some ⟨G, 0, none⟩)) (h9 : t 9 = .pointer (some ⟨G + 1, 0, none⟩)) (hJ : J12 w0 t x y l a w) (hn : l.getD 7 true = false) (Q : Exit → Act → World → Prop) :
    wpOp Tryd.prog OPS12 Q 7 (J12 w0 t x y (l.setIfInBounds 7 true)) a w := by
  obtain ⟨hsz, hB, s15, s16, s17, s67, s68, s69, s70, s71, s72, s73, s74, s75, s76, s77, b1, b4, b9, b11, b12, b13, rfl, c0, c1, c2, c3, c4, c5, c6, c7, c8, c9, c10, c11, c12, c13, z11, z12, z13, e11, e12, e13, d11_1, d11_4, d11_9, d11_12, d11_13, d12_1, d12_4, d12_9, d12_13, d13_1, d13_4, d13_9⟩ := hJ
  obtain ⟨hlt, hf⟩ := getD_tf hn
  have hO : ∀ j b, 7 ≠ j → (l.setIfInBounds 7 true).getD j b = l.getD j b := fun j b h => (getD_set l 7 j hlt b).trans (if_neg h)
  obtain ⟨f0, f1, f2, f3, f4, f5⟩ := Row1.facts ((hB.block _ (lt_heap rB)).trans rB)
  refine op_val (o := { dst := some 74, op := Op.load 35 (Operand.tmp 9), type := 35, pos := "law.go:223", after := #[{ on := 15, ground := Ground.gcOnly Departure.lateStores }], guard := none }) (v := y.val) (w1 := w) rfl rfl ?_ ?_
  · go_simp
  · refine ⟨by simp [hsz], hB, s15, s16, s17, s67, s68, s69, s70, s71, s72, s73, y.val, s75, s76, s77, b1, b4, b9, b11, b12, b13, rfl, ?_⟩
    exact ⟨fun h => c0 ((hO 0 false (by decide)).symm.trans h),
      fun h => ⟨(c1 ((hO 1 false (by decide)).symm.trans h)).1, (c1 ((hO 1 false (by decide)).symm.trans h)).2.1, (c1 ((hO 1 false (by decide)).symm.trans h)).2.2⟩,
      fun h => ⟨(hO 1 false (by decide)).trans (c2 ((hO 2 false (by decide)).symm.trans h)).1, (c2 ((hO 2 false (by decide)).symm.trans h)).2⟩,
      fun h => c3 ((hO 3 false (by decide)).symm.trans h),
      fun h => ⟨(c4 ((hO 4 false (by decide)).symm.trans h)).1, (c4 ((hO 4 false (by decide)).symm.trans h)).2.1, (c4 ((hO 4 false (by decide)).symm.trans h)).2.2⟩,
      fun h => ⟨(hO 4 false (by decide)).trans (c5 ((hO 5 false (by decide)).symm.trans h)).1, (c5 ((hO 5 false (by decide)).symm.trans h)).2⟩,
      fun h => c6 ((hO 6 false (by decide)).symm.trans h),
      fun _ => rfl,
      fun h => c8 ((hO 8 false (by decide)).symm.trans h),
      fun h => ⟨(c9 ((hO 9 false (by decide)).symm.trans h)).1, (c9 ((hO 9 false (by decide)).symm.trans h)).2.1, (c9 ((hO 9 false (by decide)).symm.trans h)).2.2⟩,
      fun h => ⟨(hO 9 false (by decide)).trans (c10 ((hO 10 false (by decide)).symm.trans h)).1, (c10 ((hO 10 false (by decide)).symm.trans h)).2⟩,
      fun h => ⟨(c11 ((hO 11 false (by decide)).symm.trans h)).1, (c11 ((hO 11 false (by decide)).symm.trans h)).2.1, (c11 ((hO 11 false (by decide)).symm.trans h)).2.2⟩,
      fun h => ⟨(c12 ((hO 12 false (by decide)).symm.trans h)).1, (c12 ((hO 12 false (by decide)).symm.trans h)).2.1, (c12 ((hO 12 false (by decide)).symm.trans h)).2.2⟩,
      fun h => ⟨(c13 ((hO 13 false (by decide)).symm.trans h)).1, (c13 ((hO 13 false (by decide)).symm.trans h)).2.1, (c13 ((hO 13 false (by decide)).symm.trans h)).2.2⟩,
      fun h h2 => z11 ((hO 11 false (by decide)).symm.trans h) ((hO 14 false (by decide)).symm.trans h2),
      fun h h2 => z12 ((hO 12 false (by decide)).symm.trans h) ((hO 15 false (by decide)).symm.trans h2),
      fun h h2 => z13 ((hO 13 false (by decide)).symm.trans h) ((hO 16 false (by decide)).symm.trans h2),
      fun h => ⟨(hO 11 false (by decide)).trans (e11 ((hO 14 false (by decide)).symm.trans h)).1, (hO 2 false (by decide)).trans (e11 ((hO 14 false (by decide)).symm.trans h)).2.1, (e11 ((hO 14 false (by decide)).symm.trans h)).2.2⟩,
      fun h => ⟨(hO 12 false (by decide)).trans (e12 ((hO 15 false (by decide)).symm.trans h)).1, (hO 5 false (by decide)).trans (e12 ((hO 15 false (by decide)).symm.trans h)).2.1, (e12 ((hO 15 false (by decide)).symm.trans h)).2.2⟩,
      fun h => ⟨(hO 13 false (by decide)).trans (e13 ((hO 16 false (by decide)).symm.trans h)).1, (hO 10 false (by decide)).trans (e13 ((hO 16 false (by decide)).symm.trans h)).2.1, (e13 ((hO 16 false (by decide)).symm.trans h)).2.2⟩,
      fun h1 h2 => d11_1 ((hO 11 false (by decide)).symm.trans h1) ((hO 1 false (by decide)).symm.trans h2),
      fun h1 h2 => d11_4 ((hO 11 false (by decide)).symm.trans h1) ((hO 4 false (by decide)).symm.trans h2),
      fun h1 h2 => d11_9 ((hO 11 false (by decide)).symm.trans h1) ((hO 9 false (by decide)).symm.trans h2),
      fun h1 h2 => d11_12 ((hO 11 false (by decide)).symm.trans h1) ((hO 12 false (by decide)).symm.trans h2),
      fun h1 h2 => d11_13 ((hO 11 false (by decide)).symm.trans h1) ((hO 13 false (by decide)).symm.trans h2),
      fun h1 h2 => d12_1 ((hO 12 false (by decide)).symm.trans h1) ((hO 1 false (by decide)).symm.trans h2),
      fun h1 h2 => d12_4 ((hO 12 false (by decide)).symm.trans h1) ((hO 4 false (by decide)).symm.trans h2),
      fun h1 h2 => d12_9 ((hO 12 false (by decide)).symm.trans h1) ((hO 9 false (by decide)).symm.trans h2),
      fun h1 h2 => d12_13 ((hO 12 false (by decide)).symm.trans h1) ((hO 13 false (by decide)).symm.trans h2),
      fun h1 h2 => d13_1 ((hO 13 false (by decide)).symm.trans h1) ((hO 1 false (by decide)).symm.trans h2),
      fun h1 h2 => d13_4 ((hO 13 false (by decide)).symm.trans h1) ((hO 4 false (by decide)).symm.trans h2),
      fun h1 h2 => d13_9 ((hO 13 false (by decide)).symm.trans h1) ((hO 9 false (by decide)).symm.trans h2)⟩

set_option maxHeartbeats 1000000 in
set_option maxRecDepth 100000 in
theorem step12_8 {w0 : World} {t : Nat → Value} {x y : EV} {G : Nat} {l : Array Bool} {a : Act} {w : World} (rA : Row1 w0 G x) (rB : Row1 w0 (G + 1) y) (h8 : t 8 = .pointer (some ⟨G, 0, none⟩)) (h9 : t 9 = .pointer (some ⟨G + 1, 0, none⟩)) (hJ : J12 w0 t x y l a w) (hn : l.getD 8 true = false) (Q : Exit → Act → World → Prop) :
    wpOp Tryd.prog OPS12 Q 8 (J12 w0 t x y (l.setIfInBounds 8 true)) a w := by
  obtain ⟨hsz, hB, s15, s16, s17, s67, s68, s69, s70, s71, s72, s73, s74, s75, s76, s77, b1, b4, b9, b11, b12, b13, rfl, c0, c1, c2, c3, c4, c5, c6, c7, c8, c9, c10, c11, c12, c13, z11, z12, z13, e11, e12, e13, d11_1, d11_4, d11_9, d11_12, d11_13, d12_1, d12_4, d12_9, d12_13, d13_1, d13_4, d13_9⟩ := hJ
  obtain ⟨hlt, hf⟩ := getD_tf hn
  have hO : ∀ j b, 8 ≠ j → (l.setIfInBounds 8 true).getD j b = l.getD j b := fun j b h => (getD_set l 8 j hlt b).trans (if_neg h)
  obtain ⟨f0, f1, f2, f3, f4, f5⟩ := Row1.facts ((hB.block _ (lt_heap rA)).trans rA)
  refine op_val (o := { dst := some 75, op := Op.load 35 (Operand.tmp 8), type := 35, pos := "law.go:223", after := #[{ on := 15, ground := Ground.gcOnly Departure.lateStores }], guard := none }) (v := x.val) (w1 := w) rfl rfl ?_ ?_
  · go_simp
  · refine ⟨by simp [hsz], hB, s15, s16, s17, s67, s68, s69, s70, s71, s72, s73, s74, x.val, s76, s77, b1, b4, b9, b11, b12, b13, rfl, ?_⟩
    exact ⟨fun h => c0 ((hO 0 false (by decide)).symm.trans h),
      fun h => ⟨(c1 ((hO 1 false (by decide)).symm.trans h)).1, (c1 ((hO 1 false (by decide)).symm.trans h)).2.1, (c1 ((hO 1 false (by decide)).symm.trans h)).2.2⟩,
      fun h => ⟨(hO 1 false (by decide)).trans (c2 ((hO 2 false (by decide)).symm.trans h)).1, (c2 ((hO 2 false (by decide)).symm.trans h)).2⟩,
      fun h => c3 ((hO 3 false (by decide)).symm.trans h),
      fun h => ⟨(c4 ((hO 4 false (by decide)).symm.trans h)).1, (c4 ((hO 4 false (by decide)).symm.trans h)).2.1, (c4 ((hO 4 false (by decide)).symm.trans h)).2.2⟩,
      fun h => ⟨(hO 4 false (by decide)).trans (c5 ((hO 5 false (by decide)).symm.trans h)).1, (c5 ((hO 5 false (by decide)).symm.trans h)).2⟩,
      fun h => c6 ((hO 6 false (by decide)).symm.trans h),
      fun h => c7 ((hO 7 false (by decide)).symm.trans h),
      fun _ => rfl,
      fun h => ⟨(c9 ((hO 9 false (by decide)).symm.trans h)).1, (c9 ((hO 9 false (by decide)).symm.trans h)).2.1, (c9 ((hO 9 false (by decide)).symm.trans h)).2.2⟩,
      fun h => ⟨(hO 9 false (by decide)).trans (c10 ((hO 10 false (by decide)).symm.trans h)).1, (c10 ((hO 10 false (by decide)).symm.trans h)).2⟩,
      fun h => ⟨(c11 ((hO 11 false (by decide)).symm.trans h)).1, (c11 ((hO 11 false (by decide)).symm.trans h)).2.1, (c11 ((hO 11 false (by decide)).symm.trans h)).2.2⟩,
      fun h => ⟨(c12 ((hO 12 false (by decide)).symm.trans h)).1, (c12 ((hO 12 false (by decide)).symm.trans h)).2.1, (c12 ((hO 12 false (by decide)).symm.trans h)).2.2⟩,
      fun h => ⟨(c13 ((hO 13 false (by decide)).symm.trans h)).1, (c13 ((hO 13 false (by decide)).symm.trans h)).2.1, (c13 ((hO 13 false (by decide)).symm.trans h)).2.2⟩,
      fun h h2 => z11 ((hO 11 false (by decide)).symm.trans h) ((hO 14 false (by decide)).symm.trans h2),
      fun h h2 => z12 ((hO 12 false (by decide)).symm.trans h) ((hO 15 false (by decide)).symm.trans h2),
      fun h h2 => z13 ((hO 13 false (by decide)).symm.trans h) ((hO 16 false (by decide)).symm.trans h2),
      fun h => ⟨(hO 11 false (by decide)).trans (e11 ((hO 14 false (by decide)).symm.trans h)).1, (hO 2 false (by decide)).trans (e11 ((hO 14 false (by decide)).symm.trans h)).2.1, (e11 ((hO 14 false (by decide)).symm.trans h)).2.2⟩,
      fun h => ⟨(hO 12 false (by decide)).trans (e12 ((hO 15 false (by decide)).symm.trans h)).1, (hO 5 false (by decide)).trans (e12 ((hO 15 false (by decide)).symm.trans h)).2.1, (e12 ((hO 15 false (by decide)).symm.trans h)).2.2⟩,
      fun h => ⟨(hO 13 false (by decide)).trans (e13 ((hO 16 false (by decide)).symm.trans h)).1, (hO 10 false (by decide)).trans (e13 ((hO 16 false (by decide)).symm.trans h)).2.1, (e13 ((hO 16 false (by decide)).symm.trans h)).2.2⟩,
      fun h1 h2 => d11_1 ((hO 11 false (by decide)).symm.trans h1) ((hO 1 false (by decide)).symm.trans h2),
      fun h1 h2 => d11_4 ((hO 11 false (by decide)).symm.trans h1) ((hO 4 false (by decide)).symm.trans h2),
      fun h1 h2 => d11_9 ((hO 11 false (by decide)).symm.trans h1) ((hO 9 false (by decide)).symm.trans h2),
      fun h1 h2 => d11_12 ((hO 11 false (by decide)).symm.trans h1) ((hO 12 false (by decide)).symm.trans h2),
      fun h1 h2 => d11_13 ((hO 11 false (by decide)).symm.trans h1) ((hO 13 false (by decide)).symm.trans h2),
      fun h1 h2 => d12_1 ((hO 12 false (by decide)).symm.trans h1) ((hO 1 false (by decide)).symm.trans h2),
      fun h1 h2 => d12_4 ((hO 12 false (by decide)).symm.trans h1) ((hO 4 false (by decide)).symm.trans h2),
      fun h1 h2 => d12_9 ((hO 12 false (by decide)).symm.trans h1) ((hO 9 false (by decide)).symm.trans h2),
      fun h1 h2 => d12_13 ((hO 12 false (by decide)).symm.trans h1) ((hO 13 false (by decide)).symm.trans h2),
      fun h1 h2 => d13_1 ((hO 13 false (by decide)).symm.trans h1) ((hO 1 false (by decide)).symm.trans h2),
      fun h1 h2 => d13_4 ((hO 13 false (by decide)).symm.trans h1) ((hO 4 false (by decide)).symm.trans h2),
      fun h1 h2 => d13_9 ((hO 13 false (by decide)).symm.trans h1) ((hO 9 false (by decide)).symm.trans h2)⟩

set_option maxHeartbeats 1000000 in
set_option maxRecDepth 100000 in
theorem step12_9 {w0 : World} {t : Nat → Value} {x y : EV} {G : Nat} {l : Array Bool} {a : Act} {w : World} (rA : Row1 w0 G x) (rB : Row1 w0 (G + 1) y) (h8 : t 8 = .pointer (some ⟨G, 0, none⟩)) (h9 : t 9 = .pointer (some ⟨G + 1, 0, none⟩)) (hJ : J12 w0 t x y l a w) (hn : l.getD 9 true = false) (q6 : l.getD 6 false = true) (q7 : l.getD 7 false = true) (q8 : l.getD 8 false = true) (Q : Exit → Act → World → Prop) :
    wpOp Tryd.prog OPS12 Q 9 (J12 w0 t x y (l.setIfInBounds 9 true)) a w := by
  obtain ⟨hsz, hB, s15, s16, s17, s67, s68, s69, s70, s71, s72, s73, s74, s75, s76, s77, b1, b4, b9, b11, b12, b13, rfl, c0, c1, c2, c3, c4, c5, c6, c7, c8, c9, c10, c11, c12, c13, z11, z12, z13, e11, e12, e13, d11_1, d11_4, d11_9, d11_12, d11_13, d12_1, d12_4, d12_9, d12_13, d13_1, d13_4, d13_9⟩ := hJ
  obtain ⟨hlt, hf⟩ := getD_tf hn
  have hO : ∀ j b, 9 ≠ j → (l.setIfInBounds 9 true).getD j b = l.getD j b := fun j b h => (getD_set l 9 j hlt b).trans (if_neg h)
  obtain rfl := c6 q6
  obtain rfl := c7 q7
  obtain rfl := c8 q8
  refine op_val (o := { dst := some 76, op := Op.buildSlice 33 3 #[(0, Operand.tmp 73), (1, Operand.tmp 74), (2, Operand.tmp 75)], type := 33, pos := "law.go:223", after := #[{ on := 6, ground := Ground.data }, { on := 7, ground := Ground.data }, { on := 8, ground := Ground.data }, { on := 15, ground := Ground.gcOnly Departure.lateStores }], guard := none }) (v := .slice (some ⟨w.heap.size, 0, none⟩) 3 3) (w1 := w.alloc (row3 x y x)) rfl rfl ?_ ?_
  · go_simp
  · refine ⟨by simp [hsz], hB.alloc hB.size _, s15, s16, s17, s67, s68, s69, s70, s71, s72, x.val, y.val, x.val, .slice (some ⟨w.heap.size, 0, none⟩) 3 3, s77, b1, b4, w.heap.size, b11, b12, b13, rfl, ?_⟩
    exact ⟨fun h => c0 ((hO 0 false (by decide)).symm.trans h),
      fun h => ⟨(c1 ((hO 1 false (by decide)).symm.trans h)).1, blk_alloc ((c1 ((hO 1 false (by decide)).symm.trans h)).2.1) _, (c1 ((hO 1 false (by decide)).symm.trans h)).2.2⟩,
      fun h => ⟨(hO 1 false (by decide)).trans (c2 ((hO 2 false (by decide)).symm.trans h)).1, (c2 ((hO 2 false (by decide)).symm.trans h)).2⟩,
      fun h => c3 ((hO 3 false (by decide)).symm.trans h),
      fun h => ⟨(c4 ((hO 4 false (by decide)).symm.trans h)).1, blk_alloc ((c4 ((hO 4 false (by decide)).symm.trans h)).2.1) _, (c4 ((hO 4 false (by decide)).symm.trans h)).2.2⟩,
      fun h => ⟨(hO 4 false (by decide)).trans (c5 ((hO 5 false (by decide)).symm.trans h)).1, (c5 ((hO 5 false (by decide)).symm.trans h)).2⟩,
      fun h => c6 ((hO 6 false (by decide)).symm.trans h),
      fun h => c7 ((hO 7 false (by decide)).symm.trans h),
      fun h => c8 ((hO 8 false (by decide)).symm.trans h),
      fun _ => ⟨rfl, blk_new _ _, hB.size⟩,
      fun h => absurd (c10 ((hO 10 false (by decide)).symm.trans h)).1 (by rw [hf]; decide),
      fun h => ⟨(c11 ((hO 11 false (by decide)).symm.trans h)).1, by rw [alloc_size]; exact Nat.lt_succ_of_lt (c11 ((hO 11 false (by decide)).symm.trans h)).2.1, (c11 ((hO 11 false (by decide)).symm.trans h)).2.2⟩,
      fun h => ⟨(c12 ((hO 12 false (by decide)).symm.trans h)).1, by rw [alloc_size]; exact Nat.lt_succ_of_lt (c12 ((hO 12 false (by decide)).symm.trans h)).2.1, (c12 ((hO 12 false (by decide)).symm.trans h)).2.2⟩,
      fun h => ⟨(c13 ((hO 13 false (by decide)).symm.trans h)).1, by rw [alloc_size]; exact Nat.lt_succ_of_lt (c13 ((hO 13 false (by decide)).symm.trans h)).2.1, (c13 ((hO 13 false (by decide)).symm.trans h)).2.2⟩,
      fun h h2 => blk_alloc (z11 ((hO 11 false (by decide)).symm.trans h) ((hO 14 false (by decide)).symm.trans h2)) _,
      fun h h2 => blk_alloc (z12 ((hO 12 false (by decide)).symm.trans h) ((hO 15 false (by decide)).symm.trans h2)) _,
      fun h h2 => blk_alloc (z13 ((hO 13 false (by decide)).symm.trans h) ((hO 16 false (by decide)).symm.trans h2)) _,
      fun h => ⟨(hO 11 false (by decide)).trans (e11 ((hO 14 false (by decide)).symm.trans h)).1, (hO 2 false (by decide)).trans (e11 ((hO 14 false (by decide)).symm.trans h)).2.1, blk_alloc ((e11 ((hO 14 false (by decide)).symm.trans h)).2.2) _⟩,
      fun h => ⟨(hO 12 false (by decide)).trans (e12 ((hO 15 false (by decide)).symm.trans h)).1, (hO 5 false (by decide)).trans (e12 ((hO 15 false (by decide)).symm.trans h)).2.1, blk_alloc ((e12 ((hO 15 false (by decide)).symm.trans h)).2.2) _⟩,
      fun h => absurd (c10 (e13 ((hO 16 false (by decide)).symm.trans h)).2.1).1 (by rw [hf]; decide),
      fun h1 h2 => d11_1 ((hO 11 false (by decide)).symm.trans h1) ((hO 1 false (by decide)).symm.trans h2),
      fun h1 h2 => d11_4 ((hO 11 false (by decide)).symm.trans h1) ((hO 4 false (by decide)).symm.trans h2),
      fun h1 h2 => by have := (c11 ((hO 11 false (by decide)).symm.trans h1)).2.1; omega,
      fun h1 h2 => d11_12 ((hO 11 false (by decide)).symm.trans h1) ((hO 12 false (by decide)).symm.trans h2),
      fun h1 h2 => d11_13 ((hO 11 false (by decide)).symm.trans h1) ((hO 13 false (by decide)).symm.trans h2),
      fun h1 h2 => d12_1 ((hO 12 false (by decide)).symm.trans h1) ((hO 1 false (by decide)).symm.trans h2),
      fun h1 h2 => d12_4 ((hO 12 false (by decide)).symm.trans h1) ((hO 4 false (by decide)).symm.trans h2),
      fun h1 h2 => by have := (c12 ((hO 12 false (by decide)).symm.trans h1)).2.1; omega,
      fun h1 h2 => d12_13 ((hO 12 false (by decide)).symm.trans h1) ((hO 13 false (by decide)).symm.trans h2),
      fun h1 h2 => d13_1 ((hO 13 false (by decide)).symm.trans h1) ((hO 1 false (by decide)).symm.trans h2),
      fun h1 h2 => d13_4 ((hO 13 false (by decide)).symm.trans h1) ((hO 4 false (by decide)).symm.trans h2),
      fun h1 h2 => by have := (c13 ((hO 13 false (by decide)).symm.trans h1)).2.1; omega⟩

set_option maxHeartbeats 1000000 in
set_option maxRecDepth 100000 in
theorem step12_10 {w0 : World} {t : Nat → Value} {x y : EV} {G : Nat} {l : Array Bool} {a : Act} {w : World} (rA : Row1 w0 G x) (rB : Row1 w0 (G + 1) y) (h8 : t 8 = .pointer (some ⟨G, 0, none⟩)) (h9 : t 9 = .pointer (some ⟨G + 1, 0, none⟩)) (hJ : J12 w0 t x y l a w) (hn : l.getD 10 true = false) (q9 : l.getD 9 false = true) (Q : Exit → Act → World → Prop) :
    wpOp Tryd.prog OPS12 Q 10 (J12 w0 t x y (l.setIfInBounds 10 true)) a w := by
  obtain ⟨hsz, hB, s15, s16, s17, s67, s68, s69, s70, s71, s72, s73, s74, s75, s76, s77, b1, b4, b9, b11, b12, b13, rfl, c0, c1, c2, c3, c4, c5, c6, c7, c8, c9, c10, c11, c12, c13, z11, z12, z13, e11, e12, e13, d11_1, d11_4, d11_9, d11_12, d11_13, d12_1, d12_4, d12_9, d12_13, d13_1, d13_4, d13_9⟩ := hJ
  obtain ⟨hlt, hf⟩ := getD_tf hn
  have hO : ∀ j b, 10 ≠ j → (l.setIfInBounds 10 true).getD j b = l.getD j b := fun j b h => (getD_set l 10 j hlt b).trans (if_neg h)
  obtain ⟨rfl, k1, k2⟩ := c9 q9
  refine op_val (o := { dst := some 77, op := Op.build 35 #[(0, Operand.const (Value.int IntKind.i64 5)), (4, Operand.tmp 76)], type := 35, pos := "law.go:223", after := #[{ on := 9, ground := Ground.data }, { on := 15, ground := Ground.gcOnly Departure.lateStores }], guard := none }) (v := EV.val ⟨5, 0, ⟨#[]⟩, 0, some ⟨b9, 0, none⟩, 3⟩) (w1 := w) rfl rfl ?_ ?_
  · go_simp
  · refine ⟨by simp [hsz], hB, s15, s16, s17, s67, s68, s69, s70, s71, s72, s73, s74, s75, .slice (some ⟨b9, 0, none⟩) 3 3, EV.val ⟨5, 0, ⟨#[]⟩, 0, some ⟨b9, 0, none⟩, 3⟩, b1, b4, b9, b11, b12, b13, rfl, ?_⟩
    exact ⟨fun h => c0 ((hO 0 false (by decide)).symm.trans h),
      fun h => ⟨(c1 ((hO 1 false (by decide)).symm.trans h)).1, (c1 ((hO 1 false (by decide)).symm.trans h)).2.1, (c1 ((hO 1 false (by decide)).symm.trans h)).2.2⟩,
      fun h => ⟨(hO 1 false (by decide)).trans (c2 ((hO 2 false (by decide)).symm.trans h)).1, (c2 ((hO 2 false (by decide)).symm.trans h)).2⟩,
      fun h => c3 ((hO 3 false (by decide)).symm.trans h),
      fun h => ⟨(c4 ((hO 4 false (by decide)).symm.trans h)).1, (c4 ((hO 4 false (by decide)).symm.trans h)).2.1, (c4 ((hO 4 false (by decide)).symm.trans h)).2.2⟩,
      fun h => ⟨(hO 4 false (by decide)).trans (c5 ((hO 5 false (by decide)).symm.trans h)).1, (c5 ((hO 5 false (by decide)).symm.trans h)).2⟩,
      fun h => c6 ((hO 6 false (by decide)).symm.trans h),
      fun h => c7 ((hO 7 false (by decide)).symm.trans h),
      fun h => c8 ((hO 8 false (by decide)).symm.trans h),
      fun h => ⟨(c9 ((hO 9 false (by decide)).symm.trans h)).1, (c9 ((hO 9 false (by decide)).symm.trans h)).2.1, (c9 ((hO 9 false (by decide)).symm.trans h)).2.2⟩,
      fun _ => ⟨(hO 9 false (by decide)).trans q9, rfl⟩,
      fun h => ⟨(c11 ((hO 11 false (by decide)).symm.trans h)).1, (c11 ((hO 11 false (by decide)).symm.trans h)).2.1, (c11 ((hO 11 false (by decide)).symm.trans h)).2.2⟩,
      fun h => ⟨(c12 ((hO 12 false (by decide)).symm.trans h)).1, (c12 ((hO 12 false (by decide)).symm.trans h)).2.1, (c12 ((hO 12 false (by decide)).symm.trans h)).2.2⟩,
      fun h => ⟨(c13 ((hO 13 false (by decide)).symm.trans h)).1, (c13 ((hO 13 false (by decide)).symm.trans h)).2.1, (c13 ((hO 13 false (by decide)).symm.trans h)).2.2⟩,
      fun h h2 => z11 ((hO 11 false (by decide)).symm.trans h) ((hO 14 false (by decide)).symm.trans h2),
      fun h h2 => z12 ((hO 12 false (by decide)).symm.trans h) ((hO 15 false (by decide)).symm.trans h2),
      fun h h2 => z13 ((hO 13 false (by decide)).symm.trans h) ((hO 16 false (by decide)).symm.trans h2),
      fun h => ⟨(hO 11 false (by decide)).trans (e11 ((hO 14 false (by decide)).symm.trans h)).1, (hO 2 false (by decide)).trans (e11 ((hO 14 false (by decide)).symm.trans h)).2.1, (e11 ((hO 14 false (by decide)).symm.trans h)).2.2⟩,
      fun h => ⟨(hO 12 false (by decide)).trans (e12 ((hO 15 false (by decide)).symm.trans h)).1, (hO 5 false (by decide)).trans (e12 ((hO 15 false (by decide)).symm.trans h)).2.1, (e12 ((hO 15 false (by decide)).symm.trans h)).2.2⟩,
      fun h => absurd (e13 ((hO 16 false (by decide)).symm.trans h)).2.1 (by rw [hf]; decide),
      fun h1 h2 => d11_1 ((hO 11 false (by decide)).symm.trans h1) ((hO 1 false (by decide)).symm.trans h2),
      fun h1 h2 => d11_4 ((hO 11 false (by decide)).symm.trans h1) ((hO 4 false (by decide)).symm.trans h2),
      fun h1 h2 => d11_9 ((hO 11 false (by decide)).symm.trans h1) ((hO 9 false (by decide)).symm.trans h2),
      fun h1 h2 => d11_12 ((hO 11 false (by decide)).symm.trans h1) ((hO 12 false (by decide)).symm.trans h2),
      fun h1 h2 => d11_13 ((hO 11 false (by decide)).symm.trans h1) ((hO 13 false (by decide)).symm.trans h2),
      fun h1 h2 => d12_1 ((hO 12 false (by decide)).symm.trans h1) ((hO 1 false (by decide)).symm.trans h2),
      fun h1 h2 => d12_4 ((hO 12 false (by decide)).symm.trans h1) ((hO 4 false (by decide)).symm.trans h2),
      fun h1 h2 => d12_9 ((hO 12 false (by decide)).symm.trans h1) ((hO 9 false (by decide)).symm.trans h2),
      fun h1 h2 => d12_13 ((hO 12 false (by decide)).symm.trans h1) ((hO 13 false (by decide)).symm.trans h2),
      fun h1 h2 => d13_1 ((hO 13 false (by decide)).symm.trans h1) ((hO 1 false (by decide)).symm.trans h2),
      fun h1 h2 => d13_4 ((hO 13 false (by decide)).symm.trans h1) ((hO 4 false (by decide)).symm.trans h2),
      fun h1 h2 => d13_9 ((hO 13 false (by decide)).symm.trans h1) ((hO 9 false (by decide)).symm.trans h2)⟩

set_option maxHeartbeats 1000000 in
set_option maxRecDepth 100000 in
theorem step12_11 {w0 : World} {t : Nat → Value} {x y : EV} {G : Nat} {l : Array Bool} {a : Act} {w : World} (rA : Row1 w0 G x) (rB : Row1 w0 (G + 1) y) (h8 : t 8 = .pointer (some ⟨G, 0, none⟩)) (h9 : t 9 = .pointer (some ⟨G + 1, 0, none⟩)) (hJ : J12 w0 t x y l a w) (hn : l.getD 11 true = false) (Q : Exit → Act → World → Prop) :
    wpOp Tryd.prog OPS12 Q 11 (J12 w0 t x y (l.setIfInBounds 11 true)) a w := by
  obtain ⟨hsz, hB, s15, s16, s17, s67, s68, s69, s70, s71, s72, s73, s74, s75, s76, s77, b1, b4, b9, b11, b12, b13, rfl, c0, c1, c2, c3, c4, c5, c6, c7, c8, c9, c10, c11, c12, c13, z11, z12, z13, e11, e12, e13, d11_1, d11_4, d11_9, d11_12, d11_13, d12_1, d12_4, d12_9, d12_13, d13_1, d13_4, d13_9⟩ := hJ
  obtain ⟨hlt, hf⟩ := getD_tf hn
  have hO : ∀ j b, 11 ≠ j → (l.setIfInBounds 11 true).getD j b = l.getD j b := fun j b h => (getD_set l 11 j hlt b).trans (if_neg h)
  refine op_val (o := { dst := some 15, op := Op.alloc 35, type := 0, pos := "law.go:223", after := #[], guard := none }) (v := .pointer (some ⟨w.heap.size, 0, none⟩)) (w1 := w.alloc (zb)) rfl rfl ?_ ?_
  · go_simp
  · refine ⟨by simp [hsz], hB.alloc hB.size _, .pointer (some ⟨w.heap.size, 0, none⟩), s16, s17, s67, s68, s69, s70, s71, s72, s73, s74, s75, s76, s77, b1, b4, b9, w.heap.size, b12, b13, rfl, ?_⟩
    exact ⟨fun h => c0 ((hO 0 false (by decide)).symm.trans h),
      fun h => ⟨(c1 ((hO 1 false (by decide)).symm.trans h)).1, blk_alloc ((c1 ((hO 1 false (by decide)).symm.trans h)).2.1) _, (c1 ((hO 1 false (by decide)).symm.trans h)).2.2⟩,
      fun h => ⟨(hO 1 false (by decide)).trans (c2 ((hO 2 false (by decide)).symm.trans h)).1, (c2 ((hO 2 false (by decide)).symm.trans h)).2⟩,
      fun h => c3 ((hO 3 false (by decide)).symm.trans h),
      fun h => ⟨(c4 ((hO 4 false (by decide)).symm.trans h)).1, blk_alloc ((c4 ((hO 4 false (by decide)).symm.trans h)).2.1) _, (c4 ((hO 4 false (by decide)).symm.trans h)).2.2⟩,
      fun h => ⟨(hO 4 false (by decide)).trans (c5 ((hO 5 false (by decide)).symm.trans h)).1, (c5 ((hO 5 false (by decide)).symm.trans h)).2⟩,
      fun h => c6 ((hO 6 false (by decide)).symm.trans h),
      fun h => c7 ((hO 7 false (by decide)).symm.trans h),
      fun h => c8 ((hO 8 false (by decide)).symm.trans h),
      fun h => ⟨(c9 ((hO 9 false (by decide)).symm.trans h)).1, blk_alloc ((c9 ((hO 9 false (by decide)).symm.trans h)).2.1) _, (c9 ((hO 9 false (by decide)).symm.trans h)).2.2⟩,
      fun h => ⟨(hO 9 false (by decide)).trans (c10 ((hO 10 false (by decide)).symm.trans h)).1, (c10 ((hO 10 false (by decide)).symm.trans h)).2⟩,
      fun _ => ⟨rfl, by rw [alloc_size]; omega, hB.size⟩,
      fun h => ⟨(c12 ((hO 12 false (by decide)).symm.trans h)).1, by rw [alloc_size]; exact Nat.lt_succ_of_lt (c12 ((hO 12 false (by decide)).symm.trans h)).2.1, (c12 ((hO 12 false (by decide)).symm.trans h)).2.2⟩,
      fun h => ⟨(c13 ((hO 13 false (by decide)).symm.trans h)).1, by rw [alloc_size]; exact Nat.lt_succ_of_lt (c13 ((hO 13 false (by decide)).symm.trans h)).2.1, (c13 ((hO 13 false (by decide)).symm.trans h)).2.2⟩,
      fun _ _ => ZB.new _,
      fun h h2 => blk_alloc (z12 ((hO 12 false (by decide)).symm.trans h) ((hO 15 false (by decide)).symm.trans h2)) _,
      fun h h2 => blk_alloc (z13 ((hO 13 false (by decide)).symm.trans h) ((hO 16 false (by decide)).symm.trans h2)) _,
      fun h => absurd (e11 ((hO 14 false (by decide)).symm.trans h)).1 (by rw [hf]; decide),
      fun h => ⟨(hO 12 false (by decide)).trans (e12 ((hO 15 false (by decide)).symm.trans h)).1, (hO 5 false (by decide)).trans (e12 ((hO 15 false (by decide)).symm.trans h)).2.1, blk_alloc ((e12 ((hO 15 false (by decide)).symm.trans h)).2.2) _⟩,
      fun h => ⟨(hO 13 false (by decide)).trans (e13 ((hO 16 false (by decide)).symm.trans h)).1, (hO 10 false (by decide)).trans (e13 ((hO 16 false (by decide)).symm.trans h)).2.1, blk_alloc ((e13 ((hO 16 false (by decide)).symm.trans h)).2.2) _⟩,
      fun h1 h2 => by have := lt_heap (c1 ((hO 1 false (by decide)).symm.trans h2)).2.1; omega,
      fun h1 h2 => by have := lt_heap (c4 ((hO 4 false (by decide)).symm.trans h2)).2.1; omega,
      fun h1 h2 => by have := lt_heap (c9 ((hO 9 false (by decide)).symm.trans h2)).2.1; omega,
      fun h1 h2 => by have := (c12 ((hO 12 false (by decide)).symm.trans h2)).2.1; omega,
      fun h1 h2 => by have := (c13 ((hO 13 false (by decide)).symm.trans h2)).2.1; omega,
      fun h1 h2 => d12_1 ((hO 12 false (by decide)).symm.trans h1) ((hO 1 false (by decide)).symm.trans h2),
      fun h1 h2 => d12_4 ((hO 12 false (by decide)).symm.trans h1) ((hO 4 false (by decide)).symm.trans h2),
      fun h1 h2 => d12_9 ((hO 12 false (by decide)).symm.trans h1) ((hO 9 false (by decide)).symm.trans h2),
      fun h1 h2 => d12_13 ((hO 12 false (by decide)).symm.trans h1) ((hO 13 false (by decide)).symm.trans h2),
      fun h1 h2 => d13_1 ((hO 13 false (by decide)).symm.trans h1) ((hO 1 false (by decide)).symm.trans h2),
      fun h1 h2 => d13_4 ((hO 13 false (by decide)).symm.trans h1) ((hO 4 false (by decide)).symm.trans h2),
      fun h1 h2 => d13_9 ((hO 13 false (by decide)).symm.trans h1) ((hO 9 false (by decide)).symm.trans h2)⟩

set_option maxHeartbeats 1000000 in
set_option maxRecDepth 100000 in
theorem step12_12 {w0 : World} {t : Nat → Value} {x y : EV} {G : Nat} {l : Array Bool} {a : Act} {w : World} (rA : Row1 w0 G x) (rB : Row1 w0 (G + 1) y) (h8 : t 8 = .pointer (some ⟨G, 0, none⟩)) (h9 : t 9 = .pointer (some ⟨G + 1, 0, none⟩)) (hJ : J12 w0 t x y l a w) (hn : l.getD 12 true = false) (Q : Exit → Act → World → Prop) :
    wpOp Tryd.prog OPS12 Q 12 (J12 w0 t x y (l.setIfInBounds 12 true)) a w := by
  obtain ⟨hsz, hB, s15, s16, s17, s67, s68, s69, s70, s71, s72, s73, s74, s75, s76, s77, b1, b4, b9, b11, b12, b13, rfl, c0, c1, c2, c3, c4, c5, c6, c7, c8, c9, c10, c11, c12, c13, z11, z12, z13, e11, e12, e13, d11_1, d11_4, d11_9, d11_12, d11_13, d12_1, d12_4, d12_9, d12_13, d13_1, d13_4, d13_9⟩ := hJ
  obtain ⟨hlt, hf⟩ := getD_tf hn
  have hO : ∀ j b, 12 ≠ j → (l.setIfInBounds 12 true).getD j b = l.getD j b := fun j b h => (getD_set l 12 j hlt b).trans (if_neg h)
  refine op_val (o := { dst := some 16, op := Op.alloc 35, type := 0, pos := "law.go:223", after := #[], guard := none }) (v := .pointer (some ⟨w.heap.size, 0, none⟩)) (w1 := w.alloc (zb)) rfl rfl ?_ ?_
  · go_simp
  · refine ⟨by simp [hsz], hB.alloc hB.size _, s15, .pointer (some ⟨w.heap.size, 0, none⟩), s17, s67, s68, s69, s70, s71, s72, s73, s74, s75, s76, s77, b1, b4, b9, b11, w.heap.size, b13, rfl, ?_⟩
    exact ⟨fun h => c0 ((hO 0 false (by decide)).symm.trans h),
      fun h => ⟨(c1 ((hO 1 false (by decide)).symm.trans h)).1, blk_alloc ((c1 ((hO 1 false (by decide)).symm.trans h)).2.1) _, (c1 ((hO 1 false (by decide)).symm.trans h)).2.2⟩,
      fun h => ⟨(hO 1 false (by decide)).trans (c2 ((hO 2 false (by decide)).symm.trans h)).1, (c2 ((hO 2 false (by decide)).symm.trans h)).2⟩,
      fun h => c3 ((hO 3 false (by decide)).symm.trans h),
      fun h => ⟨(c4 ((hO 4 false (by decide)).symm.trans h)).1, blk_alloc ((c4 ((hO 4 false (by decide)).symm.trans h)).2.1) _, (c4 ((hO 4 false (by decide)).symm.trans h)).2.2⟩,
      fun h => ⟨(hO 4 false (by decide)).trans (c5 ((hO 5 false (by decide)).symm.trans h)).1, (c5 ((hO 5 false (by decide)).symm.trans h)).2⟩,
      fun h => c6 ((hO 6 false (by decide)).symm.trans h),
      fun h => c7 ((hO 7 false (by decide)).symm.trans h),
      fun h => c8 ((hO 8 false (by decide)).symm.trans h),
      fun h => ⟨(c9 ((hO 9 false (by decide)).symm.trans h)).1, blk_alloc ((c9 ((hO 9 false (by decide)).symm.trans h)).2.1) _, (c9 ((hO 9 false (by decide)).symm.trans h)).2.2⟩,
      fun h => ⟨(hO 9 false (by decide)).trans (c10 ((hO 10 false (by decide)).symm.trans h)).1, (c10 ((hO 10 false (by decide)).symm.trans h)).2⟩,
      fun h => ⟨(c11 ((hO 11 false (by decide)).symm.trans h)).1, by rw [alloc_size]; exact Nat.lt_succ_of_lt (c11 ((hO 11 false (by decide)).symm.trans h)).2.1, (c11 ((hO 11 false (by decide)).symm.trans h)).2.2⟩,
      fun _ => ⟨rfl, by rw [alloc_size]; omega, hB.size⟩,
      fun h => ⟨(c13 ((hO 13 false (by decide)).symm.trans h)).1, by rw [alloc_size]; exact Nat.lt_succ_of_lt (c13 ((hO 13 false (by decide)).symm.trans h)).2.1, (c13 ((hO 13 false (by decide)).symm.trans h)).2.2⟩,
      fun h h2 => blk_alloc (z11 ((hO 11 false (by decide)).symm.trans h) ((hO 14 false (by decide)).symm.trans h2)) _,
      fun _ _ => ZB.new _,
      fun h h2 => blk_alloc (z13 ((hO 13 false (by decide)).symm.trans h) ((hO 16 false (by decide)).symm.trans h2)) _,
      fun h => ⟨(hO 11 false (by decide)).trans (e11 ((hO 14 false (by decide)).symm.trans h)).1, (hO 2 false (by decide)).trans (e11 ((hO 14 false (by decide)).symm.trans h)).2.1, blk_alloc ((e11 ((hO 14 false (by decide)).symm.trans h)).2.2) _⟩,
      fun h => absurd (e12 ((hO 15 false (by decide)).symm.trans h)).1 (by rw [hf]; decide),
      fun h => ⟨(hO 13 false (by decide)).trans (e13 ((hO 16 false (by decide)).symm.trans h)).1, (hO 10 false (by decide)).trans (e13 ((hO 16 false (by decide)).symm.trans h)).2.1, blk_alloc ((e13 ((hO 16 false (by decide)).symm.trans h)).2.2) _⟩,
      fun h1 h2 => d11_1 ((hO 11 false (by decide)).symm.trans h1) ((hO 1 false (by decide)).symm.trans h2),
      fun h1 h2 => d11_4 ((hO 11 false (by decide)).symm.trans h1) ((hO 4 false (by decide)).symm.trans h2),
      fun h1 h2 => d11_9 ((hO 11 false (by decide)).symm.trans h1) ((hO 9 false (by decide)).symm.trans h2),
      fun h1 h2 => by have := (c11 ((hO 11 false (by decide)).symm.trans h1)).2.1; omega,
      fun h1 h2 => d11_13 ((hO 11 false (by decide)).symm.trans h1) ((hO 13 false (by decide)).symm.trans h2),
      fun h1 h2 => by have := lt_heap (c1 ((hO 1 false (by decide)).symm.trans h2)).2.1; omega,
      fun h1 h2 => by have := lt_heap (c4 ((hO 4 false (by decide)).symm.trans h2)).2.1; omega,
      fun h1 h2 => by have := lt_heap (c9 ((hO 9 false (by decide)).symm.trans h2)).2.1; omega,
      fun h1 h2 => by have := (c13 ((hO 13 false (by decide)).symm.trans h2)).2.1; omega,
      fun h1 h2 => d13_1 ((hO 13 false (by decide)).symm.trans h1) ((hO 1 false (by decide)).symm.trans h2),
      fun h1 h2 => d13_4 ((hO 13 false (by decide)).symm.trans h1) ((hO 4 false (by decide)).symm.trans h2),
      fun h1 h2 => d13_9 ((hO 13 false (by decide)).symm.trans h1) ((hO 9 false (by decide)).symm.trans h2)⟩

set_option maxHeartbeats 1000000 in
set_option maxRecDepth 100000 in
theorem step12_13 {w0 : World} {t : Nat → Value} {x y : EV} {G : Nat} {l : Array Bool} {a : Act} {w : World} (rA : Row1 w0 G x) (rB : Row1 w0 (G + 1) y) (h8 : t 8 = .pointer (some ⟨G, 0, none⟩)) (h9 : t 9 = .pointer (some ⟨G + 1, 0, none⟩)) (hJ : J12 w0 t x y l a w) (hn : l.getD 13 true = false) (Q : Exit → Act → World → Prop) :
    wpOp Tryd.prog OPS12 Q 13 (J12 w0 t x y (l.setIfInBounds 13 true)) a w := by
  obtain ⟨hsz, hB, s15, s16, s17, s67, s68, s69, s70, s71, s72, s73, s74, s75, s76, s77, b1, b4, b9, b11, b12, b13, rfl, c0, c1, c2, c3, c4, c5, c6, c7, c8, c9, c10, c11, c12, c13, z11, z12, z13, e11, e12, e13, d11_1, d11_4, d11_9, d11_12, d11_13, d12_1, d12_4, d12_9, d12_13, d13_1, d13_4, d13_9⟩ := hJ
  obtain ⟨hlt, hf⟩ := getD_tf hn
  have hO : ∀ j b, 13 ≠ j → (l.setIfInBounds 13 true).getD j b = l.getD j b := fun j b h => (getD_set l 13 j hlt b).trans (if_neg h)
  refine op_val (o := { dst := some 17, op := Op.alloc 35, type := 0, pos := "law.go:223", after := #[], guard := none }) (v := .pointer (some ⟨w.heap.size, 0, none⟩)) (w1 := w.alloc (zb)) rfl rfl ?_ ?_
  · go_simp
  · refine ⟨by simp [hsz], hB.alloc hB.size _, s15, s16, .pointer (some ⟨w.heap.size, 0, none⟩), s67, s68, s69, s70, s71, s72, s73, s74, s75, s76, s77, b1, b4, b9, b11, b12, w.heap.size, rfl, ?_⟩
    exact ⟨fun h => c0 ((hO 0 false (by decide)).symm.trans h),
      fun h => ⟨(c1 ((hO 1 false (by decide)).symm.trans h)).1, blk_alloc ((c1 ((hO 1 false (by decide)).symm.trans h)).2.1) _, (c1 ((hO 1 false (by decide)).symm.trans h)).2.2⟩,
      fun h => ⟨(hO 1 false (by decide)).trans (c2 ((hO 2 false (by decide)).symm.trans h)).1, (c2 ((hO 2 false (by decide)).symm.trans h)).2⟩,
      fun h => c3 ((hO 3 false (by decide)).symm.trans h),
      fun h => ⟨(c4 ((hO 4 false (by decide)).symm.trans h)).1, blk_alloc ((c4 ((hO 4 false (by decide)).symm.trans h)).2.1) _, (c4 ((hO 4 false (by decide)).symm.trans h)).2.2⟩,
      fun h => ⟨(hO 4 false (by decide)).trans (c5 ((hO 5 false (by decide)).symm.trans h)).1, (c5 ((hO 5 false (by decide)).symm.trans h)).2⟩,
      fun h => c6 ((hO 6 false (by decide)).symm.trans h),
      fun h => c7 ((hO 7 false (by decide)).symm.trans h),
      fun h => c8 ((hO 8 false (by decide)).symm.trans h),
      fun h => ⟨(c9 ((hO 9 false (by decide)).symm.trans h)).1, blk_alloc ((c9 ((hO 9 false (by decide)).symm.trans h)).2.1) _, (c9 ((hO 9 false (by decide)).symm.trans h)).2.2⟩,
      fun h => ⟨(hO 9 false (by decide)).trans (c10 ((hO 10 false (by decide)).symm.trans h)).1, (c10 ((hO 10 false (by decide)).symm.trans h)).2⟩,
      fun h => ⟨(c11 ((hO 11 false (by decide)).symm.trans h)).1, by rw [alloc_size]; exact Nat.lt_succ_of_lt (c11 ((hO 11 false (by decide)).symm.trans h)).2.1, (c11 ((hO 11 false (by decide)).symm.trans h)).2.2⟩,
      fun h => ⟨(c12 ((hO 12 false (by decide)).symm.trans h)).1, by rw [alloc_size]; exact Nat.lt_succ_of_lt (c12 ((hO 12 false (by decide)).symm.trans h)).2.1, (c12 ((hO 12 false (by decide)).symm.trans h)).2.2⟩,
      fun _ => ⟨rfl, by rw [alloc_size]; omega, hB.size⟩,
      fun h h2 => blk_alloc (z11 ((hO 11 false (by decide)).symm.trans h) ((hO 14 false (by decide)).symm.trans h2)) _,
      fun h h2 => blk_alloc (z12 ((hO 12 false (by decide)).symm.trans h) ((hO 15 false (by decide)).symm.trans h2)) _,
      fun _ _ => ZB.new _,
      fun h => ⟨(hO 11 false (by decide)).trans (e11 ((hO 14 false (by decide)).symm.trans h)).1, (hO 2 false (by decide)).trans (e11 ((hO 14 false (by decide)).symm.trans h)).2.1, blk_alloc ((e11 ((hO 14 false (by decide)).symm.trans h)).2.2) _⟩,
      fun h => ⟨(hO 12 false (by decide)).trans (e12 ((hO 15 false (by decide)).symm.trans h)).1, (hO 5 false (by decide)).trans (e12 ((hO 15 false (by decide)).symm.trans h)).2.1, blk_alloc ((e12 ((hO 15 false (by decide)).symm.trans h)).2.2) _⟩,
      fun h => absurd (e13 ((hO 16 false (by decide)).symm.trans h)).1 (by rw [hf]; decide),
      fun h1 h2 => d11_1 ((hO 11 false (by decide)).symm.trans h1) ((hO 1 false (by decide)).symm.trans h2),
      fun h1 h2 => d11_4 ((hO 11 false (by decide)).symm.trans h1) ((hO 4 false (by decide)).symm.trans h2),
      fun h1 h2 => d11_9 ((hO 11 false (by decide)).symm.trans h1) ((hO 9 false (by decide)).symm.trans h2),
      fun h1 h2 => d11_12 ((hO 11 false (by decide)).symm.trans h1) ((hO 12 false (by decide)).symm.trans h2),
      fun h1 h2 => by have := (c11 ((hO 11 false (by decide)).symm.trans h1)).2.1; omega,
      fun h1 h2 => d12_1 ((hO 12 false (by decide)).symm.trans h1) ((hO 1 false (by decide)).symm.trans h2),
      fun h1 h2 => d12_4 ((hO 12 false (by decide)).symm.trans h1) ((hO 4 false (by decide)).symm.trans h2),
      fun h1 h2 => d12_9 ((hO 12 false (by decide)).symm.trans h1) ((hO 9 false (by decide)).symm.trans h2),
      fun h1 h2 => by have := (c12 ((hO 12 false (by decide)).symm.trans h1)).2.1; omega,
      fun h1 h2 => by have := lt_heap (c1 ((hO 1 false (by decide)).symm.trans h2)).2.1; omega,
      fun h1 h2 => by have := lt_heap (c4 ((hO 4 false (by decide)).symm.trans h2)).2.1; omega,
      fun h1 h2 => by have := lt_heap (c9 ((hO 9 false (by decide)).symm.trans h2)).2.1; omega⟩

set_option maxHeartbeats 1000000 in
set_option maxRecDepth 100000 in
theorem step12_14 {w0 : World} {t : Nat → Value} {x y : EV} {G : Nat} {l : Array Bool} {a : Act} {w : World} (rA : Row1 w0 G x) (rB : Row1 w0 (G + 1) y) (h8 : t 8 = .pointer (some ⟨G, 0, none⟩)) (h9 : t 9 = .pointer (some ⟨G + 1, 0, none⟩)) (hJ : J12 w0 t x y l a w) (hn : l.getD 14 true = false) (q0 : l.getD 0 false = true) (q1 : l.getD 1 false = true) (q2 : l.getD 2 false = true) (q11 : l.getD 11 false = true) (q12 : l.getD 12 false = true) (q13 : l.getD 13 false = true) (Q : Exit → Act → World → Prop) :
    wpOp Tryd.prog OPS12 Q 14 (J12 w0 t x y (l.setIfInBounds 14 true)) a w := by
  obtain ⟨hsz, hB, s15, s16, s17, s67, s68, s69, s70, s71, s72, s73, s74, s75, s76, s77, b1, b4, b9, b11, b12, b13, rfl, c0, c1, c2, c3, c4, c5, c6, c7, c8, c9, c10, c11, c12, c13, z11, z12, z13, e11, e12, e13, d11_1, d11_4, d11_9, d11_12, d11_13, d12_1, d12_4, d12_9, d12_13, d13_1, d13_4, d13_9⟩ := hJ
  obtain ⟨hlt, hf⟩ := getD_tf hn
  have hO : ∀ j b, 14 ≠ j → (l.setIfInBounds 14 true).getD j b = l.getD j b := fun j b h => (getD_set l 14 j hlt b).trans (if_neg h)
  obtain ⟨rfl, p1, p2⟩ := c11 q11
  obtain ⟨pd, rfl⟩ := c2 q2
  have hz := z11 q11 hf
  obtain ⟨z, ⟨g0, g1, g2, g3, g4, g5⟩, f0, f1, f2, f3, f4, f5⟩ := hz.facts
  refine op_skip (o := { dst := none, op := Op.store 35 (Operand.tmp 15) (Operand.tmp 69), type := 0, pos := "law.go:223", after := #[{ on := 11, ground := Ground.data }, { on := 2, ground := Ground.data }, { on := 0, ground := Ground.phase }, { on := 1, ground := Ground.phase }, { on := 2, ground := Ground.phase }, { on := 3, ground := Ground.textOnly Departure.lateStores }, { on := 4, ground := Ground.textOnly Departure.lateStores }, { on := 5, ground := Ground.textOnly Departure.lateStores }, { on := 6, ground := Ground.textOnly Departure.lateStores }, { on := 7, ground := Ground.textOnly Departure.lateStores }, { on := 8, ground := Ground.textOnly Departure.lateStores }, { on := 9, ground := Ground.textOnly Departure.lateStores }, { on := 10, ground := Ground.textOnly Departure.lateStores }, { on := 11, ground := Ground.phase }, { on := 12, ground := Ground.phase }, { on := 13, ground := Ground.phase }], guard := none }) (w1 := put6 w b11 ⟨4, 0, ⟨#[]⟩, 0, some ⟨b1, 0, none⟩, 1⟩) rfl rfl ?_ ?_
  · go_simp
  · refine ⟨by simp [hsz], put6_below hB p2 _, .pointer (some ⟨b11, 0, none⟩), s16, s17, s67, s68, EV.val ⟨4, 0, ⟨#[]⟩, 0, some ⟨b1, 0, none⟩, 1⟩, s70, s71, s72, s73, s74, s75, s76, s77, b1, b4, b9, b11, b12, b13, rfl, ?_⟩
    exact ⟨fun h => c0 ((hO 0 false (by decide)).symm.trans h),
      fun h => ⟨(c1 ((hO 1 false (by decide)).symm.trans h)).1, (put6_other _ _ _ _ (d11_1 q11 ((hO 1 false (by decide)).symm.trans h)).symm).trans ((c1 ((hO 1 false (by decide)).symm.trans h)).2.1), (c1 ((hO 1 false (by decide)).symm.trans h)).2.2⟩,
      fun h => ⟨(hO 1 false (by decide)).trans (c2 ((hO 2 false (by decide)).symm.trans h)).1, (c2 ((hO 2 false (by decide)).symm.trans h)).2⟩,
      fun h => c3 ((hO 3 false (by decide)).symm.trans h),
      fun h => ⟨(c4 ((hO 4 false (by decide)).symm.trans h)).1, (put6_other _ _ _ _ (d11_4 q11 ((hO 4 false (by decide)).symm.trans h)).symm).trans ((c4 ((hO 4 false (by decide)).symm.trans h)).2.1), (c4 ((hO 4 false (by decide)).symm.trans h)).2.2⟩,
      fun h => ⟨(hO 4 false (by decide)).trans (c5 ((hO 5 false (by decide)).symm.trans h)).1, (c5 ((hO 5 false (by decide)).symm.trans h)).2⟩,
      fun h => c6 ((hO 6 false (by decide)).symm.trans h),
      fun h => c7 ((hO 7 false (by decide)).symm.trans h),
      fun h => c8 ((hO 8 false (by decide)).symm.trans h),
      fun h => ⟨(c9 ((hO 9 false (by decide)).symm.trans h)).1, (put6_other _ _ _ _ (d11_9 q11 ((hO 9 false (by decide)).symm.trans h)).symm).trans ((c9 ((hO 9 false (by decide)).symm.trans h)).2.1), (c9 ((hO 9 false (by decide)).symm.trans h)).2.2⟩,
      fun h => ⟨(hO 9 false (by decide)).trans (c10 ((hO 10 false (by decide)).symm.trans h)).1, (c10 ((hO 10 false (by decide)).symm.trans h)).2⟩,
      fun h => ⟨(c11 ((hO 11 false (by decide)).symm.trans h)).1, by rw [put6_size]; exact (c11 ((hO 11 false (by decide)).symm.trans h)).2.1, (c11 ((hO 11 false (by decide)).symm.trans h)).2.2⟩,
      fun h => ⟨(c12 ((hO 12 false (by decide)).symm.trans h)).1, by rw [put6_size]; exact (c12 ((hO 12 false (by decide)).symm.trans h)).2.1, (c12 ((hO 12 false (by decide)).symm.trans h)).2.2⟩,
      fun h => ⟨(c13 ((hO 13 false (by decide)).symm.trans h)).1, by rw [put6_size]; exact (c13 ((hO 13 false (by decide)).symm.trans h)).2.1, (c13 ((hO 13 false (by decide)).symm.trans h)).2.2⟩,
      fun _ h2 => absurd h2 (by rw [getD_set l 14 14 hlt false, if_pos rfl]; decide),
      fun h h2 => (put6_other _ _ _ _ (d11_12 q11 ((hO 12 false (by decide)).symm.trans h)).symm).trans (z12 ((hO 12 false (by decide)).symm.trans h) ((hO 15 false (by decide)).symm.trans h2)),
      fun h h2 => (put6_other _ _ _ _ (d11_13 q11 ((hO 13 false (by decide)).symm.trans h)).symm).trans (z13 ((hO 13 false (by decide)).symm.trans h) ((hO 16 false (by decide)).symm.trans h2)),
      fun _ => ⟨(hO 11 false (by decide)).trans q11, (hO 2 false (by decide)).trans q2, put6_row hz _⟩,
      fun h => ⟨(hO 12 false (by decide)).trans (e12 ((hO 15 false (by decide)).symm.trans h)).1, (hO 5 false (by decide)).trans (e12 ((hO 15 false (by decide)).symm.trans h)).2.1, (put6_other _ _ _ _ (d11_12 q11 (e12 ((hO 15 false (by decide)).symm.trans h)).1).symm).trans ((e12 ((hO 15 false (by decide)).symm.trans h)).2.2)⟩,
      fun h => ⟨(hO 13 false (by decide)).trans (e13 ((hO 16 false (by decide)).symm.trans h)).1, (hO 10 false (by decide)).trans (e13 ((hO 16 false (by decide)).symm.trans h)).2.1, (put6_other _ _ _ _ (d11_13 q11 (e13 ((hO 16 false (by decide)).symm.trans h)).1).symm).trans ((e13 ((hO 16 false (by decide)).symm.trans h)).2.2)⟩,
      fun h1 h2 => d11_1 ((hO 11 false (by decide)).symm.trans h1) ((hO 1 false (by decide)).symm.trans h2),
      fun h1 h2 => d11_4 ((hO 11 false (by decide)).symm.trans h1) ((hO 4 false (by decide)).symm.trans h2),
      fun h1 h2 => d11_9 ((hO 11 false (by decide)).symm.trans h1) ((hO 9 false (by decide)).symm.trans h2),
      fun h1 h2 => d11_12 ((hO 11 false (by decide)).symm.trans h1) ((hO 12 false (by decide)).symm.trans h2),
      fun h1 h2 => d11_13 ((hO 11 false (by decide)).symm.trans h1) ((hO 13 false (by decide)).symm.trans h2),
      fun h1 h2 => d12_1 ((hO 12 false (by decide)).symm.trans h1) ((hO 1 false (by decide)).symm.trans h2),
      fun h1 h2 => d12_4 ((hO 12 false (by decide)).symm.trans h1) ((hO 4 false (by decide)).symm.trans h2),
      fun h1 h2 => d12_9 ((hO 12 false (by decide)).symm.trans h1) ((hO 9 false (by decide)).symm.trans h2),
      fun h1 h2 => d12_13 ((hO 12 false (by decide)).symm.trans h1) ((hO 13 false (by decide)).symm.trans h2),
      fun h1 h2 => d13_1 ((hO 13 false (by decide)).symm.trans h1) ((hO 1 false (by decide)).symm.trans h2),
      fun h1 h2 => d13_4 ((hO 13 false (by decide)).symm.trans h1) ((hO 4 false (by decide)).symm.trans h2),
      fun h1 h2 => d13_9 ((hO 13 false (by decide)).symm.trans h1) ((hO 9 false (by decide)).symm.trans h2)⟩

set_option maxHeartbeats 1000000 in
set_option maxRecDepth 100000 in
theorem step12_15 {w0 : World} {t : Nat → Value} {x y : EV} {G : Nat} {l : Array Bool} {a : Act} {w : World} (rA : Row1 w0 G x) (rB : Row1 w0 (G + 1) y) (h8 : t 8 = .pointer (some ⟨G, 0, none⟩)) (h9 : t 9 = .pointer (some ⟨G + 1, 0, none⟩)) (hJ : J12 w0 t x y l a w) (hn : l.getD 15 true = false) (q0 : l.getD 0 false = true) (q1 : l.getD 1 false = true) (q2 : l.getD 2 false = true) (q3 : l.getD 3 false = true) (q4 : l.getD 4 false = true) (q5 : l.getD 5 false = true) (q11 : l.getD 11 false = true) (q12 : l.getD 12 false = true) (q13 : l.getD 13 false = true) (q14 : l.getD 14 false = true) (Q : Exit → Act → World → Prop) :
    wpOp Tryd.prog OPS12 Q 15 (J12 w0 t x y (l.setIfInBounds 15 true)) a w := by
  obtain ⟨hsz, hB, s15, s16, s17, s67, s68, s69, s70, s71, s72, s73, s74, s75, s76, s77, b1, b4, b9, b11, b12, b13, rfl, c0, c1, c2, c3, c4, c5, c6, c7, c8, c9, c10, c11, c12, c13, z11, z12, z13, e11, e12, e13, d11_1, d11_4, d11_9, d11_12, d11_13, d12_1, d12_4, d12_9, d12_13, d13_1, d13_4, d13_9⟩ := hJ
  obtain ⟨hlt, hf⟩ := getD_tf hn
  have hO : ∀ j b, 15 ≠ j → (l.setIfInBounds 15 true).getD j b = l.getD j b := fun j b h => (getD_set l 15 j hlt b).trans (if_neg h)
  obtain ⟨rfl, p1, p2⟩ := c12 q12
  obtain ⟨pd, rfl⟩ := c5 q5
  have hz := z12 q12 hf
  obtain ⟨z, ⟨g0, g1, g2, g3, g4, g5⟩, f0, f1, f2, f3, f4, f5⟩ := hz.facts
  refine op_skip (o := { dst := none, op := Op.store 35 (Operand.tmp 16) (Operand.tmp 72), type := 0, pos := "law.go:223", after := #[{ on := 12, ground := Ground.data }, { on := 5, ground := Ground.data }, { on := 14, ground := Ground.chain }, { on := 0, ground := Ground.phase }, { on := 1, ground := Ground.phase }, { on := 2, ground := Ground.phase }, { on := 3, ground := Ground.phase }, { on := 4, ground := Ground.phase }, { on := 5, ground := Ground.phase }, { on := 6, ground := Ground.textOnly Departure.lateStores }, { on := 7, ground := Ground.textOnly Departure.lateStores }, { on := 8, ground := Ground.textOnly Departure.lateStores }, { on := 9, ground := Ground.textOnly Departure.lateStores }, { on := 10, ground := Ground.textOnly Departure.lateStores }, { on := 11, ground := Ground.phase }, { on := 12, ground := Ground.phase }, { on := 13, ground := Ground.phase }, { on := 14, ground := Ground.phase }], guard := none }) (w1 := put6 w b12 ⟨2, 0, ⟨#[110]⟩, 0, some ⟨b4, 0, none⟩, 1⟩) rfl rfl ?_ ?_
  · go_simp
  · refine ⟨by simp [hsz], put6_below hB p2 _, s15, .pointer (some ⟨b12, 0, none⟩), s17, s67, s68, s69, s70, s71, EV.val ⟨2, 0, ⟨#[110]⟩, 0, some ⟨b4, 0, none⟩, 1⟩, s73, s74, s75, s76, s77, b1, b4, b9, b11, b12, b13, rfl, ?_⟩
    exact ⟨fun h => c0 ((hO 0 false (by decide)).symm.trans h),
      fun h => ⟨(c1 ((hO 1 false (by decide)).symm.trans h)).1, (put6_other _ _ _ _ (d12_1 q12 ((hO 1 false (by decide)).symm.trans h)).symm).trans ((c1 ((hO 1 false (by decide)).symm.trans h)).2.1), (c1 ((hO 1 false (by decide)).symm.trans h)).2.2⟩,
      fun h => ⟨(hO 1 false (by decide)).trans (c2 ((hO 2 false (by decide)).symm.trans h)).1, (c2 ((hO 2 false (by decide)).symm.trans h)).2⟩,
      fun h => c3 ((hO 3 false (by decide)).symm.trans h),
      fun h => ⟨(c4 ((hO 4 false (by decide)).symm.trans h)).1, (put6_other _ _ _ _ (d12_4 q12 ((hO 4 false (by decide)).symm.trans h)).symm).trans ((c4 ((hO 4 false (by decide)).symm.trans h)).2.1), (c4 ((hO 4 false (by decide)).symm.trans h)).2.2⟩,
      fun h => ⟨(hO 4 false (by decide)).trans (c5 ((hO 5 false (by decide)).symm.trans h)).1, (c5 ((hO 5 false (by decide)).symm.trans h)).2⟩,
      fun h => c6 ((hO 6 false (by decide)).symm.trans h),
      fun h => c7 ((hO 7 false (by decide)).symm.trans h),
      fun h => c8 ((hO 8 false (by decide)).symm.trans h),
      fun h => ⟨(c9 ((hO 9 false (by decide)).symm.trans h)).1, (put6_other _ _ _ _ (d12_9 q12 ((hO 9 false (by decide)).symm.trans h)).symm).trans ((c9 ((hO 9 false (by decide)).symm.trans h)).2.1), (c9 ((hO 9 false (by decide)).symm.trans h)).2.2⟩,
      fun h => ⟨(hO 9 false (by decide)).trans (c10 ((hO 10 false (by decide)).symm.trans h)).1, (c10 ((hO 10 false (by decide)).symm.trans h)).2⟩,
      fun h => ⟨(c11 ((hO 11 false (by decide)).symm.trans h)).1, by rw [put6_size]; exact (c11 ((hO 11 false (by decide)).symm.trans h)).2.1, (c11 ((hO 11 false (by decide)).symm.trans h)).2.2⟩,
      fun h => ⟨(c12 ((hO 12 false (by decide)).symm.trans h)).1, by rw [put6_size]; exact (c12 ((hO 12 false (by decide)).symm.trans h)).2.1, (c12 ((hO 12 false (by decide)).symm.trans h)).2.2⟩,
      fun h => ⟨(c13 ((hO 13 false (by decide)).symm.trans h)).1, by rw [put6_size]; exact (c13 ((hO 13 false (by decide)).symm.trans h)).2.1, (c13 ((hO 13 false (by decide)).symm.trans h)).2.2⟩,
      fun h h2 => (put6_other _ _ _ _ (d11_12 ((hO 11 false (by decide)).symm.trans h) q12)).trans (z11 ((hO 11 false (by decide)).symm.trans h) ((hO 14 false (by decide)).symm.trans h2)),
      fun _ h2 => absurd h2 (by rw [getD_set l 15 15 hlt false, if_pos rfl]; decide),
      fun h h2 => (put6_other _ _ _ _ (d12_13 q12 ((hO 13 false (by decide)).symm.trans h)).symm).trans (z13 ((hO 13 false (by decide)).symm.trans h) ((hO 16 false (by decide)).symm.trans h2)),
      fun h => ⟨(hO 11 false (by decide)).trans (e11 ((hO 14 false (by decide)).symm.trans h)).1, (hO 2 false (by decide)).trans (e11 ((hO 14 false (by decide)).symm.trans h)).2.1, (put6_other _ _ _ _ (d11_12 (e11 ((hO 14 false (by decide)).symm.trans h)).1 q12)).trans ((e11 ((hO 14 false (by decide)).symm.trans h)).2.2)⟩,
      fun _ => ⟨(hO 12 false (by decide)).trans q12, (hO 5 false (by decide)).trans q5, put6_row hz _⟩,
      fun h => ⟨(hO 13 false (by decide)).trans (e13 ((hO 16 false (by decide)).symm.trans h)).1, (hO 10 false (by decide)).trans (e13 ((hO 16 false (by decide)).symm.trans h)).2.1, (put6_other _ _ _ _ (d12_13 q12 (e13 ((hO 16 false (by decide)).symm.trans h)).1).symm).trans ((e13 ((hO 16 false (by decide)).symm.trans h)).2.2)⟩,
      fun h1 h2 => d11_1 ((hO 11 false (by decide)).symm.trans h1) ((hO 1 false (by decide)).symm.trans h2),
      fun h1 h2 => d11_4 ((hO 11 false (by decide)).symm.trans h1) ((hO 4 false (by decide)).symm.trans h2),
      fun h1 h2 => d11_9 ((hO 11 false (by decide)).symm.trans h1) ((hO 9 false (by decide)).symm.trans h2),
      fun h1 h2 => d11_12 ((hO 11 false (by decide)).symm.trans h1) ((hO 12 false (by decide)).symm.trans h2),
      fun h1 h2 => d11_13 ((hO 11 false (by decide)).symm.trans h1) ((hO 13 false (by decide)).symm.trans h2),
      fun h1 h2 => d12_1 ((hO 12 false (by decide)).symm.trans h1) ((hO 1 false (by decide)).symm.trans h2),
      fun h1 h2 => d12_4 ((hO 12 false (by decide)).symm.trans h1) ((hO 4 false (by decide)).symm.trans h2),
      fun h1 h2 => d12_9 ((hO 12 false (by decide)).symm.trans h1) ((hO 9 false (by decide)).symm.trans h2),
      fun h1 h2 => d12_13 ((hO 12 false (by decide)).symm.trans h1) ((hO 13 false (by decide)).symm.trans h2),
      fun h1 h2 => d13_1 ((hO 13 false (by decide)).symm.trans h1) ((hO 1 false (by decide)).symm.trans h2),
      fun h1 h2 => d13_4 ((hO 13 false (by decide)).symm.trans h1) ((hO 4 false (by decide)).symm.trans h2),
      fun h1 h2 => d13_9 ((hO 13 false (by decide)).symm.trans h1) ((hO 9 false (by decide)).symm.trans h2)⟩

set_option maxHeartbeats 1000000 in
set_option maxRecDepth 100000 in
theorem step12_16 {w0 : World} {t : Nat → Value} {x y : EV} {G : Nat} {l : Array Bool} {a : Act} {w : World} (rA : Row1 w0 G x) (rB : Row1 w0 (G + 1) y) (h8 : t 8 = .pointer (some ⟨G, 0, none⟩)) (h9 : t 9 = .pointer (some ⟨G + 1, 0, none⟩)) (hJ : J12 w0 t x y l a w) (hn : l.getD 16 true = false) (q0 : l.getD 0 false = true) (q1 : l.getD 1 false = true) (q2 : l.getD 2 false = true) (q3 : l.getD 3 false = true) (q4 : l.getD 4 false = true) (q5 : l.getD 5 false = true) (q6 : l.getD 6 false = true) (q7 : l.getD 7 false = true) (q8 : l.getD 8 false = true) (q9 : l.getD 9 false = true) (q10 : l.getD 10 false = true) (q11 : l.getD 11 false = true) (q12 : l.getD 12 false = true) (q13 : l.getD 13 false = true) (q14 : l.getD 14 false = true) (q15 : l.getD 15 false = true) (Q : Exit → Act → World → Prop) :
    wpOp Tryd.prog OPS12 Q 16 (J12 w0 t x y (l.setIfInBounds 16 true)) a w := by
  obtain ⟨hsz, hB, s15, s16, s17, s67, s68, s69, s70, s71, s72, s73, s74, s75, s76, s77, b1, b4, b9, b11, b12, b13, rfl, c0, c1, c2, c3, c4, c5, c6, c7, c8, c9, c10, c11, c12, c13, z11, z12, z13, e11, e12, e13, d11_1, d11_4, d11_9, d11_12, d11_13, d12_1, d12_4, d12_9, d12_13, d13_1, d13_4, d13_9⟩ := hJ
  obtain ⟨hlt, hf⟩ := getD_tf hn
  have hO : ∀ j b, 16 ≠ j → (l.setIfInBounds 16 true).getD j b = l.getD j b := fun j b h => (getD_set l 16 j hlt b).trans (if_neg h)
  obtain ⟨rfl, p1, p2⟩ := c13 q13
  obtain ⟨pd, rfl⟩ := c10 q10
  have hz := z13 q13 hf
  obtain ⟨z, ⟨g0, g1, g2, g3, g4, g5⟩, f0, f1, f2, f3, f4, f5⟩ := hz.facts
  refine op_skip (o := { dst := none, op := Op.store 35 (Operand.tmp 17) (Operand.tmp 77), type := 0, pos := "law.go:223", after := #[{ on := 13, ground := Ground.data }, { on := 10, ground := Ground.data }, { on := 15, ground := Ground.chain }, { on := 0, ground := Ground.phase }, { on := 1, ground := Ground.phase }, { on := 2, ground := Ground.phase }, { on := 3, ground := Ground.phase }, { on := 4, ground := Ground.phase }, { on := 5, ground := Ground.phase }, { on := 6, ground := Ground.phase }, { on := 7, ground := Ground.phase }, { on := 8, ground := Ground.phase }, { on := 9, ground := Ground.phase }, { on := 10, ground := Ground.phase }, { on := 11, ground := Ground.phase }, { on := 12, ground := Ground.phase }, { on := 13, ground := Ground.phase }, { on := 14, ground := Ground.phase }, { on := 15, ground := Ground.phase }], guard := none }) (w1 := put6 w b13 ⟨5, 0, ⟨#[]⟩, 0, some ⟨b9, 0, none⟩, 3⟩) rfl rfl ?_ ?_
  · go_simp
  · refine ⟨by simp [hsz], put6_below hB p2 _, s15, s16, .pointer (some ⟨b13, 0, none⟩), s67, s68, s69, s70, s71, s72, s73, s74, s75, s76, EV.val ⟨5, 0, ⟨#[]⟩, 0, some ⟨b9, 0, none⟩, 3⟩, b1, b4, b9, b11, b12, b13, rfl, ?_⟩
    exact ⟨fun h => c0 ((hO 0 false (by decide)).symm.trans h),
      fun h => ⟨(c1 ((hO 1 false (by decide)).symm.trans h)).1, (put6_other _ _ _ _ (d13_1 q13 ((hO 1 false (by decide)).symm.trans h)).symm).trans ((c1 ((hO 1 false (by decide)).symm.trans h)).2.1), (c1 ((hO 1 false (by decide)).symm.trans h)).2.2⟩,
      fun h => ⟨(hO 1 false (by decide)).trans (c2 ((hO 2 false (by decide)).symm.trans h)).1, (c2 ((hO 2 false (by decide)).symm.trans h)).2⟩,
      fun h => c3 ((hO 3 false (by decide)).symm.trans h),
      fun h => ⟨(c4 ((hO 4 false (by decide)).symm.trans h)).1, (put6_other _ _ _ _ (d13_4 q13 ((hO 4 false (by decide)).symm.trans h)).symm).trans ((c4 ((hO 4 false (by decide)).symm.trans h)).2.1), (c4 ((hO 4 false (by decide)).symm.trans h)).2.2⟩,
      fun h => ⟨(hO 4 false (by decide)).trans (c5 ((hO 5 false (by decide)).symm.trans h)).1, (c5 ((hO 5 false (by decide)).symm.trans h)).2⟩,
      fun h => c6 ((hO 6 false (by decide)).symm.trans h),
      fun h => c7 ((hO 7 false (by decide)).symm.trans h),
      fun h => c8 ((hO 8 false (by decide)).symm.trans h),
      fun h => ⟨(c9 ((hO 9 false (by decide)).symm.trans h)).1, (put6_other _ _ _ _ (d13_9 q13 ((hO 9 false (by decide)).symm.trans h)).symm).trans ((c9 ((hO 9 false (by decide)).symm.trans h)).2.1), (c9 ((hO 9 false (by decide)).symm.trans h)).2.2⟩,
      fun h => ⟨(hO 9 false (by decide)).trans (c10 ((hO 10 false (by decide)).symm.trans h)).1, (c10 ((hO 10 false (by decide)).symm.trans h)).2⟩,
      fun h => ⟨(c11 ((hO 11 false (by decide)).symm.trans h)).1, by rw [put6_size]; exact (c11 ((hO 11 false (by decide)).symm.trans h)).2.1, (c11 ((hO 11 false (by decide)).symm.trans h)).2.2⟩,
      fun h => ⟨(c12 ((hO 12 false (by decide)).symm.trans h)).1, by rw [put6_size]; exact (c12 ((hO 12 false (by decide)).symm.trans h)).2.1, (c12 ((hO 12 false (by decide)).symm.trans h)).2.2⟩,
      fun h => ⟨(c13 ((hO 13 false (by decide)).symm.trans h)).1, by rw [put6_size]; exact (c13 ((hO 13 false (by decide)).symm.trans h)).2.1, (c13 ((hO 13 false (by decide)).symm.trans h)).2.2⟩,
      fun h h2 => (put6_other _ _ _ _ (d11_13 ((hO 11 false (by decide)).symm.trans h) q13)).trans (z11 ((hO 11 false (by decide)).symm.trans h) ((hO 14 false (by decide)).symm.trans h2)),
      fun h h2 => (put6_other _ _ _ _ (d12_13 ((hO 12 false (by decide)).symm.trans h) q13)).trans (z12 ((hO 12 false (by decide)).symm.trans h) ((hO 15 false (by decide)).symm.trans h2)),
      fun _ h2 => absurd h2 (by rw [getD_set l 16 16 hlt false, if_pos rfl]; decide),
      fun h => ⟨(hO 11 false (by decide)).trans (e11 ((hO 14 false (by decide)).symm.trans h)).1, (hO 2 false (by decide)).trans (e11 ((hO 14 false (by decide)).symm.trans h)).2.1, (put6_other _ _ _ _ (d11_13 (e11 ((hO 14 false (by decide)).symm.trans h)).1 q13)).trans ((e11 ((hO 14 false (by decide)).symm.trans h)).2.2)⟩,
      fun h => ⟨(hO 12 false (by decide)).trans (e12 ((hO 15 false (by decide)).symm.trans h)).1, (hO 5 false (by decide)).trans (e12 ((hO 15 false (by decide)).symm.trans h)).2.1, (put6_other _ _ _ _ (d12_13 (e12 ((hO 15 false (by decide)).symm.trans h)).1 q13)).trans ((e12 ((hO 15 false (by decide)).symm.trans h)).2.2)⟩,
      fun _ => ⟨(hO 13 false (by decide)).trans q13, (hO 10 false (by decide)).trans q10, put6_row hz _⟩,
      fun h1 h2 => d11_1 ((hO 11 false (by decide)).symm.trans h1) ((hO 1 false (by decide)).symm.trans h2),
      fun h1 h2 => d11_4 ((hO 11 false (by decide)).symm.trans h1) ((hO 4 false (by decide)).symm.trans h2),
      fun h1 h2 => d11_9 ((hO 11 false (by decide)).symm.trans h1) ((hO 9 false (by decide)).symm.trans h2),
      fun h1 h2 => d11_12 ((hO 11 false (by decide)).symm.trans h1) ((hO 12 false (by decide)).symm.trans h2),
      fun h1 h2 => d11_13 ((hO 11 false (by decide)).symm.trans h1) ((hO 13 false (by decide)).symm.trans h2),
      fun h1 h2 => d12_1 ((hO 12 false (by decide)).symm.trans h1) ((hO 1 false (by decide)).symm.trans h2),
      fun h1 h2 => d12_4 ((hO 12 false (by decide)).symm.trans h1) ((hO 4 false (by decide)).symm.trans h2),
      fun h1 h2 => d12_9 ((hO 12 false (by decide)).symm.trans h1) ((hO 9 false (by decide)).symm.trans h2),
      fun h1 h2 => d12_13 ((hO 12 false (by decide)).symm.trans h1) ((hO 13 false (by decide)).symm.trans h2),
      fun h1 h2 => d13_1 ((hO 13 false (by decide)).symm.trans h1) ((hO 1 false (by decide)).symm.trans h2),
      fun h1 h2 => d13_4 ((hO 13 false (by decide)).symm.trans h1) ((hO 4 false (by decide)).symm.trans h2),
      fun h1 h2 => d13_9 ((hO 13 false (by decide)).symm.trans h1) ((hO 9 false (by decide)).symm.trans h2)⟩

theorem ready_mem {l : Array Bool} (hl : l.size = 17) {i : Nat} (hi : i < 17) (hn : l.getD i false = false) (hd : ((OPS12[i]?).map (·.after.all fun e => !Region.binds .any e || l.getD e.on false)).getD false = true) : i ∈ Region.ready .any OPS12 l := by
  unfold Region.ready
  rw [List.mem_filter]
  refine ⟨List.mem_range.2 hi, ?_⟩
  have : l.getD i true = false := by
    have h : i < l.size := by omega
    simp [h] at hn ⊢
    exact hn
  rw [this, hd]
  rfl
theorem all12 {l : Array Bool} (hl : l.size = 17) (hr : Region.ready .any OPS12 l = []) : l.getD 0 false = true ∧ l.getD 1 false = true ∧ l.getD 2 false = true ∧ l.getD 3 false = true ∧ l.getD 4 false = true ∧ l.getD 5 false = true ∧ l.getD 6 false = true ∧ l.getD 7 false = true ∧ l.getD 8 false = true ∧ l.getD 9 false = true ∧ l.getD 10 false = true ∧ l.getD 11 false = true ∧ l.getD 12 false = true ∧ l.getD 13 false = true ∧ l.getD 14 false = true ∧ l.getD 15 false = true ∧ l.getD 16 false = true := by
  have q0 : l.getD 0 false = true := by
    refine Classical.byContradiction fun hc => ?_
    have hm := ready_mem hl (i := 0) (by decide) (by simpa using hc) (by simp only [OPS12]; simp [Region.binds, -Array.getD_eq_getD_getElem?])
    rw [hr] at hm
    cases hm
  have q1 : l.getD 1 false = true := by
    refine Classical.byContradiction fun hc => ?_
    have hm := ready_mem hl (i := 1) (by decide) (by simpa using hc) (by simp only [OPS12]; simp [Region.binds, -Array.getD_eq_getD_getElem?, q0])
    rw [hr] at hm
    cases hm
  have q2 : l.getD 2 false = true := by
    refine Classical.byContradiction fun hc => ?_
    have hm := ready_mem hl (i := 2) (by decide) (by simpa using hc) (by simp only [OPS12]; simp [Region.binds, -Array.getD_eq_getD_getElem?, q1])
    rw [hr] at hm
    cases hm
  have q3 : l.getD 3 false = true := by
    refine Classical.byContradiction fun hc => ?_
    have hm := ready_mem hl (i := 3) (by decide) (by simpa using hc) (by simp only [OPS12]; simp [Region.binds, -Array.getD_eq_getD_getElem?])
    rw [hr] at hm
    cases hm
  have q4 : l.getD 4 false = true := by
    refine Classical.byContradiction fun hc => ?_
    have hm := ready_mem hl (i := 4) (by decide) (by simpa using hc) (by simp only [OPS12]; simp [Region.binds, -Array.getD_eq_getD_getElem?, q3])
    rw [hr] at hm
    cases hm
  have q5 : l.getD 5 false = true := by
    refine Classical.byContradiction fun hc => ?_
    have hm := ready_mem hl (i := 5) (by decide) (by simpa using hc) (by simp only [OPS12]; simp [Region.binds, -Array.getD_eq_getD_getElem?, q4])
    rw [hr] at hm
    cases hm
  have q6 : l.getD 6 false = true := by
    refine Classical.byContradiction fun hc => ?_
    have hm := ready_mem hl (i := 6) (by decide) (by simpa using hc) (by simp only [OPS12]; simp [Region.binds, -Array.getD_eq_getD_getElem?])
    rw [hr] at hm
    cases hm
  have q7 : l.getD 7 false = true := by
    refine Classical.byContradiction fun hc => ?_
    have hm := ready_mem hl (i := 7) (by decide) (by simpa using hc) (by simp only [OPS12]; simp [Region.binds, -Array.getD_eq_getD_getElem?])
    rw [hr] at hm
    cases hm
  have q8 : l.getD 8 false = true := by
    refine Classical.byContradiction fun hc => ?_
    have hm := ready_mem hl (i := 8) (by decide) (by simpa using hc) (by simp only [OPS12]; simp [Region.binds, -Array.getD_eq_getD_getElem?])
    rw [hr] at hm
    cases hm
  have q9 : l.getD 9 false = true := by
    refine Classical.byContradiction fun hc => ?_
    have hm := ready_mem hl (i := 9) (by decide) (by simpa using hc) (by simp only [OPS12]; simp [Region.binds, -Array.getD_eq_getD_getElem?, q6, q7, q8])
    rw [hr] at hm
    cases hm
  have q10 : l.getD 10 false = true := by
    refine Classical.byContradiction fun hc => ?_
    have hm := ready_mem hl (i := 10) (by decide) (by simpa using hc) (by simp only [OPS12]; simp [Region.binds, -Array.getD_eq_getD_getElem?, q9])
    rw [hr] at hm
    cases hm
  have q11 : l.getD 11 false = true := by
    refine Classical.byContradiction fun hc => ?_
    have hm := ready_mem hl (i := 11) (by decide) (by simpa using hc) (by simp only [OPS12]; simp [Region.binds, -Array.getD_eq_getD_getElem?])
    rw [hr] at hm
    cases hm
  have q12 : l.getD 12 false = true := by
    refine Classical.byContradiction fun hc => ?_
    have hm := ready_mem hl (i := 12) (by decide) (by simpa using hc) (by simp only [OPS12]; simp [Region.binds, -Array.getD_eq_getD_getElem?])
    rw [hr] at hm
    cases hm
  have q13 : l.getD 13 false = true := by
    refine Classical.byContradiction fun hc => ?_
    have hm := ready_mem hl (i := 13) (by decide) (by simpa using hc) (by simp only [OPS12]; simp [Region.binds, -Array.getD_eq_getD_getElem?])
    rw [hr] at hm
    cases hm
  have q14 : l.getD 14 false = true := by
    refine Classical.byContradiction fun hc => ?_
    have hm := ready_mem hl (i := 14) (by decide) (by simpa using hc) (by simp only [OPS12]; simp [Region.binds, -Array.getD_eq_getD_getElem?, q0, q1, q2, q11, q12, q13])
    rw [hr] at hm
    cases hm
  have q15 : l.getD 15 false = true := by
    refine Classical.byContradiction fun hc => ?_
    have hm := ready_mem hl (i := 15) (by decide) (by simpa using hc) (by simp only [OPS12]; simp [Region.binds, -Array.getD_eq_getD_getElem?, q0, q1, q2, q3, q4, q5, q11, q12, q13, q14])
    rw [hr] at hm
    cases hm
  have q16 : l.getD 16 false = true := by
    refine Classical.byContradiction fun hc => ?_
    have hm := ready_mem hl (i := 16) (by decide) (by simpa using hc) (by simp only [OPS12]; simp [Region.binds, -Array.getD_eq_getD_getElem?, q0, q1, q2, q3, q4, q5, q6, q7, q8, q9, q10, q11, q12, q13, q14, q15])
    rw [hr] at hm
    cases hm
  exact ⟨q0, q1, q2, q3, q4, q5, q6, q7, q8, q9, q10, q11, q12, q13, q14, q15, q16⟩

theorem count_set {l : Array Bool} {i : Nat} (h : i < l.size) (hf : l.getD i false = false) : (l.setIfInBounds i true).toList.count false + 1 = l.toList.count false := by
  have he : l.toList[i]'(by simpa using h) = false := by simpa [h] using hf
  rw [Array.toList_setIfInBounds, List.count_set (by simpa using h)]
  have hp : 0 < l.toList.count false := List.count_pos_iff.2 (by rw [← he]; exact List.getElem_mem _)
  rw [he, if_pos (by rfl), if_neg (by decide)]
  omega
theorem ready_nil {l : Array Bool} (hl : l.size = 17) (hc : l.toList.count false = 0) : Region.ready .any OPS12 l = [] := by
  unfold Region.ready
  rw [List.filter_eq_nil_iff]
  intro i hi
  have hi' : i < 17 := List.mem_range.1 hi
  have hlt : i < l.size := by omega
  have : l.getD i true = true := by
    cases h : l.getD i true with
    | true => rfl
    | false =>
      exfalso
      have hm : false ∈ l.toList := by
        have e : l.toList[i]'(by simpa using hlt) = false := by simpa [hlt] using h
        rw [← e]
        exact List.getElem_mem _
      exact absurd hm (List.count_eq_zero.1 hc)
  rw [this]
  simp

theorem any12 {w0 : World} {t : Nat → Value} {x y : EV} {G : Nat} {Q : Exit → Act → World → Prop} (rA : Row1 w0 G x) (rB : Row1 w0 (G + 1) y) (h8 : t 8 = .pointer (some ⟨G, 0, none⟩)) (h9 : t 9 = .pointer (some ⟨G + 1, 0, none⟩))
    (hQ : ∀ l a w, l.size = 17 → (l.getD 0 false = true ∧ l.getD 1 false = true ∧ l.getD 2 false = true ∧ l.getD 3 false = true ∧ l.getD 4 false = true ∧ l.getD 5 false = true ∧ l.getD 6 false = true ∧ l.getD 7 false = true ∧ l.getD 8 false = true ∧ l.getD 9 false = true ∧ l.getD 10 false = true ∧ l.getD 11 false = true ∧ l.getD 12 false = true ∧ l.getD 13 false = true ∧ l.getD 14 false = true ∧ l.getD 15 false = true ∧ l.getD 16 false = true) → J12 w0 t x y l a w → Q .normal a w) : ∀ (fuel : Nat) (l : Array Bool) (a : Act) (w : World), l.toList.count false = fuel → J12 w0 t x y l a w → wpAny Tryd.prog .any OPS12 Q fuel l a w := by
  intro fuel
  induction fuel with
  | zero =>
    intro l a w hc hJ
    have hr := ready_nil hJ.1 hc
    exact ⟨hr, hQ l a w hJ.1 (all12 hJ.1 hr) hJ⟩
  | succ fuel ih =>
    intro l a w hc hJ
    refine ⟨fun hr => hQ l a w hJ.1 (all12 hJ.1 hr) hJ, fun i hi => ?_⟩
    have hi2 : i < l.size ∧ l.getD i false = false := by
      unfold Region.ready at hi
      rw [List.mem_filter] at hi
      have h := hi.2
      simp only [Bool.and_eq_true, Bool.not_eq_true'] at h
      exact getD_tf h.1
    have hcs := count_set hi2.1 hi2.2
    refine wpOp_mono (fun a w h => ih _ a w (by omega) h) ?_
    rcases ready12 hi with ⟨rfl, hn⟩ | ⟨rfl, hn, q0⟩ | ⟨rfl, hn, q1⟩ | ⟨rfl, hn⟩ | ⟨rfl, hn, q3⟩ | ⟨rfl, hn, q4⟩ | ⟨rfl, hn⟩ | ⟨rfl, hn⟩ | ⟨rfl, hn⟩ | ⟨rfl, hn, q6, q7, q8⟩ | ⟨rfl, hn, q9⟩ | ⟨rfl, hn⟩ | ⟨rfl, hn⟩ | ⟨rfl, hn⟩ | ⟨rfl, hn, q0, q1, q2, q11, q12, q13⟩ | ⟨rfl, hn, q0, q1, q2, q3, q4, q5, q11, q12, q13, q14⟩ | ⟨rfl, hn, q0, q1, q2, q3, q4, q5, q6, q7, q8, q9, q10, q11, q12, q13, q14, q15⟩
    · exact step12_0 rA rB h8 h9 hJ hn Q
    · exact step12_1 rA rB h8 h9 hJ hn q0 Q
    · exact step12_2 rA rB h8 h9 hJ hn q1 Q
    · exact step12_3 rA rB h8 h9 hJ hn Q
    · exact step12_4 rA rB h8 h9 hJ hn q3 Q
    · exact step12_5 rA rB h8 h9 hJ hn q4 Q
    · exact step12_6 rA rB h8 h9 hJ hn Q
    · exact step12_7 rA rB h8 h9 hJ hn Q
    · exact step12_8 rA rB h8 h9 hJ hn Q
    · exact step12_9 rA rB h8 h9 hJ hn q6 q7 q8 Q
    · exact step12_10 rA rB h8 h9 hJ hn q9 Q
    · exact step12_11 rA rB h8 h9 hJ hn Q
    · exact step12_12 rA rB h8 h9 hJ hn Q
    · exact step12_13 rA rB h8 h9 hJ hn Q
    · exact step12_14 rA rB h8 h9 hJ hn q0 q1 q2 q11 q12 q13 Q
    · exact step12_15 rA rB h8 h9 hJ hn q0 q1 q2 q3 q4 q5 q11 q12 q13 q14 Q
    · exact step12_16 rA rB h8 h9 hJ hn q0 q1 q2 q3 q4 q5 q6 q7 q8 q9 q10 q11 q12 q13 q14 q15 Q

theorem region12 {w0 : World} {x y : EV} {G : Nat} {Q : Exit → Act → World → Prop} (t : Nat → Value) (s15 s16 s17 s67 s68 s69 s70 s71 s72 s73 s74 s75 s76 s77 : Value) (rA : Row1 w0 G x) (rB : Row1 w0 (G + 1) y) (h8 : t 8 = .pointer (some ⟨G, 0, none⟩)) (h9 : t 9 = .pointer (some ⟨G + 1, 0, none⟩))
    (hQ : ∀ (s67 s68 s69 s70 s71 s72 s73 s74 s75 s76 s77 : Value) (b1 b4 b9 b11 b12 b13 : Nat) (w' : World), Below w0.heap.size w0 w' → (w0.heap.size ≤ b1 ∧ w0.heap.size ≤ b4 ∧ w0.heap.size ≤ b9) → (Row1 w' b1 x ∧ Row1 w' b4 x ∧ Row3 w' b9 x y x) → (Row1 w' b11 ⟨4, 0, ⟨#[]⟩, 0, some ⟨b1, 0, none⟩, 1⟩ ∧ Row1 w' b12 ⟨2, 0, ⟨#[110]⟩, 0, some ⟨b4, 0, none⟩, 1⟩ ∧ Row1 w' b13 ⟨5, 0, ⟨#[]⟩, 0, some ⟨b9, 0, none⟩, 3⟩) → Q .normal (fr t (.pointer (some ⟨b11, 0, none⟩)) (.pointer (some ⟨b12, 0, none⟩)) (.pointer (some ⟨b13, 0, none⟩)) s67 s68 s69 s70 s71 s72 s73 s74 s75 s76 s77) w') :
    (Code.region 12 OPS12 true).wp Tryd.prog Q (fr t s15 s16 s17 s67 s68 s69 s70 s71 s72 s73 s74 s75 s76 s77) w0 := by
  refine wp_region_any (by kernel_rfl) ?_
  refine any12 (w0 := w0) (t := t) (x := x) (y := y) (G := G) rA rB h8 h9 ?_ _ _ _ _ (by rfl) ?_
  · rintro l a w hl ⟨q0, q1, q2, q3, q4, q5, q6, q7, q8, q9, q10, q11, q12, q13, q14, q15, q16⟩ ⟨hsz, hB, s15, s16, s17, s67, s68, s69, s70, s71, s72, s73, s74, s75, s76, s77, b1, b4, b9, b11, b12, b13, rfl, c0, c1, c2, c3, c4, c5, c6, c7, c8, c9, c10, c11, c12, c13, z11, z12, z13, e11, e12, e13, d11_1, d11_4, d11_9, d11_12, d11_13, d12_1, d12_4, d12_9, d12_13, d13_1, d13_4, d13_9⟩
    obtain ⟨rfl, _, _⟩ := c11 q11
    obtain ⟨rfl, _, _⟩ := c12 q12
    obtain ⟨rfl, _, _⟩ := c13 q13
    exact hQ s67 s68 s69 s70 s71 s72 s73 s74 s75 s76 s77 b1 b4 b9 b11 b12 b13 w hB ⟨(c1 q1).2.2, (c4 q4).2.2, (c9 q9).2.2⟩ ⟨(c1 q1).2.1, (c4 q4).2.1, (c9 q9).2.1⟩ ⟨(e11 q14).2.2, (e12 q15).2.2, (e13 q16).2.2⟩
  · have hF : ∀ j, (Array.replicate OPS12.size false).getD j false = false := fun j => by
      by_cases h : j < 17
      · simp [OPS12, h]
      · simp [OPS12, h]
    exact ⟨rfl, (Below.refl _ _).drew, s15, s16, s17, s67, s68, s69, s70, s71, s72, s73, s74, s75, s76, s77, 0, 0, 0, 0, 0, 0, rfl, fun h => absurd h (by rw [hF]; decide), fun h => absurd h (by rw [hF]; decide), fun h => absurd h (by rw [hF]; decide), fun h => absurd h (by rw [hF]; decide), fun h => absurd h (by rw [hF]; decide), fun h => absurd h (by rw [hF]; decide), fun h => absurd h (by rw [hF]; decide), fun h => absurd h (by rw [hF]; decide), fun h => absurd h (by rw [hF]; decide), fun h => absurd h (by rw [hF]; decide), fun h => absurd h (by rw [hF]; decide), fun h => absurd h (by rw [hF]; decide), fun h => absurd h (by rw [hF]; decide), fun h => absurd h (by rw [hF]; decide), fun h _ => absurd h (by rw [hF]; decide), fun h _ => absurd h (by rw [hF]; decide), fun h _ => absurd h (by rw [hF]; decide), fun h => absurd h (by rw [hF]; decide), fun h => absurd h (by rw [hF]; decide), fun h => absurd h (by rw [hF]; decide), fun h _ => absurd h (by rw [hF]; decide), fun h _ => absurd h (by rw [hF]; decide), fun h _ => absurd h (by rw [hF]; decide), fun h _ => absurd h (by rw [hF]; decide), fun h _ => absurd h (by rw [hF]; decide), fun h _ => absurd h (by rw [hF]; decide), fun h _ => absurd h (by rw [hF]; decide), fun h _ => absurd h (by rw [hF]; decide), fun h _ => absurd h (by rw [hF]; decide), fun h _ => absurd h (by rw [hF]; decide), fun h _ => absurd h (by rw [hF]; decide), fun h _ => absurd h (by rw [hF]; decide)⟩
#print axioms region12

set_option maxRecDepth 100000 in
theorem region12u {w0 : World} {x y : EV} {G : Nat} {Q : Exit → Act → World → Prop} {u0 u1 u2 u3 u4 u5 u6 u7 u10 u11 u12 u13 u14 u15 u16 u17 u18 u19 u20 u21 u22 u23 u24 u25 u26 u27 u28 u29 u30 u31 u32 u33 u34 u35 u36 u37 u38 u39 u40 u41 u42 u43 u44 u45 u46 u47 u48 u49 u50 u51 u52 u53 u54 u55 u56 u57 u58 u59 u60 u61 u62 u63 u64 u65 u66 u67 u68 u69 u70 u71 u72 u73 u74 u75 u76 u77 u78 u79 u80 u81 u82 u83 u84 u85 u86 u87 u88 u89 u90 u91 u92 u93 u94 u95 u96 u97 u98 u99 u100 u101 u102 u103 u104 u105 u106 u107 u108 u109 u110 u111 u112 u113 u114 u115 u116 u117 u118 : Value} (rA : Row1 w0 G x) (rB : Row1 w0 (G + 1) y)
    (hQ : ∀ (s67 s68 s69 s70 s71 s72 s73 s74 s75 s76 s77 : Value) (b1 b4 b9 b11 b12 b13 : Nat) (w' : World), Below w0.heap.size w0 w' → (w0.heap.size ≤ b1 ∧ w0.heap.size ≤ b4 ∧ w0.heap.size ≤ b9) → (Row1 w' b1 x ∧ Row1 w' b4 x ∧ Row3 w' b9 x y x) → (Row1 w' b11 ⟨4, 0, ⟨#[]⟩, 0, some ⟨b1, 0, none⟩, 1⟩ ∧ Row1 w' b12 ⟨2, 0, ⟨#[110]⟩, 0, some ⟨b4, 0, none⟩, 1⟩ ∧ Row1 w' b13 ⟨5, 0, ⟨#[]⟩, 0, some ⟨b9, 0, none⟩, 3⟩) → Q .normal ⟨#[u0, u1, u2, u3, u4, u5, u6, u7, .pointer (some ⟨G, 0, none⟩), .pointer (some ⟨G + 1, 0, none⟩), u10, u11, u12, u13, u14, .pointer (some ⟨b11, 0, none⟩), .pointer (some ⟨b12, 0, none⟩), .pointer (some ⟨b13, 0, none⟩), u18, u19, u20, u21, u22, u23, u24, u25, u26, u27, u28, u29, u30, u31, u32, u33, u34, u35, u36, u37, u38, u39, u40, u41, u42, u43, u44, u45, u46, u47, u48, u49, u50, u51, u52, u53, u54, u55, u56, u57, u58, u59, u60, u61, u62, u63, u64, u65, u66, s67, s68, s69, s70, s71, s72, s73, s74, s75, s76, s77, u78, u79, u80, u81, u82, u83, u84, u85, u86, u87, u88, u89, u90, u91, u92, u93, u94, u95, u96, u97, u98, u99, u100, u101, u102, u103, u104, u105, u106, u107, u108, u109, u110, u111, u112, u113, u114, u115, u116, u117, u118], []⟩ w') :
    (Code.region 12 OPS12 true).wp Tryd.prog Q ⟨#[u0, u1, u2, u3, u4, u5, u6, u7, .pointer (some ⟨G, 0, none⟩), .pointer (some ⟨G + 1, 0, none⟩), u10, u11, u12, u13, u14, u15, u16, u17, u18, u19, u20, u21, u22, u23, u24, u25, u26, u27, u28, u29, u30, u31, u32, u33, u34, u35, u36, u37, u38, u39, u40, u41, u42, u43, u44, u45, u46, u47, u48, u49, u50, u51, u52, u53, u54, u55, u56, u57, u58, u59, u60, u61, u62, u63, u64, u65, u66, u67, u68, u69, u70, u71, u72, u73, u74, u75, u76, u77, u78, u79, u80, u81, u82, u83, u84, u85, u86, u87, u88, u89, u90, u91, u92, u93, u94, u95, u96, u97, u98, u99, u100, u101, u102, u103, u104, u105, u106, u107, u108, u109, u110, u111, u112, u113, u114, u115, u116, u117, u118], []⟩ w0 :=
  region12 (fun i => (#[u0, u1, u2, u3, u4, u5, u6, u7, .pointer (some ⟨G, 0, none⟩), .pointer (some ⟨G + 1, 0, none⟩), u10, u11, u12, u13, u14, u15, u16, u17, u18, u19, u20, u21, u22, u23, u24, u25, u26, u27, u28, u29, u30, u31, u32, u33, u34, u35, u36, u37, u38, u39, u40, u41, u42, u43, u44, u45, u46, u47, u48, u49, u50, u51, u52, u53, u54, u55, u56, u57, u58, u59, u60, u61, u62, u63, u64, u65, u66, u67, u68, u69, u70, u71, u72, u73, u74, u75, u76, u77, u78, u79, u80, u81, u82, u83, u84, u85, u86, u87, u88, u89, u90, u91, u92, u93, u94, u95, u96, u97, u98, u99, u100, u101, u102, u103, u104, u105, u106, u107, u108, u109, u110, u111, u112, u113, u114, u115, u116, u117, u118] : Array Value).getD i undef) u15 u16 u17 u67 u68 u69 u70 u71 u72 u73 u74 u75 u76 u77 rA rB rfl rfl hQ
#print axioms region12u

end Go.Proofs.YthboknkpgbfmoaaDoor.PQ
