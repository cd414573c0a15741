/- The writer's statements. Written by mkst.py. -/
import Derived.Test.YtnihgifpfdlnhaaDoorWr
namespace Go.Proofs.YtnihgifpfdlnhaaDoor.PT
open Go.RowKit Go.Lib
set_option linter.unusedVariables false
set_option linter.unusedSimpArgs false

/-- The box of a statement. -/
abbrev sbox (x : SV) : Obj := .cells #[.int .i64 x.k, .string x.s, .slice x.eA x.en x.ec, .int .i64 x.n, .slice x.bA x.bn x.bc, .slice x.lA x.ln x.lc, .int .i64 x.p] TS
/-- The table stays wherever nothing below B has changed. -/
def TBB (B : Nat) (w : World) : Prop := ∀ w', Below B w w' → TB w'
theorem TBB.of {w : World} (h : TB w) : TBB w.heap.size w := fun _ hb => Go.Joins.tab_stays gTab h hb (Nat.le_refl _)
theorem TBB.next {B : Nat} {w w' : World} (h : TBB B w) (hb : Below B w w') : TBB B w' := fun _ hb' => h _ (hb.trans hb')
theorem new_at {w : World} {n : Nat} (o : Obj) (hn : n = w.heap.size) : (w.alloc o).heap[n]? = some o := by subst hn; exact blk_new _ _
theorem stayO {E : TypeId} {P : Nat → Prop} {b : Nat} {w w' : World} (h : OthersKept T8 (some b) w w') (hE : E ≠ T8) (hP : ∀ g, P g → g ≠ b) : Stay E P w w' := fun g cs hg hc => by
  rw [hc]
  exact h g _ hc (fun e => hP g hg (Option.some.inj e)) fun c fz e => hE (by injection e)
theorem sbox_cells {w w' : World} {bx : Nat} {x : SV} (h : w.heap[bx]? = some (sbox x)) (hb : Below w.heap.size w w') :
    (w'.cell? ⟨bx, 0, none⟩ = some (.int .i64 x.k) ∧ w'.cell? ⟨bx, 1, none⟩ = some (.string x.s) ∧ w'.cell? ⟨bx, 2, none⟩ = some (.slice x.eA x.en x.ec) ∧ w'.cell? ⟨bx, 3, none⟩ = some (.int .i64 x.n)) ∧ w'.cell? ⟨bx, 4, none⟩ = some (.slice x.bA x.bn x.bc) ∧ w'.cell? ⟨bx, 5, none⟩ = some (.slice x.lA x.ln x.lc) ∧ w'.cell? ⟨bx, 6, none⟩ = some (.int .i64 x.p) := by
  have h' := blk_below h hb
  exact ⟨⟨(blk_cell h' 0).trans rfl, (blk_cell h' 1).trans rfl, (blk_cell h' 2).trans rfl, (blk_cell h' 3).trans rfl⟩, (blk_cell h' 4).trans rfl, (blk_cell h' 5).trans rfl, (blk_cell h' 6).trans rfl⟩
theorem At.belowP {t : Tree} {P : Nat → Prop} {w w' : World} {e : EV} (h : At t P w e) (hb : Below w.heap.size w w') : At t P w' e := h.below hb

theorem FA.get {ts : List Tree} {P : Nat → Prop} {w : World} {ys : List EV} (h : FA ts P w ys) (k : Nat) (t : Tree) (hk : ts[k]? = some t) : ∃ y, ys[k]? = some y ∧ At t P w y := by
  induction ts generalizing ys k with
  | nil => simp at hk
  | cons u us ih =>
    obtain ⟨x, xs, rfl, ha, hr⟩ := h
    cases k with
    | zero => simp at hk; subst hk; exact ⟨x, rfl, ha⟩
    | succ k => simp at hk; obtain ⟨y, h1, h2⟩ := ih hr k hk; exact ⟨y, by simpa using h1, h2⟩
set_option maxHeartbeats 1000000 in
theorem value_calls (es : List Tree) (P : Nat → Prop) (x : SV) (k : Nat) (hk : k < 2) (w : World) (he : Es es P w x.eA x.en x.ec) (hok : ∀ t ∈ es, PT.ok t ∧ PT.bd t ≤ 1000000) (ht : TB w) :
    Calls Tryd.prog 68 #[x.val, .int .i64 k] w (Says w (valT es k)) := by
  obtain ⟨hn, ys, hf, hs⟩ := he
  have HX := Lib.hid (blk_new w (sbox x))
  have HB := Lib.hid ((Below.refl w.heap.size w).alloc (Nat.le_refl _) (sbox x))
  by_cases hlt : k < es.length
  · have hen : k < x.en := by rw [hn]; exact hlt
    obtain ⟨y, hy, hat⟩ := hf.get k es[k] (List.getElem?_eq_getElem hlt)
    obtain ⟨ho1, ho2⟩ := hok es[k] (List.getElem_mem hlt)
    rcases hs with ⟨_, h0, _, _⟩ | ⟨g, hA, hg, hc, hm, hr⟩
    · omega
    have hel := Row.elem (hr.below HB.out) k y hy
    obtain ⟨r, hrr⟩ : ∃ r, r = txt es[k] 0 := ⟨_, rfl⟩
    have HK := Lib.hid (expr_all es[k] y P (w.alloc (sbox x)) 0 (hat.below HB.out) ho1 ho2 (ht.below HB.out) (by omega) (by omega))
    have hv : valT es k = r := by rw [hrr]; unfold valT; rw [List.getElem?_eq_getElem hlt]
    rw [hv]
    rw [← hrr] at HK
    obtain ⟨xk, xs, eA, en, ec, xn, bA, bn, bc, lA, ln, lc, xp⟩ := x
    dsimp only at hA hc hen HX HB HK hel ⊢
    subst hA
    clear hf hr hat hok ho1 ho2 ht hy hm hn hrr hv
    obtain ⟨⟨e0, e1⟩, ⟨e2, e3⟩, e4, e5⟩ := hel
    rcases (show k = 0 ∨ k = 1 by omega) with rfl | rfl
    all_goals
      simp only [Nat.zero_mul, Nat.one_mul, Nat.zero_add, Nat.reduceMul, Nat.reduceAdd] at e0 e1 e2 e3 e4 e5
      go_enter Tryd.func68, Tryd.ntmps68
      go_wp2_with (go_at_call 19; refine HK.out.mono ?_; rintro e w' ⟨rfl, hb⟩)
      go_ret
      exact ⟨rfl, HB.out.trans (hb.mono HB.out.size)⟩
  · have hv : valT es k = ⟨#[63]⟩ := by unfold valT; rw [List.getElem?_eq_none (by omega)]
    rw [hv]
    have hen : x.en ≤ k := by omega
    obtain ⟨xk, xs, eA, en, ec, xn, bA, bn, bc, lA, ln, lc, xp⟩ := x
    dsimp only at hen HX HB ⊢
    clear hf hok ht hn hv
    rcases (show k = 0 ∨ k = 1 by omega) with rfl | rfl
    all_goals
      go_enter Tryd.func68, Tryd.ntmps68
      go_wp2
      go_ret
      exact ⟨rfl, (Below.refl _ _).alloc (Nat.le_refl _) _⟩

/-- A block's lines are written. -/
def BlkSays (c : Blk) : Prop := ∀ (B b : Nat) (l : List UInt8) (d : Nat) (A : Option Addr) (n cap : Nat) (P : Nat → Prop) (w : World), IsB B b (byteCells l) w → Bs c P w A n cap → (∀ g, P g → g ≠ b) → c.ok → TBB B w → l.length + c.bd d ≤ 70368744177664 → d + c.wt ≤ 1000 →
    Calls Tryd.prog 22 #[.pointer (some ⟨b, 0, none⟩), .slice A n cap, .int .i64 d] w (LPost B b (l ++ blkT c d) w)
/-- What a statement's writing asks. -/
structure SH (B b : Nat) (l : List UInt8) (d : Nat) (P : Nat → Prop) (w : World) (x : SV) (k : Nat) (s : ByteArray) (es : List Tree) (n : Int) (body els : Blk) : Prop where
  isb : IsB B b (byteCells l) w
  far : ∀ g, P g → g ≠ b
  fes : Es es P w x.eA x.en x.ec
  fbody : Bs body P w x.bA x.bn x.bc
  fels : Bs els P w x.lA x.ln x.lc
  ok : (∀ t ∈ es, PT.ok t ∧ PT.bd t ≤ 1000000) ∧ 0 ≤ n ∧ n < 1000000 ∧ body.ok ∧ els.ok
  tbb : TBB B w
  len : l.length + (100 + 3 * d + s.size + tb es + body.bd (d + 1) + els.bd (d + 1)) ≤ 70368744177664
  deep : d + 1 + body.wt + els.wt ≤ 1000
  xk : x.k = k
  xs : x.s = s
  xn : x.n = n
def SSays (k : Nat) (s : ByteArray) (es : List Tree) (n : Int) (body els : Blk) : Prop := ∀ (B b : Nat) (l : List UInt8) (d : Nat) (P : Nat → Prop) (w : World) (x : SV), SH B b l d P w x k s es n body els →
    Calls Tryd.prog 44 #[.pointer (some ⟨b, 0, none⟩), x.val, .int .i64 d] w (LPost B b (l ++ stT k s es n (blkT body (d + 1)) (blkT els (d + 1)) els.ne d) w)
theorem LPost.of {B b : Nat} {m : List UInt8} {w w1 w2 : World} {e : Ending} (hb : Below w.heap.size w w1) (hB : B ≤ w.heap.size) (h : LPost B b m w1 e w2) : LPost B b m w e w2 :=
  ⟨h.1, h.2.1, (hb.mono hB).trans h.2.2.1, (kept_below hb).trans h.2.2.2⟩
theorem LPost.step {B b : Nat} {l m : List UInt8} {w w1 w2 : World} {e : Ending} (h1 : LW B b l w w1) (h : LPost B b m w1 e w2) : LPost B b m w e w2 := ⟨h.1, h1.trans h.2⟩
/-- The expressions' texts, in every later world. -/
theorem SH.val {B b : Nat} {l : List UInt8} {d : Nat} {P : Nat → Prop} {w : World} {x : SV} {k : Nat} {s : ByteArray} {es : List Tree} {n : Int} {body els : Blk} (h : SH B b l d P w x k s es n body els) (j : Nat) (hj : j < 2) :
    ∀ w', Below w.heap.size w w' → Calls Tryd.prog 68 #[x.val, .int .i64 j] w' (Says w' (valT es j)) := fun w' hb =>
  value_calls es P x j hj w' (h.fes.mono (fun _ hg _ => hg) fun g _ hl => hb.block g hl) h.ok.1 (h.tbb w' (hb.mono (Nat.le_of_lt (Nat.lt_of_le_of_lt h.isb.lt.1 h.isb.lt.2))))
/-- A line, in every later world. -/
theorem SH.line {B b : Nat} {l : List UInt8} {d : Nat} {P : Nat → Prop} {w : World} {x : SV} {k : Nat} {s : ByteArray} {es : List Tree} {n : Int} {body els : Blk} (h : SH B b l d P w x k s es n body els) (ps : List ByteArray) (hp : (ps.flatMap bl).length ≤ s.size + 3000000) (hn : ps.length ≤ 100) :
    ∀ w' g, Below w.heap.size w w' → w'.heap[g]? = some (.cells (ps.map Value.string).toArray 9 (0, 0)) → w.heap.size ≤ g → Calls Tryd.prog 20 #[.pointer (some ⟨b, 0, none⟩), .int .i64 d, .slice (some ⟨g, 0, none⟩) ps.length ps.length] w' (LPost B b (l ++ lineT d ps) w') := fun w' g hb hr hg => by
  have := h.len
  have := h.deep
  exact line_calls B b g l d ps w' (h.isb.below hb) (by omega) hr (by have := h.isb.lt; omega) hn (by omega)
theorem pl (ps : List ByteArray) : (ps.flatMap bl).length = (ps.map ByteArray.size).sum := by
  induction ps with
  | nil => rfl
  | cons a t ih => simp [List.flatMap_cons, bl_len, ih]
set_option maxHeartbeats 2000000 in
theorem stmt_0 (s : ByteArray) (es : List Tree) (n : Int) (body els : Blk) : SSays 0 s es n body els := by
  intro B b l d P w x h
  have hB : B ≤ w.heap.size := by have := h.isb.lt; omega
  have hd : d ≤ 1000 := by have := h.deep; omega
  have HV0 : Hid (∀ w', Below w.heap.size w w' → Calls Tryd.prog 68 #[x.val, .int .i64 0] w' (Says w' (valT es 0))) := Lib.hid (h.val 0 (by omega))
  have HV1 : Hid (∀ w', Below w.heap.size w w' → Calls Tryd.prog 68 #[x.val, .int .i64 1] w' (Says w' (valT es 1))) := Lib.hid (h.val 1 (by omega))
  have hv0 := valT_le es h.ok.1 0
  have hv1 := valT_le es h.ok.1 1
  obtain ⟨v0, e0⟩ : ∃ v0, v0 = valT es 0 := ⟨_, rfl⟩
  obtain ⟨v1, e1⟩ : ∃ v1, v1 = valT es 1 := ⟨_, rfl⟩
  rw [← e0] at HV0 hv0
  rw [← e1] at HV1 hv1
  have HL := Lib.hid (h.line [kLocal, s, kEq, v0, kSemi] (by rw [pl]; simp [show (kLocal).size = 6 from rfl, show (kEq).size = 3 from rfl, show (kSemi).size = 1 from rfl]; try omega) (Nat.le_of_ble_eq_true rfl))
  have HG : Hid (stT 0 s es n (blkT body (d + 1)) (blkT els (d + 1)) els.ne d = lineT d [kLocal, s, kEq, v0, kSemi]) := Lib.hid (by rw [e0]; rfl)
  rw [HG.out]
  obtain ⟨xk, xs, eA, en, ec, xn, bA, bn, bc, lA, ln, lc, xp⟩ := x
  obtain rfl : xk = 0 := h.xk
  obtain rfl : xs = s := h.xs
  have HX := Lib.hid (blk_new w (sbox ⟨0, xs, eA, en, ec, xn, bA, bn, bc, lA, ln, lc, xp⟩))
  have HB := Lib.hid ((Below.refl w.heap.size w).alloc (Nat.le_refl _) (sbox ⟨0, xs, eA, en, ec, xn, bA, bn, bc, lA, ln, lc, xp⟩))
  obtain ⟨w0, hw0⟩ : ∃ w0, w0 = w.alloc (sbox ⟨0, xs, eA, en, ec, xn, bA, bn, bc, lA, ln, lc, xp⟩) := ⟨_, rfl⟩
  rw [← hw0] at HX HB
  have HW := Lib.hid hw0
  have hs0 : w0.heap.size = w.heap.size + 1 := by rw [hw0]; simp
  have HS0 := Lib.hid hs0
  clear hw0 h e0 e1 hv0 hv1 hs0
  simp only [List.length_cons, List.length_nil, Nat.zero_add, Nat.reduceAdd] at HL
  simp only [SV.val] at HV0 HV1
  go_enter Tryd.func44, Tryd.ntmps44
  go_wp2_with fail
  rw [← HW.out]
  obtain ⟨⟨z0, z1, z2, z3⟩, z4, z5, z6⟩ := sbox_cells HX.out (Below.refl _ _)
  dsimp only at z0 z1 z2 z3 z4 z5 z6
  go_wp2_with fail
  have hB0 : Below w0.heap.size w0 w0 := Below.refl _ _
  go_region_with (first
      | ((go_at_call 68; (with_reducible refine (HV0.out _ (HB.out.trans (Below.mono (by first | assumption | exact (Below.refl _ _).drew : Below w0.heap.size w0 _) HB.out.size))).mono ?_); rintro e w' ⟨rfl, hbz0⟩; have hbz := Below.trans (by first | assumption | exact (Below.refl _ _).drew : Below w0.heap.size w0 _) (hbz0.mono (Below.size (by first | assumption | exact (Below.refl _ _).drew : Below w0.heap.size w0 _))); obtain ⟨⟨y0, y1, y2, y3⟩, y4, y5, y6⟩ := sbox_cells HX.out hbz; dsimp only at y0 y1 y2 y3 y4 y5 y6; clear hbz0))
      | ((go_at_call 20; refine (HL.out _ _ (by first | exact HB.out.trans ((Below.alloc (by first | assumption | exact Below.refl _ _ | exact (Below.refl _ _).drew) (by first | exact Below.size (by assumption) | exact Nat.le_refl _) _).mono HB.out.size)) (new_at _ (by simp)) (by have := HS0.out; first | omega | (have := Below.size (by assumption : Below w0.heap.size w0 _); omega))).mono ?_; rintro e w9 ⟨rfl, hp9⟩)))
  all_goals
    go_wp2
    go_end0
    exact LPost.of (HB.out.trans ((Below.alloc (by first | assumption) (by first | exact Below.size (by assumption)) _).mono HB.out.size)) hB ⟨rfl, hp9⟩
set_option maxHeartbeats 2000000 in
theorem stmt_1 (s : ByteArray) (es : List Tree) (n : Int) (body els : Blk) : SSays 1 s es n body els := by
  intro B b l d P w x h
  have hB : B ≤ w.heap.size := by have := h.isb.lt; omega
  have hd : d ≤ 1000 := by have := h.deep; omega
  have HV0 : Hid (∀ w', Below w.heap.size w w' → Calls Tryd.prog 68 #[x.val, .int .i64 0] w' (Says w' (valT es 0))) := Lib.hid (h.val 0 (by omega))
  have HV1 : Hid (∀ w', Below w.heap.size w w' → Calls Tryd.prog 68 #[x.val, .int .i64 1] w' (Says w' (valT es 1))) := Lib.hid (h.val 1 (by omega))
  have hv0 := valT_le es h.ok.1 0
  have hv1 := valT_le es h.ok.1 1
  obtain ⟨v0, e0⟩ : ∃ v0, v0 = valT es 0 := ⟨_, rfl⟩
  obtain ⟨v1, e1⟩ : ∃ v1, v1 = valT es 1 := ⟨_, rfl⟩
  rw [← e0] at HV0 hv0
  rw [← e1] at HV1 hv1
  have HL := Lib.hid (h.line [s, kEq, v0, kSemi] (by rw [pl]; simp [show (kEq).size = 3 from rfl, show (kSemi).size = 1 from rfl]; try omega) (Nat.le_of_ble_eq_true rfl))
  have HG : Hid (stT 1 s es n (blkT body (d + 1)) (blkT els (d + 1)) els.ne d = lineT d [s, kEq, v0, kSemi]) := Lib.hid (by rw [e0]; rfl)
  rw [HG.out]
  obtain ⟨xk, xs, eA, en, ec, xn, bA, bn, bc, lA, ln, lc, xp⟩ := x
  obtain rfl : xk = 1 := h.xk
  obtain rfl : xs = s := h.xs
  have HX := Lib.hid (blk_new w (sbox ⟨1, xs, eA, en, ec, xn, bA, bn, bc, lA, ln, lc, xp⟩))
  have HB := Lib.hid ((Below.refl w.heap.size w).alloc (Nat.le_refl _) (sbox ⟨1, xs, eA, en, ec, xn, bA, bn, bc, lA, ln, lc, xp⟩))
  obtain ⟨w0, hw0⟩ : ∃ w0, w0 = w.alloc (sbox ⟨1, xs, eA, en, ec, xn, bA, bn, bc, lA, ln, lc, xp⟩) := ⟨_, rfl⟩
  rw [← hw0] at HX HB
  have HW := Lib.hid hw0
  have hs0 : w0.heap.size = w.heap.size + 1 := by rw [hw0]; simp
  have HS0 := Lib.hid hs0
  clear hw0 h e0 e1 hv0 hv1 hs0
  simp only [List.length_cons, List.length_nil, Nat.zero_add, Nat.reduceAdd] at HL
  simp only [SV.val] at HV0 HV1
  go_enter Tryd.func44, Tryd.ntmps44
  go_wp2_with fail
  rw [← HW.out]
  obtain ⟨⟨z0, z1, z2, z3⟩, z4, z5, z6⟩ := sbox_cells HX.out (Below.refl _ _)
  dsimp only at z0 z1 z2 z3 z4 z5 z6
  go_wp2_with fail
  have hB0 : Below w0.heap.size w0 w0 := Below.refl _ _
  go_region_with (first
      | ((go_at_call 68; (with_reducible refine (HV0.out _ (HB.out.trans (Below.mono (by first | assumption | exact (Below.refl _ _).drew : Below w0.heap.size w0 _) HB.out.size))).mono ?_); rintro e w' ⟨rfl, hbz0⟩; have hbz := Below.trans (by first | assumption | exact (Below.refl _ _).drew : Below w0.heap.size w0 _) (hbz0.mono (Below.size (by first | assumption | exact (Below.refl _ _).drew : Below w0.heap.size w0 _))); obtain ⟨⟨y0, y1, y2, y3⟩, y4, y5, y6⟩ := sbox_cells HX.out hbz; dsimp only at y0 y1 y2 y3 y4 y5 y6; clear hbz0))
      | ((go_at_call 20; refine (HL.out _ _ (by first | exact HB.out.trans ((Below.alloc (by first | assumption | exact Below.refl _ _ | exact (Below.refl _ _).drew) (by first | exact Below.size (by assumption) | exact Nat.le_refl _) _).mono HB.out.size)) (new_at _ (by simp)) (by have := HS0.out; first | omega | (have := Below.size (by assumption : Below w0.heap.size w0 _); omega))).mono ?_; rintro e w9 ⟨rfl, hp9⟩)))
  all_goals
    go_wp2
    go_end0
    exact LPost.of (HB.out.trans ((Below.alloc (by first | assumption) (by first | exact Below.size (by assumption)) _).mono HB.out.size)) hB ⟨rfl, hp9⟩
set_option maxHeartbeats 2000000 in
theorem stmt_2 (s : ByteArray) (es : List Tree) (n : Int) (body els : Blk) : SSays 2 s es n body els := by
  intro B b l d P w x h
  have hB : B ≤ w.heap.size := by have := h.isb.lt; omega
  have hd : d ≤ 1000 := by have := h.deep; omega
  have HV0 : Hid (∀ w', Below w.heap.size w w' → Calls Tryd.prog 68 #[x.val, .int .i64 0] w' (Says w' (valT es 0))) := Lib.hid (h.val 0 (by omega))
  have HV1 : Hid (∀ w', Below w.heap.size w w' → Calls Tryd.prog 68 #[x.val, .int .i64 1] w' (Says w' (valT es 1))) := Lib.hid (h.val 1 (by omega))
  have hv0 := valT_le es h.ok.1 0
  have hv1 := valT_le es h.ok.1 1
  obtain ⟨v0, e0⟩ : ∃ v0, v0 = valT es 0 := ⟨_, rfl⟩
  obtain ⟨v1, e1⟩ : ∃ v1, v1 = valT es 1 := ⟨_, rfl⟩
  rw [← e0] at HV0 hv0
  rw [← e1] at HV1 hv1
  have HL := Lib.hid (h.line [s, kOpen, v0, kShutEq, v1, kSemi] (by rw [pl]; simp [show (kOpen).size = 1 from rfl, show (kShutEq).size = 4 from rfl, show (kSemi).size = 1 from rfl]; try omega) (Nat.le_of_ble_eq_true rfl))
  have HG : Hid (stT 2 s es n (blkT body (d + 1)) (blkT els (d + 1)) els.ne d = lineT d [s, kOpen, v0, kShutEq, v1, kSemi]) := Lib.hid (by rw [e0, e1]; rfl)
  rw [HG.out]
  obtain ⟨xk, xs, eA, en, ec, xn, bA, bn, bc, lA, ln, lc, xp⟩ := x
  obtain rfl : xk = 2 := h.xk
  obtain rfl : xs = s := h.xs
  have HX := Lib.hid (blk_new w (sbox ⟨2, xs, eA, en, ec, xn, bA, bn, bc, lA, ln, lc, xp⟩))
  have HB := Lib.hid ((Below.refl w.heap.size w).alloc (Nat.le_refl _) (sbox ⟨2, xs, eA, en, ec, xn, bA, bn, bc, lA, ln, lc, xp⟩))
  obtain ⟨w0, hw0⟩ : ∃ w0, w0 = w.alloc (sbox ⟨2, xs, eA, en, ec, xn, bA, bn, bc, lA, ln, lc, xp⟩) := ⟨_, rfl⟩
  rw [← hw0] at HX HB
  have HW := Lib.hid hw0
  have hs0 : w0.heap.size = w.heap.size + 1 := by rw [hw0]; simp
  have HS0 := Lib.hid hs0
  clear hw0 h e0 e1 hv0 hv1 hs0
  simp only [List.length_cons, List.length_nil, Nat.zero_add, Nat.reduceAdd] at HL
  simp only [SV.val] at HV0 HV1
  go_enter Tryd.func44, Tryd.ntmps44
  go_wp2_with fail
  rw [← HW.out]
  obtain ⟨⟨z0, z1, z2, z3⟩, z4, z5, z6⟩ := sbox_cells HX.out (Below.refl _ _)
  dsimp only at z0 z1 z2 z3 z4 z5 z6
  go_wp2_with fail
  have hB0 : Below w0.heap.size w0 w0 := Below.refl _ _
  go_region_with (first
      | ((go_at_call 68; (with_reducible refine (HV0.out _ (HB.out.trans (Below.mono (by first | assumption | exact (Below.refl _ _).drew : Below w0.heap.size w0 _) HB.out.size))).mono ?_); rintro e w' ⟨rfl, hbz0⟩; have hbz := Below.trans (by first | assumption | exact (Below.refl _ _).drew : Below w0.heap.size w0 _) (hbz0.mono (Below.size (by first | assumption | exact (Below.refl _ _).drew : Below w0.heap.size w0 _))); obtain ⟨⟨y0, y1, y2, y3⟩, y4, y5, y6⟩ := sbox_cells HX.out hbz; dsimp only at y0 y1 y2 y3 y4 y5 y6; clear hbz0))
      | ((go_at_call 68; (with_reducible refine (HV1.out _ (HB.out.trans (Below.mono (by first | assumption | exact (Below.refl _ _).drew : Below w0.heap.size w0 _) HB.out.size))).mono ?_); rintro e w' ⟨rfl, hbz0⟩; have hbz := Below.trans (by first | assumption | exact (Below.refl _ _).drew : Below w0.heap.size w0 _) (hbz0.mono (Below.size (by first | assumption | exact (Below.refl _ _).drew : Below w0.heap.size w0 _))); obtain ⟨⟨y0, y1, y2, y3⟩, y4, y5, y6⟩ := sbox_cells HX.out hbz; dsimp only at y0 y1 y2 y3 y4 y5 y6; clear hbz0))
      | ((go_at_call 20; refine (HL.out _ _ (by first | exact HB.out.trans ((Below.alloc (by first | assumption | exact Below.refl _ _ | exact (Below.refl _ _).drew) (by first | exact Below.size (by assumption) | exact Nat.le_refl _) _).mono HB.out.size)) (new_at _ (by simp)) (by have := HS0.out; first | omega | (have := Below.size (by assumption : Below w0.heap.size w0 _); omega))).mono ?_; rintro e w9 ⟨rfl, hp9⟩)))
  all_goals
    go_wp2
    go_end0
    exact LPost.of (HB.out.trans ((Below.alloc (by first | assumption) (by first | exact Below.size (by assumption)) _).mono HB.out.size)) hB ⟨rfl, hp9⟩
set_option maxHeartbeats 2000000 in
theorem stmt_5 (s : ByteArray) (es : List Tree) (n : Int) (body els : Blk) : SSays 5 s es n body els := by
  intro B b l d P w x h
  have hB : B ≤ w.heap.size := by have := h.isb.lt; omega
  have hd : d ≤ 1000 := by have := h.deep; omega
  have HV0 : Hid (∀ w', Below w.heap.size w w' → Calls Tryd.prog 68 #[x.val, .int .i64 0] w' (Says w' (valT es 0))) := Lib.hid (h.val 0 (by omega))
  have HV1 : Hid (∀ w', Below w.heap.size w w' → Calls Tryd.prog 68 #[x.val, .int .i64 1] w' (Says w' (valT es 1))) := Lib.hid (h.val 1 (by omega))
  have hv0 := valT_le es h.ok.1 0
  have hv1 := valT_le es h.ok.1 1
  obtain ⟨v0, e0⟩ : ∃ v0, v0 = valT es 0 := ⟨_, rfl⟩
  obtain ⟨v1, e1⟩ : ∃ v1, v1 = valT es 1 := ⟨_, rfl⟩
  rw [← e0] at HV0 hv0
  rw [← e1] at HV1 hv1
  have HL := Lib.hid (h.line [kTake, s, kSemi] (by rw [pl]; simp [show (kTake).size = 5 from rfl, show (kSemi).size = 1 from rfl]; try omega) (Nat.le_of_ble_eq_true rfl))
  have HG : Hid (stT 5 s es n (blkT body (d + 1)) (blkT els (d + 1)) els.ne d = lineT d [kTake, s, kSemi]) := Lib.hid rfl
  rw [HG.out]
  obtain ⟨xk, xs, eA, en, ec, xn, bA, bn, bc, lA, ln, lc, xp⟩ := x
  obtain rfl : xk = 5 := h.xk
  obtain rfl : xs = s := h.xs
  have HX := Lib.hid (blk_new w (sbox ⟨5, xs, eA, en, ec, xn, bA, bn, bc, lA, ln, lc, xp⟩))
  have HB := Lib.hid ((Below.refl w.heap.size w).alloc (Nat.le_refl _) (sbox ⟨5, xs, eA, en, ec, xn, bA, bn, bc, lA, ln, lc, xp⟩))
  obtain ⟨w0, hw0⟩ : ∃ w0, w0 = w.alloc (sbox ⟨5, xs, eA, en, ec, xn, bA, bn, bc, lA, ln, lc, xp⟩) := ⟨_, rfl⟩
  rw [← hw0] at HX HB
  have HW := Lib.hid hw0
  have hs0 : w0.heap.size = w.heap.size + 1 := by rw [hw0]; simp
  have HS0 := Lib.hid hs0
  clear hw0 h e0 e1 hv0 hv1 hs0
  simp only [List.length_cons, List.length_nil, Nat.zero_add, Nat.reduceAdd] at HL
  simp only [SV.val] at HV0 HV1
  go_enter Tryd.func44, Tryd.ntmps44
  go_wp2_with fail
  rw [← HW.out]
  obtain ⟨⟨z0, z1, z2, z3⟩, z4, z5, z6⟩ := sbox_cells HX.out (Below.refl _ _)
  dsimp only at z0 z1 z2 z3 z4 z5 z6
  go_wp2_with fail
  have hB0 : Below w0.heap.size w0 w0 := Below.refl _ _
  refine (HL.out _ _ (HB.out.trans ((Below.alloc hB0 (Nat.le_refl _) _).mono HB.out.size)) (new_at _ (by first | exact HS0.out.symm | rfl)) (by have := HS0.out; omega)).mono ?_
  intro e w9 hp9
  obtain rfl := hp9.1
  go_wp2
  go_end0
  exact LPost.of (HB.out.trans ((Below.alloc hB0 (Nat.le_refl _) _).mono HB.out.size)) hB hp9
set_option maxHeartbeats 2000000 in
theorem stmt_6 (s : ByteArray) (es : List Tree) (n : Int) (body els : Blk) : SSays 6 s es n body els := by
  intro B b l d P w x h
  have hB : B ≤ w.heap.size := by have := h.isb.lt; omega
  have hd : d ≤ 1000 := by have := h.deep; omega
  have HV0 : Hid (∀ w', Below w.heap.size w w' → Calls Tryd.prog 68 #[x.val, .int .i64 0] w' (Says w' (valT es 0))) := Lib.hid (h.val 0 (by omega))
  have HV1 : Hid (∀ w', Below w.heap.size w w' → Calls Tryd.prog 68 #[x.val, .int .i64 1] w' (Says w' (valT es 1))) := Lib.hid (h.val 1 (by omega))
  have hv0 := valT_le es h.ok.1 0
  have hv1 := valT_le es h.ok.1 1
  obtain ⟨v0, e0⟩ : ∃ v0, v0 = valT es 0 := ⟨_, rfl⟩
  obtain ⟨v1, e1⟩ : ∃ v1, v1 = valT es 1 := ⟨_, rfl⟩
  rw [← e0] at HV0 hv0
  rw [← e1] at HV1 hv1
  have HL := Lib.hid (h.line [kGive, s, kSemi] (by rw [pl]; simp [show (kGive).size = 5 from rfl, show (kSemi).size = 1 from rfl]; try omega) (Nat.le_of_ble_eq_true rfl))
  have HG : Hid (stT 6 s es n (blkT body (d + 1)) (blkT els (d + 1)) els.ne d = lineT d [kGive, s, kSemi]) := Lib.hid rfl
  rw [HG.out]
  obtain ⟨xk, xs, eA, en, ec, xn, bA, bn, bc, lA, ln, lc, xp⟩ := x
  obtain rfl : xk = 6 := h.xk
  obtain rfl : xs = s := h.xs
  have HX := Lib.hid (blk_new w (sbox ⟨6, xs, eA, en, ec, xn, bA, bn, bc, lA, ln, lc, xp⟩))
  have HB := Lib.hid ((Below.refl w.heap.size w).alloc (Nat.le_refl _) (sbox ⟨6, xs, eA, en, ec, xn, bA, bn, bc, lA, ln, lc, xp⟩))
  obtain ⟨w0, hw0⟩ : ∃ w0, w0 = w.alloc (sbox ⟨6, xs, eA, en, ec, xn, bA, bn, bc, lA, ln, lc, xp⟩) := ⟨_, rfl⟩
  rw [← hw0] at HX HB
  have HW := Lib.hid hw0
  have hs0 : w0.heap.size = w.heap.size + 1 := by rw [hw0]; simp
  have HS0 := Lib.hid hs0
  clear hw0 h e0 e1 hv0 hv1 hs0
  simp only [List.length_cons, List.length_nil, Nat.zero_add, Nat.reduceAdd] at HL
  simp only [SV.val] at HV0 HV1
  go_enter Tryd.func44, Tryd.ntmps44
  go_wp2_with fail
  rw [← HW.out]
  obtain ⟨⟨z0, z1, z2, z3⟩, z4, z5, z6⟩ := sbox_cells HX.out (Below.refl _ _)
  dsimp only at z0 z1 z2 z3 z4 z5 z6
  go_wp2_with fail
  have hB0 : Below w0.heap.size w0 w0 := Below.refl _ _
  refine (HL.out _ _ (HB.out.trans ((Below.alloc hB0 (Nat.le_refl _) _).mono HB.out.size)) (new_at _ (by first | exact HS0.out.symm | rfl)) (by have := HS0.out; omega)).mono ?_
  intro e w9 hp9
  obtain rfl := hp9.1
  go_wp2
  go_end0
  exact LPost.of (HB.out.trans ((Below.alloc hB0 (Nat.le_refl _) _).mono HB.out.size)) hB hp9
set_option maxHeartbeats 2000000 in
theorem stmt_7 (s : ByteArray) (es : List Tree) (n : Int) (body els : Blk) : SSays 7 s es n body els := by
  intro B b l d P w x h
  have hB : B ≤ w.heap.size := by have := h.isb.lt; omega
  have hd : d ≤ 1000 := by have := h.deep; omega
  have HV0 : Hid (∀ w', Below w.heap.size w w' → Calls Tryd.prog 68 #[x.val, .int .i64 0] w' (Says w' (valT es 0))) := Lib.hid (h.val 0 (by omega))
  have HV1 : Hid (∀ w', Below w.heap.size w w' → Calls Tryd.prog 68 #[x.val, .int .i64 1] w' (Says w' (valT es 1))) := Lib.hid (h.val 1 (by omega))
  have hv0 := valT_le es h.ok.1 0
  have hv1 := valT_le es h.ok.1 1
  obtain ⟨v0, e0⟩ : ∃ v0, v0 = valT es 0 := ⟨_, rfl⟩
  obtain ⟨v1, e1⟩ : ∃ v1, v1 = valT es 1 := ⟨_, rfl⟩
  rw [← e0] at HV0 hv0
  rw [← e1] at HV1 hv1
  have HL := Lib.hid (h.line [kAdd, s, kBl, v0, kSemi] (by rw [pl]; simp [show (kAdd).size = 4 from rfl, show (kBl).size = 1 from rfl, show (kSemi).size = 1 from rfl]; try omega) (Nat.le_of_ble_eq_true rfl))
  have HG : Hid (stT 7 s es n (blkT body (d + 1)) (blkT els (d + 1)) els.ne d = lineT d [kAdd, s, kBl, v0, kSemi]) := Lib.hid (by rw [e0]; rfl)
  rw [HG.out]
  obtain ⟨xk, xs, eA, en, ec, xn, bA, bn, bc, lA, ln, lc, xp⟩ := x
  obtain rfl : xk = 7 := h.xk
  obtain rfl : xs = s := h.xs
  have HX := Lib.hid (blk_new w (sbox ⟨7, xs, eA, en, ec, xn, bA, bn, bc, lA, ln, lc, xp⟩))
  have HB := Lib.hid ((Below.refl w.heap.size w).alloc (Nat.le_refl _) (sbox ⟨7, xs, eA, en, ec, xn, bA, bn, bc, lA, ln, lc, xp⟩))
  obtain ⟨w0, hw0⟩ : ∃ w0, w0 = w.alloc (sbox ⟨7, xs, eA, en, ec, xn, bA, bn, bc, lA, ln, lc, xp⟩) := ⟨_, rfl⟩
  rw [← hw0] at HX HB
  have HW := Lib.hid hw0
  have hs0 : w0.heap.size = w.heap.size + 1 := by rw [hw0]; simp
  have HS0 := Lib.hid hs0
  clear hw0 h e0 e1 hv0 hv1 hs0
  simp only [List.length_cons, List.length_nil, Nat.zero_add, Nat.reduceAdd] at HL
  simp only [SV.val] at HV0 HV1
  go_enter Tryd.func44, Tryd.ntmps44
  go_wp2_with fail
  rw [← HW.out]
  obtain ⟨⟨z0, z1, z2, z3⟩, z4, z5, z6⟩ := sbox_cells HX.out (Below.refl _ _)
  dsimp only at z0 z1 z2 z3 z4 z5 z6
  go_wp2_with fail
  have hB0 : Below w0.heap.size w0 w0 := Below.refl _ _
  go_region_with (first
      | ((go_at_call 68; (with_reducible refine (HV0.out _ (HB.out.trans (Below.mono (by first | assumption | exact (Below.refl _ _).drew : Below w0.heap.size w0 _) HB.out.size))).mono ?_); rintro e w' ⟨rfl, hbz0⟩; have hbz := Below.trans (by first | assumption | exact (Below.refl _ _).drew : Below w0.heap.size w0 _) (hbz0.mono (Below.size (by first | assumption | exact (Below.refl _ _).drew : Below w0.heap.size w0 _))); obtain ⟨⟨y0, y1, y2, y3⟩, y4, y5, y6⟩ := sbox_cells HX.out hbz; dsimp only at y0 y1 y2 y3 y4 y5 y6; clear hbz0))
      | ((go_at_call 20; refine (HL.out _ _ (by first | exact HB.out.trans ((Below.alloc (by first | assumption | exact Below.refl _ _ | exact (Below.refl _ _).drew) (by first | exact Below.size (by assumption) | exact Nat.le_refl _) _).mono HB.out.size)) (new_at _ (by simp)) (by have := HS0.out; first | omega | (have := Below.size (by assumption : Below w0.heap.size w0 _); omega))).mono ?_; rintro e w9 ⟨rfl, hp9⟩)))
  all_goals
    go_wp2
    go_end0
    exact LPost.of (HB.out.trans ((Below.alloc (by first | assumption) (by first | exact Below.size (by assumption)) _).mono HB.out.size)) hB ⟨rfl, hp9⟩
set_option maxHeartbeats 2000000 in
theorem stmt_8 (s : ByteArray) (es : List Tree) (n : Int) (body els : Blk) : SSays 8 s es n body els := by
  intro B b l d P w x h
  have hB : B ≤ w.heap.size := by have := h.isb.lt; omega
  have hd : d ≤ 1000 := by have := h.deep; omega
  have HV0 : Hid (∀ w', Below w.heap.size w w' → Calls Tryd.prog 68 #[x.val, .int .i64 0] w' (Says w' (valT es 0))) := Lib.hid (h.val 0 (by omega))
  have HV1 : Hid (∀ w', Below w.heap.size w w' → Calls Tryd.prog 68 #[x.val, .int .i64 1] w' (Says w' (valT es 1))) := Lib.hid (h.val 1 (by omega))
  have hv0 := valT_le es h.ok.1 0
  have hv1 := valT_le es h.ok.1 1
  obtain ⟨v0, e0⟩ : ∃ v0, v0 = valT es 0 := ⟨_, rfl⟩
  obtain ⟨v1, e1⟩ : ∃ v1, v1 = valT es 1 := ⟨_, rfl⟩
  rw [← e0] at HV0 hv0
  rw [← e1] at HV1 hv1
  have HL := Lib.hid (h.line [kFence] (by rw [pl]; simp [show (kFence).size = 6 from rfl]; try omega) (Nat.le_of_ble_eq_true rfl))
  have HG : Hid (stT 8 s es n (blkT body (d + 1)) (blkT els (d + 1)) els.ne d = lineT d [kFence]) := Lib.hid rfl
  rw [HG.out]
  obtain ⟨xk, xs, eA, en, ec, xn, bA, bn, bc, lA, ln, lc, xp⟩ := x
  obtain rfl : xk = 8 := h.xk
  obtain rfl : xs = s := h.xs
  have HX := Lib.hid (blk_new w (sbox ⟨8, xs, eA, en, ec, xn, bA, bn, bc, lA, ln, lc, xp⟩))
  have HB := Lib.hid ((Below.refl w.heap.size w).alloc (Nat.le_refl _) (sbox ⟨8, xs, eA, en, ec, xn, bA, bn, bc, lA, ln, lc, xp⟩))
  obtain ⟨w0, hw0⟩ : ∃ w0, w0 = w.alloc (sbox ⟨8, xs, eA, en, ec, xn, bA, bn, bc, lA, ln, lc, xp⟩) := ⟨_, rfl⟩
  rw [← hw0] at HX HB
  have HW := Lib.hid hw0
  have hs0 : w0.heap.size = w.heap.size + 1 := by rw [hw0]; simp
  have HS0 := Lib.hid hs0
  clear hw0 h e0 e1 hv0 hv1 hs0
  simp only [List.length_cons, List.length_nil, Nat.zero_add, Nat.reduceAdd] at HL
  simp only [SV.val] at HV0 HV1
  go_enter Tryd.func44, Tryd.ntmps44
  go_wp2_with fail
  rw [← HW.out]
  obtain ⟨⟨z0, z1, z2, z3⟩, z4, z5, z6⟩ := sbox_cells HX.out (Below.refl _ _)
  dsimp only at z0 z1 z2 z3 z4 z5 z6
  go_wp2_with fail
  have hB0 : Below w0.heap.size w0 w0 := Below.refl _ _
  refine (HL.out _ _ (HB.out.trans ((Below.alloc hB0 (Nat.le_refl _) _).mono HB.out.size)) (new_at _ (by first | exact HS0.out.symm | rfl)) (by have := HS0.out; omega)).mono ?_
  intro e w9 hp9
  obtain rfl := hp9.1
  go_wp2
  go_end0
  exact LPost.of (HB.out.trans ((Below.alloc hB0 (Nat.le_refl _) _).mono HB.out.size)) hB hp9
set_option maxHeartbeats 2000000 in
theorem stmt_9 (s : ByteArray) (es : List Tree) (n : Int) (body els : Blk) : SSays 9 s es n body els := by
  intro B b l d P w x h
  have hB : B ≤ w.heap.size := by have := h.isb.lt; omega
  have hd : d ≤ 1000 := by have := h.deep; omega
  have HV0 : Hid (∀ w', Below w.heap.size w w' → Calls Tryd.prog 68 #[x.val, .int .i64 0] w' (Says w' (valT es 0))) := Lib.hid (h.val 0 (by omega))
  have HV1 : Hid (∀ w', Below w.heap.size w w' → Calls Tryd.prog 68 #[x.val, .int .i64 1] w' (Says w' (valT es 1))) := Lib.hid (h.val 1 (by omega))
  have hv0 := valT_le es h.ok.1 0
  have hv1 := valT_le es h.ok.1 1
  obtain ⟨v0, e0⟩ : ∃ v0, v0 = valT es 0 := ⟨_, rfl⟩
  obtain ⟨v1, e1⟩ : ∃ v1, v1 = valT es 1 := ⟨_, rfl⟩
  rw [← e0] at HV0 hv0
  rw [← e1] at HV1 hv1
  have HL := Lib.hid (h.line [kOut, v0, kSemi] (by rw [pl]; simp [show (kOut).size = 7 from rfl, show (kSemi).size = 1 from rfl]; try omega) (Nat.le_of_ble_eq_true rfl))
  have HG : Hid (stT 9 s es n (blkT body (d + 1)) (blkT els (d + 1)) els.ne d = lineT d [kOut, v0, kSemi]) := Lib.hid (by rw [e0]; rfl)
  rw [HG.out]
  obtain ⟨xk, xs, eA, en, ec, xn, bA, bn, bc, lA, ln, lc, xp⟩ := x
  obtain rfl : xk = 9 := h.xk
  obtain rfl : xs = s := h.xs
  have HX := Lib.hid (blk_new w (sbox ⟨9, xs, eA, en, ec, xn, bA, bn, bc, lA, ln, lc, xp⟩))
  have HB := Lib.hid ((Below.refl w.heap.size w).alloc (Nat.le_refl _) (sbox ⟨9, xs, eA, en, ec, xn, bA, bn, bc, lA, ln, lc, xp⟩))
  obtain ⟨w0, hw0⟩ : ∃ w0, w0 = w.alloc (sbox ⟨9, xs, eA, en, ec, xn, bA, bn, bc, lA, ln, lc, xp⟩) := ⟨_, rfl⟩
  rw [← hw0] at HX HB
  have HW := Lib.hid hw0
  have hs0 : w0.heap.size = w.heap.size + 1 := by rw [hw0]; simp
  have HS0 := Lib.hid hs0
  clear hw0 h e0 e1 hv0 hv1 hs0
  simp only [List.length_cons, List.length_nil, Nat.zero_add, Nat.reduceAdd] at HL
  simp only [SV.val] at HV0 HV1
  go_enter Tryd.func44, Tryd.ntmps44
  go_wp2_with fail
  rw [← HW.out]
  obtain ⟨⟨z0, z1, z2, z3⟩, z4, z5, z6⟩ := sbox_cells HX.out (Below.refl _ _)
  dsimp only at z0 z1 z2 z3 z4 z5 z6
  go_wp2_with fail
  refine (HV0.out _ HB.out).mono ?_
  rintro e w1 ⟨rfl, hbz0⟩
  have hbz := hbz0
  obtain ⟨⟨y0, y1, y2, y3⟩, y4, y5, y6⟩ := sbox_cells HX.out hbz
  dsimp only at y0 y1 y2 y3 y4 y5 y6
  go_wp2_with fail
  refine (HL.out _ _ (HB.out.trans ((Below.alloc hbz (hbz.size) _).mono HB.out.size)) (new_at _ (by first | exact HS0.out.symm | rfl)) (by have := HS0.out; have := hbz.size; omega)).mono ?_
  intro e w9 hp9
  obtain rfl := hp9.1
  go_wp2
  go_end0
  exact LPost.of (HB.out.trans ((Below.alloc hbz (hbz.size) _).mono HB.out.size)) hB hp9
set_option maxHeartbeats 2000000 in
theorem stmt_10 (s : ByteArray) (es : List Tree) (n : Int) (body els : Blk) : SSays 10 s es n body els := by
  intro B b l d P w x h
  have hB : B ≤ w.heap.size := by have := h.isb.lt; omega
  have hd : d ≤ 1000 := by have := h.deep; omega
  have HV0 : Hid (∀ w', Below w.heap.size w w' → Calls Tryd.prog 68 #[x.val, .int .i64 0] w' (Says w' (valT es 0))) := Lib.hid (h.val 0 (by omega))
  have HV1 : Hid (∀ w', Below w.heap.size w w' → Calls Tryd.prog 68 #[x.val, .int .i64 1] w' (Says w' (valT es 1))) := Lib.hid (h.val 1 (by omega))
  have hv0 := valT_le es h.ok.1 0
  have hv1 := valT_le es h.ok.1 1
  obtain ⟨v0, e0⟩ : ∃ v0, v0 = valT es 0 := ⟨_, rfl⟩
  obtain ⟨v1, e1⟩ : ∃ v1, v1 = valT es 1 := ⟨_, rfl⟩
  rw [← e0] at HV0 hv0
  rw [← e1] at HV1 hv1
  have HL := Lib.hid (h.line [kOut, v0, kSemi] (by rw [pl]; simp [show (kOut).size = 7 from rfl, show (kSemi).size = 1 from rfl]; try omega) (Nat.le_of_ble_eq_true rfl))
  have HG : Hid (stT 10 s es n (blkT body (d + 1)) (blkT els (d + 1)) els.ne d = lineT d [kOut, v0, kSemi]) := Lib.hid (by rw [e0]; rfl)
  rw [HG.out]
  obtain ⟨xk, xs, eA, en, ec, xn, bA, bn, bc, lA, ln, lc, xp⟩ := x
  obtain rfl : xk = 10 := h.xk
  obtain rfl : xs = s := h.xs
  have HX := Lib.hid (blk_new w (sbox ⟨10, xs, eA, en, ec, xn, bA, bn, bc, lA, ln, lc, xp⟩))
  have HB := Lib.hid ((Below.refl w.heap.size w).alloc (Nat.le_refl _) (sbox ⟨10, xs, eA, en, ec, xn, bA, bn, bc, lA, ln, lc, xp⟩))
  obtain ⟨w0, hw0⟩ : ∃ w0, w0 = w.alloc (sbox ⟨10, xs, eA, en, ec, xn, bA, bn, bc, lA, ln, lc, xp⟩) := ⟨_, rfl⟩
  rw [← hw0] at HX HB
  have HW := Lib.hid hw0
  have hs0 : w0.heap.size = w.heap.size + 1 := by rw [hw0]; simp
  have HS0 := Lib.hid hs0
  clear hw0 h e0 e1 hv0 hv1 hs0
  simp only [List.length_cons, List.length_nil, Nat.zero_add, Nat.reduceAdd] at HL
  simp only [SV.val] at HV0 HV1
  go_enter Tryd.func44, Tryd.ntmps44
  go_wp2_with fail
  rw [← HW.out]
  obtain ⟨⟨z0, z1, z2, z3⟩, z4, z5, z6⟩ := sbox_cells HX.out (Below.refl _ _)
  dsimp only at z0 z1 z2 z3 z4 z5 z6
  go_wp2_with fail
  refine (HV0.out _ HB.out).mono ?_
  rintro e w1 ⟨rfl, hbz0⟩
  have hbz := hbz0
  obtain ⟨⟨y0, y1, y2, y3⟩, y4, y5, y6⟩ := sbox_cells HX.out hbz
  dsimp only at y0 y1 y2 y3 y4 y5 y6
  go_wp2_with fail
  refine (HL.out _ _ (HB.out.trans ((Below.alloc hbz (hbz.size) _).mono HB.out.size)) (new_at _ (by first | exact HS0.out.symm | rfl)) (by have := HS0.out; have := hbz.size; omega)).mono ?_
  intro e w9 hp9
  obtain rfl := hp9.1
  go_wp2
  go_end0
  exact LPost.of (HB.out.trans ((Below.alloc hbz (hbz.size) _).mono HB.out.size)) hB hp9
end Go.Proofs.YtnihgifpfdlnhaaDoor.PT
