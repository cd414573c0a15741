/- What emit's emitter lays of a code, and what stands while it does. -/
import Derived.Test.YtepgpapljoelhaaDoorEm
import Derived.Test.YtepgpapljoelhaaDoorCod
import Derived.Deep.OwnRows
import Derived.Laws.OwnMore
namespace Go.Proofs.YtepgpapljoelhaaDoor.PE
open Go.RowKit Go.Proofs.YtepgpapljoelhaaDoorW.PrintWords Go.Proofs.YtepgpapljoelhaaDoorW.PrintLast Go.Proofs.YtepgpapljoelhaaDoorW.PrintMore
set_option linter.unusedVariables false
set_option linter.unusedSimpArgs false

/-! ### plain -/
def fsOf (ws U : List Int) (i : Nat) : Int := regOf ws (rd U (i : Int)) (5 + (i : Int))
def readsTo (fr : Int) (ws U : List Int) : Nat → List S37
  | 0 => []
  | k + 1 => readsTo fr ws U k ++ regC fr ws (rd U (k : Int)) (5 + (k : Int))
def setK (c : S37) (fs : Nat → Int) (k : Nat) : S37 := ⟨c.f0, c.f1, c.f2, if 0 < k then fs 0 else c.f3, if 1 < k then fs 1 else c.f4, if 2 < k then fs 2 else c.f5, c.f6, c.f7⟩
def setB (c : S37) (x : Int) : S37 := ⟨c.f0, c.f1, c.f2, c.f3, x, c.f5, c.f6, c.f7⟩
def setTo (c : S37) (x : Int) : S37 := ⟨c.f0, c.f1, x, c.f3, c.f4, c.f5, c.f6, c.f7⟩
def setRegs (ws : List Int) (c : S37) : S37 := if c.f0 = 5 ∧ c.f3 < 0 then setB c (fsOf ws (us c) 0) else setK c (fsOf ws (us c)) (us c).length
def writeC (fr w : Int) : S37 := ⟨5, 0, 0, -1, 5, 0, slotV fr w, 0⟩
def codeOut (fr : Int) (ws : List Int) (c : S37) : List S37 :=
  readsTo fr ws (us c) (us c).length ++ (if db c = true then (if rd ws (dv c) < 0 then [setTo (setRegs ws c) 5, writeC fr (rd ws (dv c))] else [setTo (setRegs ws c) (rd ws (dv c))]) else [setRegs ws c])
theorem readsTo_len (fr : Int) (ws U : List Int) : ∀ k, (readsTo fr ws U k).length ≤ k
  | 0 => Nat.le_refl _
  | k + 1 => by
    have := readsTo_len fr ws U k
    unfold readsTo regC
    rw [List.length_append]
    split <;> simp <;> omega
theorem codeOut_len (fr : Int) (ws : List Int) (c : S37) : (codeOut fr ws c).length ≤ 5 := by
  have h1 := readsTo_len fr ws (us c) (us c).length
  have h2 := us_len c
  unfold codeOut
  rw [List.length_append]
  split
  · split <;> simp <;> omega
  · simp; omega
/-! ### memory -/
theorem own_rowI3 {w : World} {base g n : Nat} {xs : List Value} {f : Nat → Value} (h : w.ownsRow base 3 1 (.slice (some ⟨g, 0, none⟩) n n) n xs) (hf : ∀ i, i < n → xs[i]? = some (f i)) : w.rowIs g 3 n f ∧ g < w.heap.size := by
  obtain ⟨h1, h2⟩ := h
  rcases h2 with ⟨h', _⟩ | ⟨g', cap', cur, h', hb, hgg, hc1, hc2, hc3, hc4⟩
  · simp at h'
  · simp only [Value.slice.injEq, Option.some.injEq, Addr.mk.injEq, and_true, true_and] at h'
    obtain ⟨rfl, rfl⟩ := h'
    refine ⟨⟨cur, hgg, by simpa using hc3, fun i hi => ?_⟩, (Array.getElem?_eq_some_iff.1 hgg).1⟩
    have := hf i hi
    rw [← hc4, List.getElem?_take, if_pos (by omega)] at this
    simpa using this
theorem made3 (n : Nat) (i : Nat) (hi : i < n) : (madeCells (Value.int IntKind.i64 0).cells (n * 1)).toList[i]? = some (.int .i64 0) := by
  simp only [madeCells, Value.cells]
  simp [hi, Nat.mod_one]
theorem info3e : (Tryd.prog.info? 3).map (fun i => (i.zero, i.size, i.bytes)) = some (some (.int .i64 0), 1, 8) := by kernel_rfl
def P1 (Pr : Nat → Prop) (h0 h1 : Nat) : Nat → Prop := fun k => Pr k ∨ (h0 ≤ k ∧ k < h1)
section
variable {w w' : World} {Pr : Nat → Prop} {be nw cw : Nat} {Aw : Option Addr} {fr : Int} {v v' : Value} {out out' : List S37} {h0 h1 : Nat}
theorem EM.below (h : EM w Pr be Aw nw cw fr v out) (hb : Below w.heap.size w w') : EM w' Pr be Aw nw cw fr v out :=
  ⟨blk_below h.1 hb, Kd.R_below h.2.1 hb, h.2.2.1, fun k hk => Nat.lt_of_lt_of_le (h.2.2.2 k hk) hb.size⟩
theorem EM.set (h : EM w Pr be Aw nw cw fr v out) {g : Nat} (hg : Pr g) (i : Nat) (u : Value) : EM (w.setCell ⟨g, i, none⟩ u) Pr be Aw nw cw fr v out :=
  ⟨blk_far h.1 (fun e => h.2.2.1 (e ▸ hg)) u, Kd.R_step h.2.1 (fun k hk _ => Below.heap_setCell _ _ _ _ (fun e => hk.2 (e ▸ hg))), h.2.2.1, fun k hk => by have := h.2.2.2 k hk; simpa [World.setCell] using this⟩
theorem R37_ok {ok ok' : Nat → Prop} {xs : List S37} (h : Kd.R k37 37 w 0 ok v xs) (hv : ∀ k, v.ownBlock = some k → ok' k) : Kd.R k37 37 w 0 ok' v xs := by
  obtain ⟨h0, inner, hown, hr⟩ := h
  exact ⟨hv, inner, hown, hr.imp_ (fun x cs hm => by have := k37_openM hm; subst this; exact k37_mkM _ _ _ x)⟩
theorem EM.own (h : EM w Pr be Aw nw cw fr v out) {k : Nat} (e : v.ownBlock = some k) : k < w.heap.size ∧ k ≠ be ∧ ¬ Pr k := by
  obtain ⟨h0, inner, hown, hr⟩ := h.2.1
  exact ⟨own_lt hown k e, h0 k e⟩
theorem EM.more (h : EM w Pr be Aw nw cw fr v out) {h0 h1 : Nat} (hlt : be < h0) (hv : ∀ k, v.ownBlock = some k → k < h0) (hw : h1 ≤ w.heap.size) : EM w (P1 Pr h0 h1) be Aw nw cw fr v out :=
  ⟨h.1, R37_ok h.2.1 (fun k e => ⟨(h.own e).2.1, fun hp => hp.elim (h.own e).2.2 (fun q => by have := hv k e; omega)⟩), fun hk => hk.elim h.2.2.1 (fun e => by omega), fun k hk => hk.elim (h.2.2.2 k) (fun e => by omega)⟩
theorem EM.less (h : EM w (P1 Pr h0 h1) be Aw nw cw fr v out) : EM w Pr be Aw nw cw fr v out :=
  ⟨h.1, R37_ok h.2.1 (fun k e => ⟨(h.own e).2.1, fun hp => (h.own e).2.2 (.inl hp)⟩), fun hk => h.2.2.1 (.inl hk), fun k hk => h.2.2.2 k (.inl hk)⟩
end
/-- What stands while a code is laid. -/
structure LS (w0 : World) (Pr : Nat → Prop) (be nw cw : Nat) (Aw : Option Addr) (fr : Int) (cb sb rb n h1 : Nat) (uv : Value) (U : List Int) (v : Value) (out : List S37) (c : S37) (f : Nat → Int) (wr : World) : Prop where
  em : EM wr (P1 Pr cb h1) be Aw nw cw fr v out
  box : wr.heap[cb]? = some (.cells (cells37 c) 37 (0, 0))
  scr : wr.heap[sb]? = some (.cells #[.int .i64 5, .int .i64 6, .int .i64 7] 3 (0, 0))
  row : wr.rowIs rb 3 n (fun i => .int .i64 (f i))
  use : ∃ base, Kd.R (Kd.int .i64) 3 wr base (fun k => cb < k ∧ k < sb) uv U
  ord : cb < sb ∧ sb < rb ∧ rb < h1 ∧ be < cb
  low : ∀ k, Pr k → k < cb
  pz : Pz Pr w0 wr
section
variable {w0 w w' : World} {Pr : Nat → Prop} {be nw cw cb sb rb n h1 : Nat} {Aw : Option Addr} {fr : Int} {v v' uv : Value} {U : List Int} {out out' : List S37} {c c' : S37} {f : Nat → Int}
theorem LS.step (h : LS w0 Pr be nw cw Aw fr cb sb rb n h1 uv U v out c f w) (hp : Pz (P1 Pr cb h1) w w') (he : EM w' (P1 Pr cb h1) be Aw nw cw fr v' out') : LS w0 Pr be nw cw Aw fr cb sb rb n h1 uv U v' out' c f w' := by
  have o := h.ord
  exact ⟨he, (hp.block cb (.inr (by omega))).trans h.box, (hp.block sb (.inr (by omega))).trans h.scr, World.rowIs.of_block h.row (hp.block rb (.inr (by omega))), h.use.imp (fun _ q => Kd.R_step q (fun k hk _ => hp.block k (.inr (by omega)))), o, h.low, h.pz.trans (hp.mono fun k hk => .inl hk)⟩
theorem LS.below (h : LS w0 Pr be nw cw Aw fr cb sb rb n h1 uv U v out c f w) (hb : Below w.heap.size w w') : LS w0 Pr be nw cw Aw fr cb sb rb n h1 uv U v out c f w' :=
  h.step (Pz.of hb h.em.2.2.2) (h.em.below hb)
theorem LS.alloc (h : LS w0 Pr be nw cw Aw fr cb sb rb n h1 uv U v out c f w) (o : Obj) : LS w0 Pr be nw cw Aw fr cb sb rb n h1 uv U v out c f (w.alloc o) := h.below ((Below.refl _ _).alloc (Nat.le_refl _) o)
theorem Pz.set {Pr : Nat → Prop} {a b : World} (h : Pz Pr a b) {g : Nat} (hg : ¬ Pr g) (i : Nat) (u : Value) : Pz Pr a (b.setCell ⟨g, i, none⟩ u) :=
  ⟨h.below.setCell (Nat.zero_le _) u, fun k hk => (Below.heap_setCell b ⟨g, i, none⟩ u k (fun e => hg (by have e' : k = g := e; exact e' ▸ hk))).trans (h.block k hk)⟩
theorem LS.setRow (h : LS w0 Pr be nw cw Aw fr cb sb rb n h1 uv U v out c f w) (i : Nat) (x : Int) : LS w0 Pr be nw cw Aw fr cb sb rb n h1 uv U v out c (fun j => if j = i then x else f j) (w.setCell ⟨rb, i, none⟩ (.int .i64 x)) := by
  have o := h.ord
  refine ⟨h.em.set (.inr (by omega)) i _, blk_far h.box (by simp; omega) _, blk_far h.scr (by simp; omega) _, (World.rowIs.set h.row i _).congr (fun j hj => by by_cases e : j = i <;> simp [e]), h.use.imp (fun _ q => Kd.R_step q (fun k hk _ => Below.heap_setCell _ _ _ _ (by simp; omega))), o, h.low, h.pz.set (fun hk => by have := h.low _ hk; omega) i _⟩
theorem LS.setBox (h : LS w0 Pr be nw cw Aw fr cb sb rb n h1 uv U v out c f w) (i : Nat) (u : Value) (e : (cells37 c).setIfInBounds i u = cells37 c') : LS w0 Pr be nw cw Aw fr cb sb rb n h1 uv U v out c' f (w.setCell ⟨cb, i, none⟩ u) := by
  have o := h.ord
  refine ⟨h.em.set (.inr (by omega)) i _, blk_put h.box i u e, blk_far h.scr (by simp; omega) _, World.rowIs.setOther h.row (by simp; omega) _, h.use.imp (fun _ q => Kd.R_step q (fun k hk _ => Below.heap_setCell _ _ _ _ (by simp; omega))), o, h.low, h.pz.set (fun hk => by have := h.low _ hk; omega) i _⟩
theorem LS.sc (h : LS w0 Pr be nw cw Aw fr cb sb rb n h1 uv U v out c f w) (k : Nat) (hk : k < 3) : w.cell? ⟨sb, k, none⟩ = some (.int .i64 (5 + (k : Int))) := by
  have := blk_cell h.scr k
  rw [this]
  match k, hk with
  | 0, _ => rfl
  | 1, _ => rfl
  | 2, _ => rfl
theorem LS.start {w w1 w3 : World} {Au : Option Addr} {cu : Nat} (h : EM w Pr be Aw nw cw fr v out) (hU : Kd.R (Kd.int .i64) 3 w1 (w.alloc (.cells (cells37 c) 37)).heap.size (fun _ => True) (.slice Au n cu) U) (hb : Below (w.alloc (.cells (cells37 c) 37)).heap.size (w.alloc (.cells (cells37 c) 37)) w1)
    (ho : w3.ownsRow (w1.heap.size + 1) 3 1 (.slice (some ⟨(w1.alloc (.cells #[.int .i64 5, .int .i64 6, .int .i64 7] 3)).heap.size, 0, none⟩) n n) n (madeCells (Value.int IntKind.i64 0).cells (n * 1)).toList) (hg : (w1.alloc (.cells #[.int .i64 5, .int .i64 6, .int .i64 7] 3)).grownBy w3 none) :
    LS w Pr be nw cw Aw fr w.heap.size w1.heap.size (w1.heap.size + 1) n w3.heap.size (.slice Au n cu) U v out c (fun _ => 0) w3 := by
  have hs1 : (w.alloc (.cells (cells37 c) 37)).heap.size = w.heap.size + 1 := by simp
  have hs2 : (w1.alloc (.cells #[.int .i64 5, .int .i64 6, .int .i64 7] 3)).heap.size = w1.heap.size + 1 := by simp
  rw [hs1] at hU hb
  rw [hs2] at ho
  have hb3 : Below (w1.heap.size + 1) (w1.alloc (.cells #[.int .i64 5, .int .i64 6, .int .i64 7] 3)) w3 := (Below.refl _ _).grown hg (by omega) (fun k e => by cases e)
  have hb2 : Below w1.heap.size w1 w3 := ((Below.refl _ _).alloc (Nat.le_refl _) _).trans (hb3.mono (by omega))
  have hsz1 : w.heap.size + 1 ≤ w1.heap.size := by have := hb.size; omega
  have hb1 : Below (w.heap.size + 1) (w.alloc (.cells (cells37 c) 37)) w3 := hb.trans (hb2.mono hsz1)
  have hb0 : Below w.heap.size w w3 := ((Below.refl _ _).alloc (Nat.le_refl _) _).trans (hb1.mono (by omega))
  obtain ⟨hrow, hlt⟩ := own_rowI3 (f := fun _ => .int .i64 0) ho (made3 n)
  have hlt0 := h.lt
  refine ⟨(h.below hb0).more hlt0 (fun k e => (h.own e).1) (Nat.le_refl _), ?_, ?_, hrow, ⟨w.heap.size + 1, ?_⟩, ⟨by omega, by omega, hlt, hlt0⟩, h.2.2.2, Pz.of hb0 h.2.2.2⟩
  · exact (hb1.block _ (by omega)).trans (blk_new w _)
  · exact (hb3.block _ (by omega)).trans (blk_new w1 _)
  · exact Kd.R_below (Kd.R_mono (Kd.R_bound hU) (fun k hk => ⟨by omega, hk.2.2.1⟩)) hb2
theorem LS.rc (h : LS w0 Pr be nw cw Aw fr cb sb rb n h1 uv U v out c f w) {k : Nat} (hk : k < n) : w.cell? ⟨rb, k, none⟩ = some (.int .i64 (f k)) ∧ w.frozen? ⟨rb, k, none⟩ = false := ⟨World.rowIs.cell h.row hk, World.rowIs.frozen h.row k⟩
theorem boxK (c : S37) (fs : Nat → Int) {k : Nat} (hk : k < 3) : (cells37 (setK c fs k)).setIfInBounds (3 + k) (.int .i64 (fs k)) = cells37 (setK c fs (k + 1)) := by
  match k, hk with
  | 0, _ => rfl
  | 1, _ => rfl
  | 2, _ => rfl
theorem LS.bk (h : LS w0 Pr be nw cw Aw fr cb sb rb n h1 uv U v out c f w) {k : Nat} (hk : k < 3) : ∃ old : Int, w.cell? ⟨cb, 3 + k, none⟩ = some (.int .i64 old) ∧ w.frozen? ⟨cb, 3 + k, none⟩ = false := by
  match k, hk with
  | 0, _ => exact ⟨_, blk_cell h.box 3, blk_frozen h.box 3⟩
  | 1, _ => exact ⟨_, blk_cell h.box 4, blk_frozen h.box 4⟩
  | 2, _ => exact ⟨_, blk_cell h.box 5, blk_frozen h.box 5⟩
/-- The row of the places in the box. -/
def PB (w : World) (cb pb : Nat) : Prop := cb < pb ∧ w.heap[pb]? = some (.cells #[.pointer (some ⟨cb, 3, none⟩), .pointer (some ⟨cb, 4, none⟩), .pointer (some ⟨cb, 5, none⟩)] 110 (0, 0))
theorem PB.at {w : World} {cb pb k : Nat} (h : PB w cb pb) (hk : k < 3) : w.cell? ⟨pb, k, none⟩ = some (.pointer (some ⟨cb, 3 + k, none⟩)) := by
  rw [blk_cell h.2 k]
  match k, hk with
  | 0, _ => rfl
  | 1, _ => rfl
  | 2, _ => rfl
theorem PB.set {w : World} {cb pb : Nat} (h : PB w cb pb) (i : Nat) (u : Value) : PB (w.setCell ⟨cb, i, none⟩ u) cb pb := ⟨h.1, blk_far h.2 (fun e => by have e' : pb = cb := e; have := h.1; omega) u⟩
theorem LS.bx (h : LS w0 Pr be nw cw Aw fr cb sb rb n h1 uv U v out c f w) : (w.cell? ⟨cb, 0, none⟩ = some (.int .i64 c.f0) ∧ w.cell? ⟨cb, 1, none⟩ = some (.int .i64 c.f1) ∧ w.cell? ⟨cb, 2, none⟩ = some (.int .i64 c.f2) ∧ w.cell? ⟨cb, 3, none⟩ = some (.int .i64 c.f3) ∧ w.cell? ⟨cb, 4, none⟩ = some (.int .i64 c.f4) ∧ w.cell? ⟨cb, 5, none⟩ = some (.int .i64 c.f5) ∧ w.cell? ⟨cb, 6, none⟩ = some (.int .u64 c.f6) ∧ w.cell? ⟨cb, 7, none⟩ = some (.int .i64 c.f7)) ∧ (w.frozen? ⟨cb, 2, none⟩ = false ∧ w.frozen? ⟨cb, 3, none⟩ = false ∧ w.frozen? ⟨cb, 4, none⟩ = false ∧ w.frozen? ⟨cb, 5, none⟩ = false) :=
  ⟨⟨blk_cell h.box 0, blk_cell h.box 1, blk_cell h.box 2, blk_cell h.box 3, blk_cell h.box 4, blk_cell h.box 5, blk_cell h.box 6, blk_cell h.box 7⟩, ⟨blk_frozen h.box 2, blk_frozen h.box 3, blk_frozen h.box 4, blk_frozen h.box 5⟩⟩
theorem LS.ec (h : LS w0 Pr be nw cw Aw fr cb sb rb n h1 uv U v out c f w) : w.cell? ⟨be, 0, none⟩ = some (.slice Aw nw cw) ∧ w.cell? ⟨be, 1, none⟩ = some (.int .u64 fr) ∧ w.cell? ⟨be, 2, none⟩ = some v ∧ w.frozen? ⟨be, 2, none⟩ = false ∧ be < w.heap.size ∧ some be ≠ v.ownBlock := by
  obtain ⟨c0, c1, c2, f2⟩ := h.em.cells
  exact ⟨c0, c1, c2, f2, h.em.lt, fun e => (h.em.2.1.1 be e.symm).1 rfl⟩
end
def fk (ws U : List Int) (k : Nat) (j : Nat) : Int := if j < k then fsOf ws U j else 0
def CodePost (Pr : Nat → Prop) (be : Nat) (Aw : Option Addr) (nw cw : Nat) (fr : Int) (out : List S37) (ws : List Int) (c : S37) (w : World) (e : Ending) (w' : World) : Prop :=
  ∃ v', e = .returned (.tuple #[]) ∧ EM w' Pr be Aw nw cw fr v' (out ++ codeOut fr ws c) ∧ Pz Pr w w'
set_option maxHeartbeats 4000000 in
set_option maxRecDepth 100000 in
theorem code_calls (w00 : World) (Pr : Nat → Prop) (be nw cw : Nat) (Aw : Option Addr) (fr : Int) (v : Value) (out : List S37) (ws : List Int) (c : S37) (w : World) (hE : EM w Pr be Aw nw cw fr v out) (hW : Kd.C (Kd.int .i64) w00 Aw nw ws) (hB0 : Below w00.heap.size w00 w) (hP0 : ∀ k, k < w00.heap.size → Pr k)
    (hu : ∀ u ∈ us c, 0 ≤ u ∧ u < (nw : Int)) (hd : db c = true → 0 ≤ dv c ∧ dv c < (nw : Int)) (hl : out.length ≤ 999000) :
    Calls Tryd.prog 26 #[.pointer (some ⟨be, 0, none⟩), .agg (cells37 c)] w (CodePost Pr be Aw nw cw fr out ws c w) := by
  obtain ⟨K, hK⟩ := (Uses_eq c).ex
  obtain ⟨i0, hi, hz0, hz1, hz2⟩ := info_parts info3e
  obtain ⟨U, hU⟩ : ∃ U, U = us c := ⟨_, rfl⟩
  have hn3 := us_len c
  rw [← hU] at hK hn3
  obtain ⟨n, hn⟩ : ∃ n, n = U.length := ⟨_, rfl⟩
  rw [← hn] at hn3
  have HE := Lib.hid hE
  have HW := Lib.hid hW
  have HB0 := Lib.hid hB0
  have HP0 := Lib.hid hP0
  have HU := Lib.hid hU
  have HN := Lib.hid hn
  have HK := Lib.hid hK
  have HUS := Lib.hid hu
  have HD := Lib.hid hd
  clear hE hW hB0 hP0 hU hn hK hu hd
  unfold cells37
  go_enter Tryd.func26, Tryd.ntmps26
  go_wp2_with fail
  refine (code_Uses.calls K c.f0 c.f1 c.f2 c.f3 c.f4 c.f5 c.f6 c.f7 U _ HK.out).mono ?_
  rintro e w1 ⟨uv, rfl, hUv, hb1⟩
  obtain ⟨Au, cu, rfl⟩ := Kd.R_slice hUv
  rw [← HN.out] at hUv ⊢
  have HUV := Lib.hid hUv
  have HB1 := Lib.hid hb1
  clear hUv hb1
  go_wp2_with (first
    | (at_make; refine wpList_make_full _ rfl _ _ 28 rfl (w1.heap.size + 1) 3 i0 (.int .i64 0) 1 Tryd.underlying28 hi hz0 hz1 .i64 .i64 n n n rfl rfl rfl rfl (by rw [hz2]; omega) (by unfold maxLen; omega) (by simp) ?_; intro w3 hown3 hg3; have HOW := Lib.hid hown3; have HG3 := Lib.hid hg3; clear hown3 hg3)
    | fail)
  have hLS := LS.start HE.out HUV.out HB1.out HOW.out HG3.out
  have hB3 : Below w00.heap.size w00 w3 := HB0.out.trans (hLS.pz.toBelow HP0.out)
  have hs2 : (w1.alloc (.cells #[.int .i64 5, .int .i64 6, .int .i64 7] 3)).heap.size = w1.heap.size + 1 := by simp
  try rw [hs2]
  clear HUV HB1 HOW HG3 hs2 hi hz0 hz1 hz2
  generalize w3.heap.size = h1 at hLS
  generalize w1.heap.size + 1 = rb at hLS ⊢
  generalize w1.heap.size = sb at hLS ⊢
  obtain ⟨cb, hcb⟩ : ∃ cb, cb = w.heap.size := ⟨_, rfl⟩
  rw [← hcb] at hLS ⊢
  have HCB := Lib.hid hcb
  have HLS := Lib.hid hLS
  clear hLS hcb hB3
  go_loopw [23] (fun i wr => ∃ (v1 : Value) (k : Nat), k ≤ n ∧ i = .int .i64 k ∧ Hid (LS w Pr be nw cw Aw fr cb sb rb n h1 (.slice Au n cu) U v1 (out ++ readsTo fr ws U k) c (fk ws U k) wr)) (fun i _ => n - (intOf i).toNat)
  case atStart => exact ⟨v, 0, Nat.zero_le _, rfl, Lib.hid (by
    have : fk ws U 0 = fun _ => 0 := funext fun j => by simp [fk]
    rw [this]
    simpa [readsTo] using HLS.out)⟩
  case round =>
    clear HLS
    obtain ⟨v1, k, hk, rfl, HLS⟩ := hrel
    by_cases hkn : k < n
    · obtain ⟨base, hUse⟩ := HLS.out.use
      obtain ⟨qn, qc, hC⟩ := Kd.R_reads' hUse
      rw [← HN.out] at hC
      obtain ⟨ad, rfl, hx⟩ := Kd.at_int hC (k : Int) (by omega) (by omega)
      rw [Int.toNat_natCast] at hx
      have hmem : rd U (k : Int) ∈ us c := by
        rw [rd_at U k (by rw [← HN.out]; exact hkn), ← HU.out]
        exact List.getElem_mem _
      have hxu := HUS.out _ hmem
      obtain ⟨x, hx0⟩ : ∃ x, x = rd U (k : Int) := ⟨_, rfl⟩
      rw [← hx0] at hx hxu
      have HX := Lib.hid hx0
      have hsc := HLS.out.sc k (by omega)
      have HR := Lib.hid (register_calls (P1 Pr cb h1) be nw cw Aw fr v1 (out ++ readsTo fr ws U k) ws x (5 + (k : Int)) wr HLS.out.em (Kd.C_below HW.out (HB0.out.trans (HLS.out.pz.toBelow HP0.out))) hxu.1 hxu.2 (by rw [List.length_append]; have := readsTo_len fr ws U k; omega))
      clear hx0 hmem hUse hC qn qc
      go_wp2_with fail
      refine HR.out.mono ?_
      rintro e w5 ⟨v2, rfl, hE5, hP5⟩
      have hL5 := HLS.out.step hP5 hE5
      obtain ⟨hr1, hr2⟩ := hL5.rc hkn
      have HL5 := Lib.hid hL5
      clear hE5 hP5 hL5 HR hx hsc
      go_wp2_with fail
      go_roundw
      case rel =>
        refine ⟨v2, k + 1, by omega, by go_num, Lib.hid ?_⟩
        have h := HL5.out.setRow k (regOf ws x (5 + (k : Int)))
        have e1 : out ++ readsTo fr ws U (k + 1) = out ++ readsTo fr ws U k ++ regC fr ws x (5 + (k : Int)) := by
          rw [readsTo, ← HX.out, List.append_assoc]
        have e2 : fk ws U (k + 1) = fun j => if j = k then regOf ws x (5 + (k : Int)) else fk ws U k j := by
          funext j
          unfold fk fsOf
          by_cases ej : j = k
          · subst ej
            rw [if_pos (by omega), if_pos rfl, HX.out]
          · rw [if_neg ej]
            by_cases hj : j < k
            · rw [if_pos (by omega), if_pos hj]
            · rw [if_neg (by omega), if_neg hj]
        rw [e1, e2]
        exact h
      case measure => simp [intOf]; omega
    · obtain rfl : k = n := by omega
      obtain ⟨v5, hv5⟩ : ∃ v5, v5 = v1 := ⟨_, rfl⟩
      rw [← hv5] at HLS
      clear hv5
      have HLN : Hid ((out ++ readsTo fr ws U k).length ≤ 1000000) := Lib.hid (by rw [List.length_append]; have := readsTo_len fr ws U k; omega)
      have HLN2 : ∀ d : S37, Hid ((out ++ readsTo fr ws U k ++ [d]).length ≤ 1000000) := fun d => Lib.hid (by rw [List.length_append, List.length_append]; have := readsTo_len fr ws U k; simp; omega)
      by_cases h5 : c.f0 = 5
      · have t5 : (c.f0 == 5) = true := by simp [h5]
        have HDB : Hid (db c = false) := Lib.hid (by unfold db; simp [h5])
        by_cases h3 : c.f3 < 0
        · have t3 : decide (c.f3 < 0) = true := decide_eq_true h3
          have hU1 : U = [c.f4] := by
            rw [HU.out]
            unfold us
            simp [h5, Int.not_le.2 h3]
          obtain rfl : k = 1 := by rw [HN.out, hU1]; rfl
          obtain ⟨r0, _⟩ := HLS.out.rc (k := 0) (by omega)
          obtain ⟨y, hy⟩ : ∃ y, y = fk ws U 1 0 := ⟨_, rfl⟩
          rw [← hy] at r0
          have HSR : Hid (setRegs ws c = setB c y) := Lib.hid (by
            unfold setRegs
            rw [if_pos ⟨h5, h3⟩, hy, ← HU.out]
            rfl)
          have HDF : Hid (code_Defines.f c.f0 c.f1 c.f2 c.f3 y c.f5 c.f6 c.f7 = some (0, false)) := Lib.hid (by unfold code_Defines.f; simp [h5])
          have HL := HLS
          have HU1 := Lib.hid hU1
          clear hy hU1 h5 h3
          obtain ⟨⟨b0, b1, b2, b3, b4, b5, b6, b7⟩, ⟨z2, z3, z4, z5⟩⟩ := HL.out.bx
          go_wp2_with fail
          replace HL := Lib.hid (HL.out.setBox 4 (.int .i64 y) (c' := setB c y) rfl)
          generalize wr.setCell ⟨cb, 4, none⟩ (.int .i64 y) = w5 at HL ⊢
          clear b0 b1 b2 b3 b4 b5 b6 b7 z2 z3 z4 z5 r0
          have hL6 := HL.out
          refine (code_Defines.calls c.f0 c.f1 c.f2 c.f3 y c.f5 c.f6 c.f7 0 false _ HDF.out).mono ?_
          rintro e w6 ⟨rfl, hb6⟩
          have HL := Lib.hid (hL6.below hb6)
          clear hL6 hb6
          obtain ⟨⟨b0, b1, b2, b3, b4, b5, b6, b7⟩, ⟨z2, z3, z4, z5⟩⟩ := HL.out.bx
          try dsimp only [setB, setK] at b0 b1 b2 b3 b4 b5 b6 b7
          go_wp2_with fail
          obtain ⟨e0, e1, e2, ez, hlt, ag⟩ := HL.out.ec
          go_region_law
            (first
              | ((with_reducible refine step_append_37 _ _ _ _ (.tmp 93) (.tmp 95) v5 (out ++ readsTo fr ws U 1 ) (setB c y) (fun k => k ≠ be ∧ ¬ P1 Pr cb h1 k) w6.heap.size ?aS ?aX ?aO ?aB HLN.out ?aF ?_); (case aS => rfl); (case aX => rfl); (case aO => (with_reducible repeat (first | apply Kd.R_alloc | apply Kd.R_drewN | apply Kd.R_drew)); exact HL.out.em.2.1); (case aB => exact heap_alloc_new w6 _); (case aF => intro k hk; simp at hk; exact ⟨by omega, fun hp => by have := HL.out.em.2.2.2 k hp; omega⟩); intro v6 w7 hR1 hgrow; have f2b : w7.frozen? ⟨be, 2, none⟩ = false := (hgrow.frozen_far _ (by simp; omega) ag).trans ((((Below.refl w6.heap.size w6).alloc (Nat.le_refl _) _).frozen (p := ⟨be, 2, none⟩) hlt).trans ez); have c2b : w7.cell? ⟨be, 2, none⟩ = some v5 := (hgrow.cell_far _ (by simp; omega) ag).trans ((((Below.refl w6.heap.size w6).alloc (Nat.le_refl _) _).cell (p := ⟨be, 2, none⟩) hlt).trans e2); obtain ⟨A1, n1, k1, rfl, HR1⟩ := slice_of hR1; clear hR1))
          all_goals (try (go_wp2_with fail))
          all_goals
            obtain ⟨q1, q2⟩ := HR1.out
            obtain ⟨q3, q4⟩ := EM.put HL.out.em hgrow q2
            refine bodyPost_ret (v := .tuple #[]) (by simp [results, Tryd.results26, go_sem]) rfl (show CodePost Pr be Aw nw cw fr out ws c w (.returned (.tuple #[])) _ from ⟨.slice A1 n1 k1, rfl, ?_, HL.out.pz.trans (q4.mono fun k hk => .inl hk)⟩)
            have q5 := q3.less
            have e6 : out ++ codeOut fr ws c = out ++ readsTo fr ws U 1 ++ [(setB c y)] := by
              unfold codeOut
              rw [← HU.out, ← HN.out, if_neg (by rw [HDB.out]; simp), HSR.out, List.append_assoc]
            rw [e6]
            exact q5
        · have t3 : decide (c.f3 < 0) = false := decide_eq_false h3
          have hU1 : U = [c.f3, c.f4] := by
            rw [HU.out]
            unfold us
            simp [h5, Int.not_lt.1 h3]
          obtain rfl : k = 2 := by rw [HN.out, hU1]; rfl
          obtain ⟨r0, _⟩ := HLS.out.rc (k := 0) (by omega)
          obtain ⟨r1, _⟩ := HLS.out.rc (k := 1) (by omega)
          obtain ⟨y0, hy0⟩ : ∃ y, y = fk ws U 2 0 := ⟨_, rfl⟩
          obtain ⟨y1, hy1⟩ : ∃ y, y = fk ws U 2 1 := ⟨_, rfl⟩
          rw [← hy0] at r0
          rw [← hy1] at r1
          have HSR : Hid (setRegs ws c = ⟨c.f0, c.f1, c.f2, y0, y1, c.f5, c.f6, c.f7⟩) := Lib.hid (by
            unfold setRegs
            rw [if_neg (fun h => h3 h.2), hy0, hy1, ← HU.out, ← HN.out]
            rfl)
          have HDF : Hid (code_Defines.f c.f0 c.f1 c.f2 y0 y1 c.f5 c.f6 c.f7 = some (0, false)) := Lib.hid (by unfold code_Defines.f; simp [h5])
          have HL := HLS
          have HU1 := Lib.hid hU1
          clear hy0 hy1 hU1 h5 h3
          obtain ⟨⟨b0, b1, b2, b3, b4, b5, b6, b7⟩, ⟨z2, z3, z4, z5⟩⟩ := HL.out.bx
          go_wp2_with fail
          go_region
          replace HL := Lib.hid (((HL.out.setBox 3 (.int .i64 y0) (c' := ⟨c.f0, c.f1, c.f2, y0, c.f4, c.f5, c.f6, c.f7⟩) rfl).setBox 4 (.int .i64 y1) (c' := ⟨c.f0, c.f1, c.f2, y0, y1, c.f5, c.f6, c.f7⟩) rfl).below ((Below.refl _ _).drew))
          generalize ((wr.setCell ⟨cb, 3, none⟩ (.int .i64 y0)).setCell ⟨cb, 4, none⟩ (.int .i64 y1)).drew = w5 at HL ⊢
          clear b0 b1 b2 b3 b4 b5 b6 b7 z2 z3 z4 z5 r0 r1
          obtain ⟨⟨b0, b1, b2, b3, b4, b5, b6, b7⟩, ⟨z2, z3, z4, z5⟩⟩ := HL.out.bx
          go_wp2_with fail
          clear b0 b1 b2 b3 b4 b5 b6 b7 z2 z3 z4 z5
          have hL6 := HL.out
          refine (code_Defines.calls c.f0 c.f1 c.f2 y0 y1 c.f5 c.f6 c.f7 0 false _ HDF.out).mono ?_
          rintro e w6 ⟨rfl, hb6⟩
          have HL := Lib.hid (hL6.below hb6)
          clear hL6 hb6
          obtain ⟨⟨b0, b1, b2, b3, b4, b5, b6, b7⟩, ⟨z2, z3, z4, z5⟩⟩ := HL.out.bx
          try dsimp only [setB, setK] at b0 b1 b2 b3 b4 b5 b6 b7
          go_wp2_with fail
          obtain ⟨e0, e1, e2, ez, hlt, ag⟩ := HL.out.ec
          go_region_law
            (first
              | ((with_reducible refine step_append_37 _ _ _ _ (.tmp 93) (.tmp 95) v5 (out ++ readsTo fr ws U 2 ) ⟨c.f0, c.f1, c.f2, y0, y1, c.f5, c.f6, c.f7⟩ (fun k => k ≠ be ∧ ¬ P1 Pr cb h1 k) w6.heap.size ?aS ?aX ?aO ?aB HLN.out ?aF ?_); (case aS => rfl); (case aX => rfl); (case aO => (with_reducible repeat (first | apply Kd.R_alloc | apply Kd.R_drewN | apply Kd.R_drew)); exact HL.out.em.2.1); (case aB => exact heap_alloc_new w6 _); (case aF => intro k hk; simp at hk; exact ⟨by omega, fun hp => by have := HL.out.em.2.2.2 k hp; omega⟩); intro v6 w7 hR1 hgrow; have f2b : w7.frozen? ⟨be, 2, none⟩ = false := (hgrow.frozen_far _ (by simp; omega) ag).trans ((((Below.refl w6.heap.size w6).alloc (Nat.le_refl _) _).frozen (p := ⟨be, 2, none⟩) hlt).trans ez); have c2b : w7.cell? ⟨be, 2, none⟩ = some v5 := (hgrow.cell_far _ (by simp; omega) ag).trans ((((Below.refl w6.heap.size w6).alloc (Nat.le_refl _) _).cell (p := ⟨be, 2, none⟩) hlt).trans e2); obtain ⟨A1, n1, k1, rfl, HR1⟩ := slice_of hR1; clear hR1))
          all_goals (try (go_wp2_with fail))
          all_goals
            obtain ⟨q1, q2⟩ := HR1.out
            obtain ⟨q3, q4⟩ := EM.put HL.out.em hgrow q2
            refine bodyPost_ret (v := .tuple #[]) (by simp [results, Tryd.results26, go_sem]) rfl (show CodePost Pr be Aw nw cw fr out ws c w (.returned (.tuple #[])) _ from ⟨.slice A1 n1 k1, rfl, ?_, HL.out.pz.trans (q4.mono fun k hk => .inl hk)⟩)
            have q5 := q3.less
            have e6 : out ++ codeOut fr ws c = out ++ readsTo fr ws U 2 ++ [⟨c.f0, c.f1, c.f2, y0, y1, c.f5, c.f6, c.f7⟩] := by
              unfold codeOut
              rw [← HU.out, ← HN.out, if_neg (by rw [HDB.out]; simp), HSR.out, List.append_assoc]
            rw [e6]
            exact q5
      · have t5 : (c.f0 == 5) = false := by simp [h5]
        have HSR0 : Hid (setRegs ws c = setK c (fsOf ws U) k) := Lib.hid (by
          unfold setRegs
          rw [if_neg (fun h => h5 h.1), ← HU.out, ← HN.out])
        have HL := HLS
        clear h5
        obtain ⟨⟨b0, b1, b2, b3, b4, b5, b6, b7⟩, ⟨z2, z3, z4, z5⟩⟩ := HL.out.bx
        go_wp2_with fail
        obtain ⟨pb, hpb⟩ : ∃ pb, pb = wr.heap.size := ⟨_, rfl⟩
        have hPB : PB (wr.alloc (.cells #[.pointer (some ⟨cb, 3, none⟩), .pointer (some ⟨cb, 4, none⟩), .pointer (some ⟨cb, 5, none⟩)] 110)) cb pb := ⟨by rw [hpb]; exact blk_lt HL.out.box, by rw [hpb]; exact blk_new _ _⟩
        replace HL := Lib.hid (HL.out.alloc (.cells #[.pointer (some ⟨cb, 3, none⟩), .pointer (some ⟨cb, 4, none⟩), .pointer (some ⟨cb, 5, none⟩)] 110))
        rw [← hpb]
        generalize wr.alloc (.cells #[.pointer (some ⟨cb, 3, none⟩), .pointer (some ⟨cb, 4, none⟩), .pointer (some ⟨cb, 5, none⟩)] 110) = w5 at HL hPB ⊢
        have HPB := Lib.hid hPB
        clear b0 b1 b2 b3 b4 b5 b6 b7 z2 z3 z4 z5 hpb hPB HLS
        have hk3 : k ≤ 3 := hn3
        go_loopw [45] (fun i wr => ∃ (j : Nat), j ≤ k ∧ i = .int .i64 j ∧ Hid (LS w Pr be nw cw Aw fr cb sb rb k h1 (.slice Au k cu) U v5 (out ++ readsTo fr ws U k) (setK c (fsOf ws U) j) (fk ws U k) wr) ∧ Hid (PB wr cb pb)) (fun i _ => k - (intOf i).toNat)
        case atStart => exact ⟨0, Nat.zero_le _, rfl, Lib.hid (by simpa [setK] using HL.out), HPB⟩
        case round =>
          clear HL HPB
          obtain ⟨j, hj, rfl, HL, HPB⟩ := hrel
          by_cases hjk : j < k
          · obtain ⟨r0, _⟩ := HL.out.rc hjk
            have e0 : fk ws U k j = fsOf ws U j := if_pos hjk
            rw [e0] at r0
            obtain ⟨y, hy⟩ : ∃ y, y = fsOf ws U j := ⟨_, rfl⟩
            rw [← hy] at r0
            have HY := Lib.hid hy
            have p0 := HPB.out.at (k := j) (by omega)
            obtain ⟨old, p1, p2⟩ := HL.out.bk (k := j) (by omega)
            have hLn := HL.out.setBox (3 + j) (.int .i64 y) (c' := setK c (fsOf ws U) (j + 1)) (by rw [hy]; exact boxK c _ (by omega))
            have hPn := HPB.out.set (3 + j) (.int .i64 y)
            have HLN := Lib.hid hLn
            have HPN := Lib.hid hPn
            clear hy hLn hPn e0
            go_wp2_with fail
            go_roundw
            case rel => exact ⟨j + 1, by omega, by go_num, HLN, HPN⟩
            case measure => simp [intOf]; omega
          · obtain rfl : j = k := by omega
            obtain ⟨D, hD⟩ : ∃ D, D = setK c (fsOf ws U) j := ⟨_, rfl⟩
            rw [← hD] at HL HSR0
            have hD0 : D.f0 = c.f0 := by rw [hD]; rfl
            have hD2 : D.f2 = c.f2 := by rw [hD]; rfl
            have HSR := HSR0
            have eq1 : db D = db c := by unfold db; rw [hD0]
            have eq2 : dv D = dv c := by unfold dv; rw [hD0, hD2]
            have hDF := Defines_eq D
            rw [eq1, eq2] at hDF
            clear hD hD0 hD2 eq1 eq2 HSR0 HPB
            by_cases hdb : db c = true
            · obtain ⟨t0, t1⟩ := HD.out hdb
              obtain ⟨tg, hto⟩ : ∃ tg, tg = dv c := ⟨_, rfl⟩
              rw [hdb, ← hto] at hDF
              rw [← hto] at t0 t1
              have HTO := Lib.hid hto
              have HDF := Lib.hid hDF
              have HDB := Lib.hid hdb
              clear hdb hto hDF
              obtain ⟨⟨b0, b1, b2, b3, b4, b5, b6, b7⟩, ⟨z2, z3, z4, z5⟩⟩ := HL.out.bx
              go_wp2_with fail
              have hL6 := HL.out
              refine (code_Defines.calls D.f0 D.f1 D.f2 D.f3 D.f4 D.f5 D.f6 D.f7 tg true _ HDF.out).mono ?_
              rintro e w6 ⟨rfl, hb6⟩
              have HL := Lib.hid (hL6.below hb6)
              clear hL6 hb6 b0 b1 b2 b3 b4 b5 b6 b7 z2 z3 z4 z5
              obtain ⟨ad, hA, hx⟩ := Kd.at_int (Kd.C_below HW.out (HB0.out.trans (HL.out.pz.toBelow HP0.out))) tg t0 t1
              subst hA
              obtain ⟨y, hy⟩ : ∃ y, y = rd ws tg := ⟨_, rfl⟩
              rw [← hy] at hx
              have HY := Lib.hid hy
              clear hy
              obtain ⟨e0, e1, e2, ez, hlt, ag⟩ := HL.out.ec
              obtain ⟨⟨b0, b1, b2, b3, b4, b5, b6, b7⟩, ⟨z2, z3, z4, z5⟩⟩ := HL.out.bx
              by_cases hy0 : y < 0
              · have ty : decide (y < 0) = true := decide_eq_true hy0
                go_wp2_with fail
                replace HL := Lib.hid ((HL.out.setBox 2 (.int .i64 y) (c' := setTo D y) rfl).setBox 2 (.int .i64 5) (c' := setTo D 5) rfl)
                generalize (w6.setCell ⟨cb, 2, none⟩ (.int .i64 y)).setCell ⟨cb, 2, none⟩ (.int .i64 5) = w8 at HL ⊢
                clear b0 b1 b2 b3 b4 b5 b6 b7 z2 z3 z4 z5 e0 e1 e2 ez hlt ag
                obtain ⟨⟨b0, b1, b2, b3, b4, b5, b6, b7⟩, ⟨z2, z3, z4, z5⟩⟩ := HL.out.bx
                dsimp only [setTo] at b0 b1 b2 b3 b4 b5 b6 b7
                obtain ⟨e0, e1, e2, ez, hlt, ag⟩ := HL.out.ec
                go_region_law
                  (first
                    | ((with_reducible refine step_append_37 _ _ _ _ (.tmp 115) (.tmp 117) v5 (out ++ readsTo fr ws U j ) (setTo D 5) (fun k => k ≠ be ∧ ¬ P1 Pr cb h1 k) w8.heap.size ?aS ?aX ?aO ?aB HLN.out ?aF ?_); (case aS => rfl); (case aX => rfl); (case aO => (with_reducible repeat (first | apply Kd.R_alloc | apply Kd.R_drewN | apply Kd.R_drew)); exact HL.out.em.2.1); (case aB => exact heap_alloc_new w8 _); (case aF => intro k hk; simp at hk; exact ⟨by omega, fun hp => by have := HL.out.em.2.2.2 k hp; omega⟩); intro v6 w7 hR1 hgrow; have f2b : w7.frozen? ⟨be, 2, none⟩ = false := (hgrow.frozen_far _ (by simp; omega) ag).trans ((((Below.refl w8.heap.size w8).alloc (Nat.le_refl _) _).frozen (p := ⟨be, 2, none⟩) hlt).trans ez); have c2b : w7.cell? ⟨be, 2, none⟩ = some v5 := (hgrow.cell_far _ (by simp; omega) ag).trans ((((Below.refl w8.heap.size w8).alloc (Nat.le_refl _) _).cell (p := ⟨be, 2, none⟩) hlt).trans e2); obtain ⟨A1, n1, k1, rfl, HR1⟩ := slice_of hR1; clear hR1))
                all_goals
                  obtain ⟨q1, q2⟩ := HR1.out
                  obtain ⟨q3, q4⟩ := EM.put HL.out.em hgrow q2
                  replace HL := Lib.hid (HL.out.step q4 q3)
                  clear q1 q2 q3 q4 f2b c2b hgrow HR1 b0 b1 b2 b3 b4 b5 b6 b7 z2 z3 z4 z5 e0 e1 e2 ez hlt ag
                  generalize w7.setCell ⟨be, 2, none⟩ (.slice A1 n1 k1) = w9 at HL ⊢
                  go_wp2_with fail
                all_goals
                  obtain ⟨e0, e1, e2, ez, hlt, ag⟩ := HL.out.ec
                  go_region_law
                    (first
                      | ((with_reducible refine step_append_37 _ _ _ _ (.tmp 127) (.tmp 132) (.slice A1 n1 k1) (out ++ readsTo fr ws U j ++ [setTo D 5]) (writeC fr y) (fun k => k ≠ be ∧ ¬ P1 Pr cb h1 k) w9.heap.size ?aS ?aX ?aO ?aB (HLN2 _).out ?aF ?_); (case aS => rfl); (case aX => rfl); (case aO => (with_reducible repeat (first | apply Kd.R_alloc | apply Kd.R_drewN | apply Kd.R_drew)); exact HL.out.em.2.1); (case aB => exact heap_alloc_new w9 _); (case aF => intro k hk; simp at hk; exact ⟨by omega, fun hp => by have := HL.out.em.2.2.2 k hp; omega⟩); intro v6 w10 hR1 hgrow2; have f2b : w10.frozen? ⟨be, 2, none⟩ = false := (hgrow2.frozen_far _ (by simp; omega) ag).trans ((((Below.refl w9.heap.size w9).alloc (Nat.le_refl _) _).frozen (p := ⟨be, 2, none⟩) hlt).trans ez); have c2b : w10.cell? ⟨be, 2, none⟩ = some (.slice A1 n1 k1) := (hgrow2.cell_far _ (by simp; omega) ag).trans ((((Below.refl w9.heap.size w9).alloc (Nat.le_refl _) _).cell (p := ⟨be, 2, none⟩) hlt).trans e2); obtain ⟨A2, n2, k2, rfl, HR2⟩ := slice_of hR1; clear hR1)
                      | (go_simp; go_at_call 52; refine (slot_calls be fr y _ (by assumption)).mono ?_; rintro e w1 ⟨rfl, rfl⟩))
                all_goals (try (go_wp2_with fail))
                all_goals
                  obtain ⟨q1, q2⟩ := HR2.out
                  obtain ⟨q3, q4⟩ := EM.put HL.out.em hgrow2 q2
                  have HF : Hid (CodePost Pr be (some ad) nw cw fr out ws c w (.returned (.tuple #[])) (w10.setCell ⟨be, 2, none⟩ (.slice A2 n2 k2))) := Lib.hid ⟨.slice A2 n2 k2, rfl, by
                    have q5 := q3.less
                    have e6 : out ++ codeOut fr ws c = out ++ readsTo fr ws U j ++ [setTo D 5] ++ [writeC fr y] := by
                      unfold codeOut
                      rw [← HU.out, ← HN.out, if_pos HDB.out, ← HTO.out, ← HY.out, if_pos hy0, HSR.out, List.append_assoc, List.append_assoc]
                      rfl
                    rw [e6]
                    exact q5, HL.out.pz.trans (q4.mono fun k hk => .inl hk)⟩
                  go_end0
                  exact HF.out
              · have ty : decide (y < 0) = false := decide_eq_false hy0
                go_wp2_with fail
                replace HL := Lib.hid (HL.out.setBox 2 (.int .i64 y) (c' := setTo D y) rfl)
                generalize w6.setCell ⟨cb, 2, none⟩ (.int .i64 y) = w8 at HL ⊢
                clear b0 b1 b2 b3 b4 b5 b6 b7 z2 z3 z4 z5 e0 e1 e2 ez hlt ag
                obtain ⟨⟨b0, b1, b2, b3, b4, b5, b6, b7⟩, ⟨z2, z3, z4, z5⟩⟩ := HL.out.bx
                dsimp only [setTo] at b0 b1 b2 b3 b4 b5 b6 b7
                obtain ⟨e0, e1, e2, ez, hlt, ag⟩ := HL.out.ec
                go_region_law
                  (first
                    | ((with_reducible refine step_append_37 _ _ _ _ (.tmp 115) (.tmp 117) v5 (out ++ readsTo fr ws U j ) (setTo D y) (fun k => k ≠ be ∧ ¬ P1 Pr cb h1 k) w8.heap.size ?aS ?aX ?aO ?aB HLN.out ?aF ?_); (case aS => rfl); (case aX => rfl); (case aO => (with_reducible repeat (first | apply Kd.R_alloc | apply Kd.R_drewN | apply Kd.R_drew)); exact HL.out.em.2.1); (case aB => exact heap_alloc_new w8 _); (case aF => intro k hk; simp at hk; exact ⟨by omega, fun hp => by have := HL.out.em.2.2.2 k hp; omega⟩); intro v6 w7 hR1 hgrow; have f2b : w7.frozen? ⟨be, 2, none⟩ = false := (hgrow.frozen_far _ (by simp; omega) ag).trans ((((Below.refl w8.heap.size w8).alloc (Nat.le_refl _) _).frozen (p := ⟨be, 2, none⟩) hlt).trans ez); have c2b : w7.cell? ⟨be, 2, none⟩ = some v5 := (hgrow.cell_far _ (by simp; omega) ag).trans ((((Below.refl w8.heap.size w8).alloc (Nat.le_refl _) _).cell (p := ⟨be, 2, none⟩) hlt).trans e2); obtain ⟨A1, n1, k1, rfl, HR1⟩ := slice_of hR1; clear hR1))
                all_goals (try (go_wp2_with fail))
                all_goals
                  obtain ⟨q1, q2⟩ := HR1.out
                  obtain ⟨q3, q4⟩ := EM.put HL.out.em hgrow q2
                  have HF : Hid (CodePost Pr be (some ad) nw cw fr out ws c w (.returned (.tuple #[])) (w7.setCell ⟨be, 2, none⟩ (.slice A1 n1 k1))) := Lib.hid ⟨.slice A1 n1 k1, rfl, by
                    have q5 := q3.less
                    have e6 : out ++ codeOut fr ws c = out ++ readsTo fr ws U j ++ [setTo D y] := by
                      unfold codeOut
                      rw [← HU.out, ← HN.out, if_pos HDB.out, ← HTO.out, ← HY.out, if_neg (show ¬ y < 0 by omega), HSR.out, List.append_assoc]
                    rw [e6]
                    exact q5, HL.out.pz.trans (q4.mono fun k hk => .inl hk)⟩
                  go_end0
                  exact HF.out
            · have hdb' : db c = false := by simpa using hdb
              have h0 : dv c = 0 := by
                unfold db at hdb'
                unfold dv
                rw [if_neg (by simpa using hdb')]
              rw [hdb', h0] at hDF
              have HDF := Lib.hid hDF
              have HDB := Lib.hid hdb'
              clear hdb hdb' h0 hDF
              obtain ⟨⟨b0, b1, b2, b3, b4, b5, b6, b7⟩, ⟨z2, z3, z4, z5⟩⟩ := HL.out.bx
              go_wp2_with fail
              clear b0 b1 b2 b3 b4 b5 b6 b7 z2 z3 z4 z5
              have hL6 := HL.out
              refine (code_Defines.calls D.f0 D.f1 D.f2 D.f3 D.f4 D.f5 D.f6 D.f7 0 false _ HDF.out).mono ?_
              rintro e w6 ⟨rfl, hb6⟩
              have HL := Lib.hid (hL6.below hb6)
              clear hL6 hb6
              obtain ⟨⟨b0, b1, b2, b3, b4, b5, b6, b7⟩, ⟨z2, z3, z4, z5⟩⟩ := HL.out.bx
              try dsimp only [setB, setK] at b0 b1 b2 b3 b4 b5 b6 b7
              go_wp2_with fail
              obtain ⟨e0, e1, e2, ez, hlt, ag⟩ := HL.out.ec
              go_region_law
                (first
                  | ((with_reducible refine step_append_37 _ _ _ _ (.tmp 93) (.tmp 95) v5 (out ++ readsTo fr ws U j ) D (fun k => k ≠ be ∧ ¬ P1 Pr cb h1 k) w6.heap.size ?aS ?aX ?aO ?aB HLN.out ?aF ?_); (case aS => rfl); (case aX => rfl); (case aO => (with_reducible repeat (first | apply Kd.R_alloc | apply Kd.R_drewN | apply Kd.R_drew)); exact HL.out.em.2.1); (case aB => exact heap_alloc_new w6 _); (case aF => intro k hk; simp at hk; exact ⟨by omega, fun hp => by have := HL.out.em.2.2.2 k hp; omega⟩); intro v6 w7 hR1 hgrow; have f2b : w7.frozen? ⟨be, 2, none⟩ = false := (hgrow.frozen_far _ (by simp; omega) ag).trans ((((Below.refl w6.heap.size w6).alloc (Nat.le_refl _) _).frozen (p := ⟨be, 2, none⟩) hlt).trans ez); have c2b : w7.cell? ⟨be, 2, none⟩ = some v5 := (hgrow.cell_far _ (by simp; omega) ag).trans ((((Below.refl w6.heap.size w6).alloc (Nat.le_refl _) _).cell (p := ⟨be, 2, none⟩) hlt).trans e2); obtain ⟨A1, n1, k1, rfl, HR1⟩ := slice_of hR1; clear hR1))
              all_goals (try (go_wp2_with fail))
              all_goals
                obtain ⟨q1, q2⟩ := HR1.out
                obtain ⟨q3, q4⟩ := EM.put HL.out.em hgrow q2
                refine bodyPost_ret (v := .tuple #[]) (by simp [results, Tryd.results26, go_sem]) rfl (show CodePost Pr be Aw nw cw fr out ws c w (.returned (.tuple #[])) _ from ⟨.slice A1 n1 k1, rfl, ?_, HL.out.pz.trans (q4.mono fun k hk => .inl hk)⟩)
                have q5 := q3.less
                have e6 : out ++ codeOut fr ws c = out ++ readsTo fr ws U j ++ [D] := by
                  unfold codeOut
                  rw [← HU.out, ← HN.out, if_neg (by rw [HDB.out]; simp), HSR.out, List.append_assoc]
                rw [e6]
                exact q5
end Go.Proofs.YtepgpapljoelhaaDoor.PE
