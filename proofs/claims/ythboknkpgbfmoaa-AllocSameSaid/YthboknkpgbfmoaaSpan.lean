/- The contract of live.Spans. -/
import Derived.Test.YthboknkpgbfmoaaLive
import Derived.Deep.OwnRows
namespace Go.Proofs.Ythboknkpgbfmoaa.PA
open Go.RowKit Go.WideMaps Go.Maps Go.Proofs.YthboknkpgbfmoaaW.PrintWords
set_option linter.unusedVariables false
set_option linter.unusedSimpArgs false

/-- A row of spans. -/
def cellS (s : Nat → Int × Int) : Nat → Value := fun i => .int .i64 (if i % 2 = 0 then (s (i / 2)).1 else (s (i / 2)).2)
def SR (w : World) (g n : Nat) (s : Nat → Int × Int) : Prop := w.rowIs g 55 (n * 2) (cellS s)
def mk1 (p : Int × Int) (k : Int) : Int × Int := (if p.1 < 0 then k else p.1, k)
def mark (s : Nat → Int × Int) (v k : Int) : Nat → Int × Int := fun i => if (i : Int) = v then mk1 (s i) k else s i
theorem SR.c0 {w : World} {g n : Nat} {s : Nat → Int × Int} (h : SR w g n s) {i : Nat} (hi : i < n) : w.cell? ⟨g, i * 2, none⟩ = some (.int .i64 (s i).1) := by
  rw [World.rowIs.cell h (by omega)]
  simp [cellS]
theorem SR.c1 {w : World} {g n : Nat} {s : Nat → Int × Int} (h : SR w g n s) {i : Nat} (hi : i < n) : w.cell? ⟨g, i * 2 + 1, none⟩ = some (.int .i64 (s i).2) := by
  rw [World.rowIs.cell h (by omega)]
  simp [cellS, show (i * 2 + 1) % 2 = 1 by omega, show (i * 2 + 1) / 2 = i by omega]
theorem SR.set0 {w : World} {g n : Nat} {s : Nat → Int × Int} (h : SR w g n s) (i : Nat) (k : Int) : SR (w.setCell ⟨g, i * 2, none⟩ (.int .i64 k)) g n (fun j => if j = i then (k, (s j).2) else s j) := by
  refine (World.rowIs.set h (i * 2) _).congr fun j hj => ?_
  unfold cellS
  by_cases e : j = i * 2
  · subst e
    simp
  · rw [if_neg e]
    by_cases e2 : j / 2 = i
    · have : j % 2 = 1 := by omega
      simp [e2, this]
    · simp [e2]
theorem SR.set1 {w : World} {g n : Nat} {s : Nat → Int × Int} (h : SR w g n s) (i : Nat) (k : Int) : SR (w.setCell ⟨g, i * 2 + 1, none⟩ (.int .i64 k)) g n (fun j => if j = i then ((s j).1, k) else s j) := by
  refine (World.rowIs.set h (i * 2 + 1) _).congr fun j hj => ?_
  unfold cellS
  by_cases e : j = i * 2 + 1
  · subst e
    simp [show (i * 2 + 1) % 2 = 1 by omega, show (i * 2 + 1) / 2 = i by omega]
  · rw [if_neg e]
    by_cases e2 : j / 2 = i
    · have : j % 2 = 0 := by omega
      simp [e2, this]
    · simp [e2]
theorem SR.same {w : World} {g n : Nat} {s t : Nat → Int × Int} (h : SR w g n s) (e : ∀ i, i < n → s i = t i) : SR w g n t := World.rowIs.congr h fun i hi => by unfold cellS; rw [e (i / 2) (by omega)]
theorem SR.kept {w w' : World} {g n : Nat} {s : Nat → Int × Int} {row : Option Nat} (h : SR w g n s) (hg : w.grownBy w' row) (hr : row ≠ some g) : SR w' g n s := World.rowIs.of_block h (hg.block g (World.rowIs.lt h) (fun e => hr e.symm))
theorem grownBy_set {w w' : World} {b : Nat} (h : w.grownBy w' (some b)) (a : Addr) (ha : a.block = b) (v : Value) : w.grownBy (w'.setCell a v) (some b) :=
  ⟨h.os, h.tape, h.output, by simpa using h.size, fun k hk hne => (Below.heap_setCell _ _ _ _ (fun e => hne (by rw [e, ha]))).trans (h.block k hk hne)⟩
def AtPost (g n : Nat) (s : Nat → Int × Int) (v k : Int) (w : World) (e : Ending) (w' : World) : Prop := e = .returned (.tuple #[]) ∧ SR w' g n (mark s v k) ∧ w.grownBy w' (some g)

set_option maxHeartbeats 1000000 in
set_option maxRecDepth 100000 in
theorem at_calls (tb g n : Nat) (s : Nat → Int × Int) (v k : Int) (w : World) (hne : tb ≠ g) (ht : w.cell? ⟨tb, 0, none⟩ = some (.slice (some ⟨g, 0, none⟩) n n)) (hs : SR w g n s) :
    Calls Try.prog 33 #[.int .i64 v, .int .i64 k, .pointer (some ⟨tb, 0, none⟩)] w (AtPost g n s v k w) := by
  have HS := Lib.hid hs
  clear hs
  by_cases h0 : v < 0
  · go_enter Try.func33, Try.ntmps33
    go_wp2_with fail
    go_end0
    exact ⟨rfl, HS.out.same fun i hi => by unfold mark; rw [if_neg (by omega)], World.grownBy.refl _ _⟩
  by_cases h1 : v < n
  · obtain ⟨i, rfl⟩ := Int.eq_ofNat_of_zero_le (Int.not_lt.1 h0)
    have c0 := HS.out.c0 (i := i) (by omega)
    have f0 := World.rowIs.frozen HS.out (i * 2)
    have f1 := World.rowIs.frozen HS.out (i * 2 + 1)
    have c1 := HS.out.c1 (i := i) (by omega)
    go_enter Try.func33, Try.ntmps33
    go_wp2_with fail
    · go_end0
      refine ⟨rfl, ((HS.out.set0 i k).set1 i k).same fun j hj => ?_, grownBy_set (grownBy_set (World.grownBy.refl w (some g)) ⟨g, i * 2, none⟩ rfl _) ⟨g, i * 2 + 1, none⟩ rfl _⟩
      unfold mark mk1
      by_cases e : j = i
      · subst e
        simp [show (s j).1 < 0 by omega]
      · rw [if_neg e, if_neg e, if_neg (by omega)]
    · go_end0
      refine ⟨rfl, (HS.out.set1 i k).same fun j hj => ?_, grownBy_set (World.grownBy.refl _ _) _ rfl _⟩
      unfold mark mk1
      by_cases e : j = i
      · subst e
        simp [show ¬ (s j).1 < 0 by omega]
      · rw [if_neg e, if_neg (by omega)]
  · go_enter Try.func33, Try.ntmps33
    go_wp2_with fail
    go_end0
    exact ⟨rfl, HS.out.same fun i hi => by unfold mark; rw [if_neg (by omega)], World.grownBy.refl _ _⟩

theorem info55 : (Try.prog.info? 55).map (fun i => (i.zero, i.size, i.bytes)) = some (some (.agg #[.int .i64 0, .int .i64 0]), 2, 16) := by kernel_rfl
/-- A look into a set. -/
theorem wpList_lookup_set {w : World} {ops : Array Oper} {rest : List Oper} {o : Oper} {a : Act} {Q : Exit → Act → World → Prop} (hg : o.guard = none) (m x : Operand) (hop : o.op = Op.lookup 73 m x false) (b : Nat) (D : DataW Unit) (v : Int)
    (hm : a.eval m = .map (some b)) (hx : a.eval x = .int .i64 v) (hw : (Lit.int .i64 v).wf = true) (h : OwnS w b D) (r : Bool) (hr : has D (ky v) = r) (hK : wpList Try.prog ops Q rest (a.put o.dst (.bool r)) w) : wpList Try.prog ops Q (o :: rest) a w := by
  refine wpList_plain hg fun K' hK' => ?_
  obtain ⟨val, ps, hrun, hv⟩ := h.own.lookup law3 Try.underlying73 (z := .bool false) (zd := .lit (.bool false)) (zp := []) rfl (plainElem_bool Try.underlying4 false) (keyOf_int_mk Try.underlying3 hw)
  obtain ⟨c, rfl⟩ := bool_inv hv
  have e2 := plainElem_bool (H := Unit) Try.underlying4 c
  have e3 := Option.some.inj (hv.symm.trans e2)
  have hc : c = has D (ky v) := by
    cases hh : has D (ky v) with
    | true =>
      rw [h.yes v _ hh] at e3
      injection e3 with e3 _
      injection e3 with e3
      injection e3 with e3
      exact e3.symm
    | false =>
      rw [atKey_of_not_has hh] at e3
      injection e3 with e3 _
      injection e3 with e3
      injection e3 with e3
      exact e3.symm
  subst hc
  rw [hr] at hrun
  unfold Oper.wp
  simp [execOp, hop, hm, hx, hrun, Result.andThen]
  exact hK' _ _ hK

def mkP (s : Nat → Int × Int) (q : Nat → Bool) (k : Int) : Nat → Int × Int := fun i => if q i then mk1 (s i) k else s i
theorem mark_mkP (s : Nat → Int × Int) (q : Nat → Bool) (k v : Int) (hk : 0 ≤ k) : mark (mkP s q k) v k = mkP s (fun i => q i || decide ((i : Int) = v)) k := by
  funext i
  unfold mark mkP
  by_cases e : (i : Int) = v
  · cases hq : q i
    · simp [e]
    · simp only [e, if_true, Bool.true_or, mk1]
      by_cases h : (s i).1 < 0
      · simp [h, show ¬ k < 0 by omega]
      · simp [h]
  · simp [e]
/-- Is value i live at place k, set there, or live behind it? -/
def touch (l : List S60) (P : Nat → Int → Bool) (k i : Nat) : Bool := P k i || (db (cAt l k) && decide (i = dv (cAt l k))) || (nextOf (cAt l k) k l.length).any (fun m => P m.toNat i)
/-- The spans up to place k. -/
def SpF (l : List S60) (P : Nat → Int → Bool) : Nat → Nat → Int × Int
  | 0 => fun _ => (-1, -1)
  | k + 1 => mkP (SpF l P k) (touch l P k) k
/-- What lives where. -/
def Lives (l : List S60) (P : Nat → Int → Bool) : Prop := ∃ j, P = iterP l j ∧ passD l l.length P = P
theorem Lives.one {l : List S60} {P Q : Nat → Int → Bool} (h : Lives l P) (h' : Lives l Q) : P = Q := by
  obtain ⟨j, rfl, hj⟩ := h
  obtain ⟨i, rfl, hi⟩ := h'
  have key : ∀ a, passD l l.length (iterP l a) = iterP l a → ∀ d, iterP l (a + d) = iterP l a := fun a ha d => by
    induction d with
    | zero => rfl
    | succ d ih => show passD l l.length (iterP l (a + d)) = _; rw [ih, ha]
  rcases Nat.le_total i j with h | h
  · have := key i hi (j - i)
    rw [show i + (j - i) = j by omega] at this
    exact this
  · have := key j hj (i - j)
    rw [show j + (i - j) = i by omega] at this
    exact this.symm
def SpansPost (l : List S60) (nv : Nat) (w : World) (e : Ending) (w' : World) : Prop :=
  ∃ P g, Lives l P ∧ e = .returned (.slice (some ⟨g, 0, none⟩) nv nv) ∧ w.heap.size ≤ g ∧ SR w' g nv (SpF l P l.length) ∧ Below w.heap.size w w'
theorem values_calls (K n nv : Nat) (A : Option Addr) (c : Nat) (l : List S60) (w : World) (hn : n = l.length) (hr : Kd.C k60 w A n l) (hc : n ≤ c) (h : code_Values.f K l = some (nv : Int)) : Calls Try.prog 23 #[.slice A n c] w fun e w' => e = .returned (.int .i64 nv) ∧ Below w.heap.size w w' := by
  subst hn
  exact code_Values.calls K A c l nv w hr hc h
theorem setsn_calls (n : Nat) (A : Option Addr) (c : Nat) (l : List S60) (w : World) (hn : n = l.length) (hr : Kd.C k60 w A n l) (hc : n ≤ c) (hl : n ≤ 1000) (hw : ∀ c ∈ l, ∀ u ∈ us c, (Lit.int .i64 u).wf = true) : Calls Try.prog 34 #[.slice A n c] w (SetsPost l w) := by
  subst hn
  exact sets_calls A c l w hr hc hl hw
theorem own_rowIs {w : World} {base g n : Nat} {xs : List Value} {f : Nat → Value} (h : w.ownsRow base 55 2 (.slice (some ⟨g, 0, none⟩) n n) n xs) (hf : ∀ i, i < n * 2 → xs[i]? = some (f i)) : w.rowIs g 55 (n * 2) f := by
  obtain ⟨h1, h2⟩ := h
  rcases h2 with ⟨h', _⟩ | ⟨g', cap', cur, h', hb, hgg, hc1, hc2, hc3, hc4⟩
  · simp at h'
  · simp only [Value.slice.injEq, Option.some.injEq, Addr.mk.injEq, and_true, true_and] at h'
    obtain ⟨rfl, rfl⟩ := h'
    refine ⟨cur, hgg, hc3, fun i hi => ?_⟩
    have := hf i hi
    rw [← hc4, List.getElem?_take, if_pos hi] at this
    simpa using this

theorem own_size55 {w w1 : World} {n : Nat} {xs : List Value} (h : w1.ownsRow w.heap.size 55 2 (.slice (some ⟨w.heap.size, 0, none⟩) n n) n xs) (hg : w.grownBy w1 none) : w.heap.size < w1.heap.size := by
  rcases h.2 with ⟨h', _⟩ | ⟨g', cap', cur, h', hb, hgg, _⟩
  · simp at h'
  · simp only [Value.slice.injEq, Option.some.injEq, Addr.mk.injEq, and_true, true_and] at h'
    obtain ⟨rfl, _⟩ := h'
    exact (Array.getElem?_eq_some_iff.1 hgg).1
/-- The row of spans, the captured variable, and what lay before. -/
def LA (w2 : World) (g tb nv : Nat) (s : Nat → Int × Int) (wr : World) : Prop := SR wr g nv s ∧ wr.cell? ⟨tb, 0, none⟩ = some (.slice (some ⟨g, 0, none⟩) nv nv) ∧ Below g w2 wr ∧ g < tb
theorem LA.turn {w2 w w' : World} {g tb nv : Nat} {s t : Nat → Int × Int} (h : LA w2 g tb nv s w) (hg : w.grownBy w' (some g)) (hs : SR w' g nv t) : LA w2 g tb nv t w' :=
  ⟨hs, hg.cell h.2.1 (by have := h.2.2.2; simp; omega), h.2.2.1.grown hg (Nat.le_of_lt (World.rowIs.lt h.1)) (fun k e => by injection e with e; omega), h.2.2.2⟩
theorem LA.below {w2 w w' : World} {g tb nv : Nat} {s : Nat → Int × Int} (h : LA w2 g tb nv s w) (hb : Below w.heap.size w w') : LA w2 g tb nv s w' :=
  ⟨h.1.kept (grown_of hb) (by simp), (grown_of hb).cell h.2.1 (by simp), h.2.2.1.grown (grown_of hb) (Nat.le_of_lt (World.rowIs.lt h.1)) (fun k e => by cases e), h.2.2.2⟩

/-- .. and the row of sets. -/
def LB (w2 : World) (g tb nv g2 n : Nat) (Ds : Nat → DataW Unit) (s : Nat → Int × Int) (wr : World) : Prop := LA w2 g tb nv s wr ∧ (∀ i, i < n → ∃ b, wr.cell? ⟨g2, i, none⟩ = some (mv b) ∧ OwnS wr b (Ds i) ∧ g < b) ∧ g < g2
theorem LB.turn {w2 w w' : World} {g tb nv g2 n : Nat} {Ds : Nat → DataW Unit} {s t : Nat → Int × Int} (h : LB w2 g tb nv g2 n Ds s w) (hg : w.grownBy w' (some g)) (hs : SR w' g nv t) : LB w2 g tb nv g2 n Ds t w' :=
  ⟨h.1.turn hg hs, fun i hi => by
    obtain ⟨b, q1, q2, q3⟩ := h.2.1 i hi
    exact ⟨b, hg.cell q1 (by have := h.2.2; simp; omega), q2.kept hg (by simp; omega), q3⟩, h.2.2⟩
theorem LB.below {w2 w w' : World} {g tb nv g2 n : Nat} {Ds : Nat → DataW Unit} {s : Nat → Int × Int} (h : LB w2 g tb nv g2 n Ds s w) (hb : Below w.heap.size w w') : LB w2 g tb nv g2 n Ds s w' :=
  ⟨h.1.below hb, fun i hi => by
    obtain ⟨b, q1, q2, q3⟩ := h.2.1 i hi
    exact ⟨b, (grown_of hb).cell q1 (by simp), q2.below hb, q3⟩, h.2.2⟩
theorem LB.same {w2 w : World} {g tb nv g2 n : Nat} {Ds : Nat → DataW Unit} {s t : Nat → Int × Int} (h : LB w2 g tb nv g2 n Ds s w) (e : ∀ i, i < nv → s i = t i) : LB w2 g tb nv g2 n Ds t w := h.turn (World.grownBy.refl _ _) (h.1.1.same e)

/-- .. and the round's own code. -/
def cb60 (c : S60) : Obj := .cells #[.int .i64 c.f0, .int .i64 c.f1, .int .i64 c.f2, .int .i64 c.f3, .int .i64 c.f4, .int .i64 c.f5, .int .u64 c.f6, .int .i64 c.f7] 60
def LC (w2 : World) (g tb nv g2 n cb : Nat) (c : S60) (Ds : Nat → DataW Unit) (s : Nat → Int × Int) (wr : World) : Prop := LB w2 g tb nv g2 n Ds s wr ∧ wr.heap[cb]? = some (cb60 c) ∧ g < cb
theorem LC.turn {w2 w w' : World} {g tb nv g2 n cb : Nat} {c : S60} {Ds : Nat → DataW Unit} {s t : Nat → Int × Int} (h : LC w2 g tb nv g2 n cb c Ds s w) (hg : w.grownBy w' (some g)) (hs : SR w' g nv t) : LC w2 g tb nv g2 n cb c Ds t w' :=
  ⟨h.1.turn hg hs, (hg.block cb (Array.getElem?_eq_some_iff.1 h.2.1).1 (by have := h.2.2; simp; omega)).trans h.2.1, h.2.2⟩
theorem LC.below {w2 w w' : World} {g tb nv g2 n cb : Nat} {c : S60} {Ds : Nat → DataW Unit} {s : Nat → Int × Int} (h : LC w2 g tb nv g2 n cb c Ds s w) (hb : Below w.heap.size w w') : LC w2 g tb nv g2 n cb c Ds s w' :=
  ⟨h.1.below hb, (hb.block cb (Array.getElem?_eq_some_iff.1 h.2.1).1).trans h.2.1, h.2.2⟩
theorem LC.same {w2 w : World} {g tb nv g2 n cb : Nat} {c : S60} {Ds : Nat → DataW Unit} {s t : Nat → Int × Int} (h : LC w2 g tb nv g2 n cb c Ds s w) (e : ∀ i, i < nv → s i = t i) : LC w2 g tb nv g2 n cb c Ds t w := h.turn (World.grownBy.refl _ _) (h.1.1.1.same e)
theorem LC.mark {w2 w w' : World} {g tb nv g2 n cb : Nat} {c : S60} {Ds : Nat → DataW Unit} {s : Nat → Int × Int} {q r : Nat → Bool} {k v : Int} {e : Ending} (h : LC w2 g tb nv g2 n cb c Ds (mkP s q k) w) (hk : 0 ≤ k) (hp : AtPost g nv (mkP s q k) v k w e w') (hr : ∀ i, i < nv → (q i || decide ((i : Int) = v)) = r i) : LC w2 g tb nv g2 n cb c Ds (mkP s r k) w' := by
  refine h.turn hp.2.2 (hp.2.1.same fun i hi => ?_)
  rw [mark_mkP s q k v hk]
  simp only [mkP, hr i hi]
theorem mkP_same {s : Nat → Int × Int} {q r : Nat → Bool} {k : Int} {nv : Nat} (h : ∀ i, i < nv → q i = r i) : ∀ i, i < nv → mkP s q k i = mkP s r k i := fun i hi => by unfold mkP; rw [h i hi]
theorem wf_small (j : Nat) (h : j ≤ 1000) : (Lit.int .i64 (j : Int)).wf = true := by
  simp only [Lit.wf, IntKind.min, IntKind.max, IntKind.signed, IntKind.bits, Bool.and_eq_true, decide_eq_true_eq, if_true]
  omega

set_option maxHeartbeats 4000000 in
set_option maxRecDepth 100000 in
theorem spans_calls (A : Option Addr) (cap : Nat) (l : List S60) (K nv : Nat) (w : World) (hr : Kd.C k60 w A l.length l) (hc : l.length ≤ cap) (hl : l.length ≤ 1000) (hw : ∀ c ∈ l, ∀ u ∈ us c, (Lit.int .i64 u).wf = true)
    (hv : code_Values.f K l = some (nv : Int)) (hnv : nv ≤ 1000) : Calls Try.prog 22 #[.slice A l.length cap] w (SpansPost l nv w) := by
  have hmf : ∀ (fn : Fn) (first cap : Array Value) (w : World), (Instr.makeFunc fn first cap).run Try.prog w = .ok (.func fn first cap) w := fun _ _ _ _ => rfl
  obtain ⟨i0, hi, hz0, hz1, hz2⟩ := info_parts info55
  have HR := Lib.hid hr
  have HV := Lib.hid hv
  clear hr hv
  obtain ⟨n, hn⟩ : ∃ n, n = l.length := ⟨_, rfl⟩
  rw [← hn] at hc hl HR ⊢
  have HN := Lib.hid hn
  clear hn
  go_enter Try.func22, Try.ntmps22
  go_wp2_with fail
  refine (values_calls K n nv A cap l _ HN.out HR.out hc HV.out).mono ?_
  rintro e w1 ⟨rfl, hb1⟩
  have HR1 := Lib.hid (Kd.C_below HR.out hb1)
  have HB1 := Lib.hid hb1
  clear hb1
  go_wp2_with fail
  refine (values_calls K n nv A cap l _ HN.out HR1.out hc HV.out).mono ?_
  rintro e w2 ⟨rfl, hb2⟩
  have HR2 := Lib.hid (Kd.C_below HR1.out hb2)
  have HB2 := Lib.hid (HB1.out.trans (hb2.mono HB1.out.size))
  clear hb2 HR HR1 HB1
  go_wp2_with (first
    | (at_make; refine wpList_make_full _ rfl _ _ 51 rfl w2.heap.size 55 i0 (.agg #[.int .i64 0, .int .i64 0]) 2 Try.underlying51 hi hz0 hz1 .i64 .i64 nv nv nv rfl rfl rfl rfl (by rw [hz2]; omega) (by unfold maxLen; omega) (Nat.le_refl _) ?_; intro w3 hown3 hg3)
    | fail)
  have hlt3 : w2.heap.size < w3.heap.size := own_size55 hown3 hg3
  have hLA : LA w2 w2.heap.size w3.heap.size nv (fun _ => (0, 0)) (w3.alloc (.cells #[.slice (some ⟨w2.heap.size, 0, none⟩) nv nv] 51)) := by
    refine ⟨World.rowIs.alloc (own_rowIs hown3 ?_) _, by rw [World.cell?_alloc_mark]; rfl, ((Below.refl _ _).grown hg3 (Nat.le_refl _) (fun j e => by cases e)).alloc (Nat.le_of_lt hlt3) _, hlt3⟩
    intro i hi
    have h : i % 2 < 2 := Nat.mod_lt _ (by omega)
    simp only [madeCells, Value.cells, cellS]
    rcases Nat.mod_two_eq_zero_or_one i with e | e <;> simp [e, hi]
  generalize w3.alloc (.cells #[.slice (some ⟨w2.heap.size, 0, none⟩) nv nv] 51) = w4 at hLA ⊢
  have hg2 : w.heap.size ≤ w2.heap.size := HB2.out.size
  obtain ⟨g, hg⟩ : ∃ g, g = w2.heap.size := ⟨_, rfl⟩
  rw [← hg] at hLA hg2 ⊢
  generalize w3.heap.size = tb at hLA ⊢
  have HG := Lib.hid hg
  have HLA := Lib.hid hLA
  clear hg hLA hown3 hg3 hlt3
  go_loopw [4, 23] (fun _ i wr => ∃ j : Nat, j ≤ nv ∧ i = .int .i64 j ∧ Hid (LA w2 g tb nv (fun i => if i < j then (-1, -1) else (0, 0)) wr)) (fun _ i _ => nv - (intOf i).toNat)
  case atStart => exact ⟨0, Nat.zero_le _, rfl, HLA⟩
  case round =>
    obtain ⟨j, hj, rfl, HL⟩ := hrel
    have ht := HL.out.2.1
    by_cases hlt : j < nv
    · have c0 := HL.out.1.c0 hlt
      have c1 := HL.out.1.c1 hlt
      have f0 := World.rowIs.frozen HL.out.1 (j * 2)
      have f1 := World.rowIs.frozen HL.out.1 (j * 2 + 1)
      go_wp2_with fail
      go_roundw
      case rel =>
        refine ⟨j + 1, by omega, by go_num, Lib.hid (HL.out.turn (grownBy_set (grownBy_set (World.grownBy.refl wr (some g)) ⟨g, j * 2, none⟩ rfl _) ⟨g, j * 2 + 1, none⟩ rfl _) (((HL.out.1.set0 j (-1)).set1 j (-1)).same fun i hi => ?_))⟩
        by_cases e : i = j
        · subst e
          simp
        · have : (i < j + 1) = (i < j) := by simp; omega
          simp [e, this]
      case measure => simp [intOf]; omega
    · obtain rfl : nv = j := by omega
      have HL0 : Hid (LA w2 g tb nv (SpF l (fun _ _ => false) 0) wr) := Lib.hid (HL.out.turn (World.grownBy.refl _ _) (HL.out.1.same fun i hi => by simp [hi, SpF]))
      have HRr := Lib.hid (Kd.C_below HR2.out (by rw [← HG.out]; exact HL.out.2.2.1))
      clear HL HLA
      go_wp2_with fail
      refine (setsn_calls n A cap l _ HN.out HRr.out hc hl hw).mono ?_
      rintro e w5 ⟨ms, Ds, jj, rfl, hms, hnd, hSt, hPP, hfix⟩
      rw [← HN.out] at hms hSt hPP hfix ⊢
      have hgr : g < (World.heap wr).size := World.rowIs.lt HL0.out.1
      have hbS : Below (World.heap wr).size wr w5 := hSt.2.2.2.1
      have hLB : LB w2 g tb nv (World.heap wr).size n Ds (SpF l (fun _ _ => false) 0) w5 := ⟨HL0.out.below hbS, fun i hi => ⟨ms[i]'(by omega), hSt.cell hms i hi, (hSt.2.1 i (by omega)).1, Nat.lt_trans hgr (hSt.2.1 i (by omega)).2⟩, hgr⟩
      have hlive : Lives l (PP n Ds) := ⟨jj, hPP, by rw [← HN.out]; exact hfix⟩
      obtain ⟨P, hP⟩ : ∃ P, P = PP n Ds := ⟨_, rfl⟩
      rw [← hP] at hlive
      have HP : Hid (∀ i, i < n → ∀ v, has (Ds i) (ky v) = P i v) := Lib.hid fun i hi v => by rw [hP]; simp [PP, hi]
      have HLV := Lib.hid hlive
      have HLB : Hid (LB w2 g tb nv (World.heap wr).size n Ds (SpF l P 0) w5) := Lib.hid hLB
      generalize (World.heap wr).size = g2 at HLB ⊢
      clear hLB hlive hP hPP hfix hSt hbS hms hnd HL0 HRr hgr ht
      go_wp2_with fail
      go_loopw [7, 36] (fun _ i wr => ∃ k : Nat, k ≤ n ∧ i = .int .i64 k ∧ Hid (LB w2 g tb nv g2 n Ds (SpF l P k) wr)) (fun _ i _ => n - (intOf i).toNat)
      case atStart => exact ⟨0, Nat.zero_le _, rfl, HLB⟩
      case round =>
        obtain ⟨k, hk, rfl, HL⟩ := hrel
        have ht := HL.out.1.2.1
        by_cases hkn : k < n
        · obtain ⟨ad, e1, x0, x1, x2, x3, x4, x5, x6, x7⟩ := at_T60 HR2.out (k : Int) (by omega) (by omega)
          cases e1
          rw [Int.toNat_natCast] at x0 x1 x2 x3 x4 x5 x6 x7
          have hcl : rd_T60 l (k : Int) = cAt l k := by unfold rd_T60 cAt; rw [Int.toNat_natCast]
          rw [hcl] at x0 x1 x2 x3 x4 x5 x6 x7
          have hbw : Below g w2 wr := HL.out.1.2.2.1
          rw [HG.out] at hbw
          replace x0 := (hbw.cell (World.block_lt_of_cell? w2 _ x0)).trans x0
          replace x1 := (hbw.cell (World.block_lt_of_cell? w2 _ x1)).trans x1
          replace x2 := (hbw.cell (World.block_lt_of_cell? w2 _ x2)).trans x2
          replace x3 := (hbw.cell (World.block_lt_of_cell? w2 _ x3)).trans x3
          replace x4 := (hbw.cell (World.block_lt_of_cell? w2 _ x4)).trans x4
          replace x5 := (hbw.cell (World.block_lt_of_cell? w2 _ x5)).trans x5
          replace x6 := (hbw.cell (World.block_lt_of_cell? w2 _ x6)).trans x6
          replace x7 := (hbw.cell (World.block_lt_of_cell? w2 _ x7)).trans x7
          obtain ⟨c, hcc⟩ : ∃ c, c = cAt l k := ⟨_, rfl⟩
          rw [← hcc] at x0 x1 x2 x3 x4 x5 x6 x7
          have HCC := Lib.hid hcc
          clear hcc hbw hcl
          have ht1 := cell_al ht (.cells #[.int .i64 c.f0, .int .i64 c.f1, .int .i64 c.f2, .int .i64 c.f3, .int .i64 c.f4, .int .i64 c.f5, .int .u64 c.f6, .int .i64 c.f7] 60)
          have hLC : LC w2 g tb nv g2 n (World.heap wr).size c Ds (mkP (SpF l P k) (fun _ => false) k) (wr.alloc (.cells #[.int .i64 c.f0, .int .i64 c.f1, .int .i64 c.f2, .int .i64 c.f3, .int .i64 c.f4, .int .i64 c.f5, .int .u64 c.f6, .int .i64 c.f7] 60)) :=
            ⟨(HL.out.below ((Below.refl _ _).alloc (Nat.le_refl _) _)).same fun i hi => by simp [mkP], blk_new wr _, World.rowIs.lt HL.out.1.1⟩
          have HC0 := Lib.hid hLC
          clear hLC HL HLB
          go_wp2_with fail
          clear ht ht1 x0 x1 x2 x3 x4 x5 x6 x7
          generalize wr.alloc (.cells #[.int .i64 c.f0, .int .i64 c.f1, .int .i64 c.f2, .int .i64 c.f3, .int .i64 c.f4, .int .i64 c.f5, .int .u64 c.f6, .int .i64 c.f7] 60) = w6 at HC0 ⊢
          generalize (World.heap wr).size = cb at HC0 ⊢
          go_loopw [9, 43] (fun _ i wr => ∃ j : Nat, j ≤ nv ∧ i = .int .i64 j ∧ Hid (LC w2 g tb nv g2 n cb c Ds (mkP (SpF l P k) (fun i => decide (i < j) && P k i) k) wr)) (fun _ i _ => nv - (intOf i).toNat)
          case atStart => exact ⟨0, Nat.zero_le _, rfl, Lib.hid (HC0.out.same (mkP_same fun i hi => by simp))⟩
          case round =>
            obtain ⟨j, hj, rfl, HL⟩ := hrel
            have ht := HL.out.1.1.2.1
            by_cases hjn : j < nv
            · obtain ⟨b, hbc, hbo, hbg⟩ := HL.out.1.2.1 k hkn
              have HO := Lib.hid hbo
              have hwj := wf_small j (by omega)
              have hPk := HP.out k hkn (j : Int)
              cases hh : P k (j : Int) with
              | false =>
                rw [hh] at hPk
                go_wp2_with (first
                  | (at_lookup; refine wpList_lookup_set rfl _ _ rfl b (Ds k) (j : Int) rfl rfl hwj HO.out false hPk ?_)
                  | fail)
                go_roundw
                case rel =>
                  refine ⟨j + 1, by omega, by go_num, Lib.hid (HL.out.same (mkP_same fun i hi => ?_))⟩
                  by_cases e : i = j
                  · subst e
                    simp [hh]
                  · have : (i < j + 1) = (i < j) := by simp; omega
                    simp [this]
                case measure => simp [intOf]; omega
              | true =>
                rw [hh] at hPk
                go_wp2_with (first
                  | (at_lookup; refine wpList_lookup_set rfl _ _ rfl b (Ds k) (j : Int) rfl rfl hwj HO.out true hPk ?_)
                  | fail)
                refine (at_calls tb g nv _ (j : Int) (k : Int) _ (by have := HL.out.1.1.2.2.2; omega) ht HL.out.1.1.1).mono ?_
                rintro e w7 hp
                have HC7 : Hid (LC w2 g tb nv g2 n cb c Ds (mkP (SpF l P k) (fun i => decide (i < j + 1) && P k i) k) w7) := Lib.hid (HL.out.mark (by omega) hp (fun i hi => by
                  by_cases e : i = j
                  · subst e
                    simp [hh]
                  · have : (i < j + 1) = (i < j) := by simp; omega
                    have h2 : ¬ ((i : Int) = (j : Int)) := by omega
                    simp [this, h2]))
                obtain ⟨rfl, _, _⟩ := hp
                go_wp2_with fail
                go_roundw
                case rel => exact ⟨j + 1, by omega, by go_num, HC7⟩
                case measure => simp [intOf]; omega
            · obtain rfl : nv = j := by omega
              have HC1 : Hid (LC w2 g tb nv g2 n cb c Ds (mkP (SpF l P k) (fun i => P k i) k) wr) := Lib.hid (HL.out.same (mkP_same fun i hi => by simp [hi]))
              clear HL HC0
              have hX2 := HC1.out.2.1
              have z0 := (blk_cell hX2 0).trans rfl
              have z1 := (blk_cell hX2 1).trans rfl
              have z2 := (blk_cell hX2 2).trans rfl
              have z3 := (blk_cell hX2 3).trans rfl
              have z4 := (blk_cell hX2 4).trans rfl
              have z5 := (blk_cell hX2 5).trans rfl
              have z6 := (blk_cell hX2 6).trans rfl
              have z7 := (blk_cell hX2 7).trans rfl
              go_wp2_with fail
              refine (code_Defines.calls _ _ _ _ _ _ _ _ (dv c) (db c) _ (Defines_eq c)).mono ?_
              rintro e w7 ⟨rfl, hb7⟩
              have HC7 := Lib.hid (HC1.out.below hb7)
              have ht7 := HC7.out.1.1.2.1
              clear hb7 HC1 hX2 z0 z1 z2 z3 z4 z5 z6 z7 ht
              obtain ⟨q0, hq0⟩ : ∃ q0 : Nat → Bool, q0 = fun i : Nat => P k i || (db c && decide ((i : Int) = dv c)) := ⟨_, rfl⟩
              have HQ0 := Lib.hid hq0
              rcases Bool.eq_false_or_eq_true (db c) with hdb | hdb
              focus
                rw [hdb]
                go_wp2_with fail
                refine (at_calls tb g nv _ (dv c) (k : Int) _ (by have := HC7.out.1.1.2.2.2; omega) ht7 HC7.out.1.1.1).mono ?_
                rintro e w8 hp
                have HC8 : Hid (LC w2 g tb nv g2 n cb c Ds (mkP (SpF l P k) q0 k) w8) := Lib.hid (HC7.out.mark (by omega) hp (fun i hi => by rw [HQ0.out, hdb]; simp))
                obtain ⟨rfl, _, _⟩ := hp
              rotate_left
              rw [hdb]
              have HC8 : Hid (LC w2 g tb nv g2 n cb c Ds (mkP (SpF l P k) q0 k) w7) := Lib.hid (HC7.out.same (mkP_same fun i hi => by rw [HQ0.out, hdb]; simp))
              generalize w7 = w8 at HC8 HC7 ht7 ⊢
              all_goals
                clear hq0 HC7 ht7
                have hX2 := HC8.out.2.1
                have z0 := (blk_cell hX2 0).trans rfl
                have z1 := (blk_cell hX2 1).trans rfl
                have z2 := (blk_cell hX2 2).trans rfl
                have z3 := (blk_cell hX2 3).trans rfl
                have z4 := (blk_cell hX2 4).trans rfl
                have z5 := (blk_cell hX2 5).trans rfl
                have z6 := (blk_cell hX2 6).trans rfl
                have z7 := (blk_cell hX2 7).trans rfl
                clear hX2
                obtain ⟨K5, hK⟩ := (Next_eq c (k : Int) (n : Int) (by omega) (by omega)).ex
                have HK := Lib.hid hK
                clear hK
                go_wp2_with fail
                refine (code_Next.calls K5 _ _ _ _ _ _ _ _ _ _ _ _ HK.out).mono ?_
                rintro e w9 ⟨v0, rfl, hR, hb9⟩
                obtain ⟨A5, cu, rfl, hcu, hcells⟩ := us_row hR
                have HC9 := Lib.hid (HC8.out.below hb9)
                have hg8 : g < w8.heap.size := World.rowIs.lt HC8.out.1.1.1
                obtain ⟨nx, hnx⟩ : ∃ nx, nx = nextOf c (k : Int) (n : Int) := ⟨_, rfl⟩
                have hnr : ∀ m ∈ nx, 0 ≤ m ∧ m < (n : Int) := by rw [hnx]; exact next_range c k n (by omega)
                rw [← hnx] at hcells hcu ⊢
                have HNX := Lib.hid hnx
                have HNR := Lib.hid hnr
                have HCL := Lib.hid hcells
                have hnl : nx.length ≤ 2 := by rw [hnx]; exact next_len c k n
                clear hR hb9 hcells hnx hnr z0 z1 z2 z3 z4 z5 z6 z7 HC8
                go_wp2_with fail
                go_loopw [13, 73] (fun _ i wq => ∃ q : Nat, q ≤ nx.length ∧ i = .int .i64 q ∧ Hid (LC w2 g tb nv g2 n cb c Ds (mkP (SpF l P k) (fun i => q0 i || (nx.take q).any (fun m => P m.toNat i)) k) wq) ∧ Hid (w9.grownBy wq (some g))) (fun _ i _ => nx.length - (intOf i).toNat)
                case atStart => exact ⟨0, Nat.zero_le _, rfl, Lib.hid (HC9.out.same (mkP_same fun i hi => by simp)), Lib.hid (World.grownBy.refl _ _)⟩
                case round =>
                  obtain ⟨q, hq, rfl, HCq, HGq⟩ := hrel
                  by_cases hlt : q < nx.length
                  · obtain ⟨g5, hg50, hg51, rfl, hcell⟩ := HCL.out q hlt
                    have hcq : World.cell? wr ⟨g5, q, none⟩ = some (.int .i64 nx[q]) := HGq.out.cell hcell (by simp; omega)
                    obtain ⟨hm0, hm1⟩ := HNR.out nx[q] (List.getElem_mem hlt)
                    have hE1 : nx.take (q + 1) = nx.take q ++ [nx[q]] := List.take_succ_eq_append_getElem hlt
                    obtain ⟨m, hm⟩ := Int.eq_ofNat_of_zero_le hm0
                    rw [hm] at hcq hm1 hE1
                    have hmn : m < n := by omega
                    obtain ⟨q1, hq1⟩ : ∃ q1 : Nat → Bool, q1 = fun i : Nat => q0 i || (nx.take q).any (fun m => P m.toNat i) := ⟨_, rfl⟩
                    rw [← hq1] at HCq
                    have HQ1 := Lib.hid hq1
                    have HE1 := Lib.hid hE1
                    have ht := HCq.out.1.1.2.1
                    clear hm hE1 hm0 hcell hq1
                    go_wp2_with fail
                    go_loopw [14, 79] (fun _ i wq => ∃ j : Nat, j ≤ nv ∧ i = .int .i64 j ∧ Hid (LC w2 g tb nv g2 n cb c Ds (mkP (SpF l P k) (fun i => q1 i || (decide (i < j) && P m i)) k) wq) ∧ Hid (w9.grownBy wq (some g))) (fun _ i _ => nv - (intOf i).toNat)
                    case atStart => exact ⟨0, Nat.zero_le _, rfl, Lib.hid (HCq.out.same (mkP_same fun i hi => by simp)), HGq⟩
                    case round =>
                      obtain ⟨j, hj, rfl, HL, HG9⟩ := hrel
                      have ht := HL.out.1.1.2.1
                      by_cases hjn : j < nv
                      · obtain ⟨b, hbc, hbo, hbg⟩ := HL.out.1.2.1 m hmn
                        have HO := Lib.hid hbo
                        have hwj := wf_small j (by omega)
                        have hPk := HP.out m hmn (j : Int)
                        cases hh : P m (j : Int) with
                        | false =>
                          rw [hh] at hPk
                          go_wp2_with (first
                            | (at_lookup; refine wpList_lookup_set rfl _ _ rfl b (Ds m) (j : Int) rfl rfl hwj HO.out false hPk ?_)
                            | fail)
                          go_roundw
                          case rel =>
                            refine ⟨j + 1, by omega, by go_num, Lib.hid (HL.out.same (mkP_same fun i hi => ?_)), HG9⟩
                            by_cases e : i = j
                            · subst e
                              simp [hh]
                            · have : (i < j + 1) = (i < j) := by simp; omega
                              simp [this]
                          case measure => simp [intOf]; omega
                        | true =>
                          rw [hh] at hPk
                          go_wp2_with (first
                            | (at_lookup; refine wpList_lookup_set rfl _ _ rfl b (Ds m) (j : Int) rfl rfl hwj HO.out true hPk ?_)
                            | fail)
                          refine (at_calls tb g nv _ (j : Int) (k : Int) _ (by have := HL.out.1.1.2.2.2; omega) ht HL.out.1.1.1).mono ?_
                          rintro e w10 hp
                          have HC10 : Hid (LC w2 g tb nv g2 n cb c Ds (mkP (SpF l P k) (fun i => q1 i || (decide (i < j + 1) && P m i)) k) w10) := Lib.hid (HL.out.mark (by omega) hp (fun i hi => by
                            by_cases e : i = j
                            · subst e
                              simp [hh]
                            · have : (i < j + 1) = (i < j) := by simp; omega
                              have h2 : ¬ ((i : Int) = (j : Int)) := by omega
                              simp [this, h2]))
                          have HG10 := Lib.hid (HG9.out.andThen hp.2.2 (fun j e => .inr e))
                          obtain ⟨rfl, _, _⟩ := hp
                          go_wp2_with fail
                          go_roundw
                          case rel => exact ⟨j + 1, by omega, by go_num, HC10, HG10⟩
                          case measure => simp [intOf]; omega
                      · obtain rfl : nv = j := by omega
                        go_wp2_with fail
                        go_roundw
                        case rel =>
                          refine ⟨q + 1, by omega, by go_num, Lib.hid (HL.out.same (mkP_same fun i hi => ?_)), HG9⟩
                          rw [HQ1.out, HE1.out]
                          simp [hi, Bool.or_assoc]
                        case measure => simp [intOf]; omega
                  · obtain rfl : q = nx.length := by omega
                    go_wp2_with fail
                    go_roundw
                    case rel =>
                      refine ⟨k + 1, by omega, by go_num, Lib.hid (HCq.out.1.same fun i hi => ?_)⟩
                      have e : ∀ i, touch l P k i = (q0 i || (nx.take nx.length).any (fun m => P m.toNat i)) := fun i => by
                        rw [HQ0.out, List.take_length, HNX.out, touch, ← HCC.out, ← HN.out]
                      show _ = mkP (SpF l P k) (touch l P k) k i
                      unfold mkP
                      rw [e]
                    case measure => simp [intOf]; omega
        · obtain rfl : k = n := by omega
          go_wp2_with fail
          go_ret
          refine ⟨P, g, HLV.out, rfl, hg2, ?_, ?_⟩
          · rw [← HN.out]; exact HL.out.1.1
          · have h1 : Below g w2 wr := HL.out.1.2.2.1
            rw [HG.out] at h1
            exact HB2.out.trans (h1.mono HB2.out.size)
#print axioms spans_calls
end Go.Proofs.Ythboknkpgbfmoaa.PA
