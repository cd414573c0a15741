/- (*holder).block; hold.Check; law08: what checks answers, its examples, its texts as lists. -/
import Derived.Test.YtcdgjgoplogiiaaDoorHst
import Derived.Test.YtcdgjgoplogiiaaDoorNum
import Derived.Test.YtcdgjgoplogiiaaDoorLxl
namespace Go.Proofs.YtcdgjgoplogiiaaDoor.PT
open Go.RowKit Go.Lib
set_option linter.unusedVariables false
set_option linter.unusedSimpArgs false
/-- What is left from statement i on. -/
def Blk.from' : Blk → Nat → Blk
  | c, 0 => c
  | .nil, _ => .nil
  | .cons _ _ _ _ _ _ _ rest, i + 1 => rest.from' i
theorem from_nil (i : Nat) : Blk.nil.from' i = .nil := by cases i <;> rfl
theorem from_end (c : Blk) : c.from' c.len = .nil := by
  induction c with
  | nil => rfl
  | cons k s es n body els p rest ib ie ir =>
    show (Blk.cons k s es n body els p rest).from' (1 + rest.len) = _
    rw [Nat.add_comm]; exact ir
/-- The i-th statement. -/
theorem BA.at' {c : Blk} {P : Nat → Prop} {w : World} {l : List SV} (h : BA c P w l) (i : Nat) (hi : i < c.len) : ∃ k s es n body els p rest x, c.from' i = .cons k s es n body els p rest ∧ c.from' (i + 1) = rest ∧ l[i]? = some x ∧ x.k = k ∧ x.s = s ∧ x.p = p ∧ Es es P w x.eA x.en x.ec ∧ Bs body P w x.bA x.bn x.bc ∧ Bs els P w x.lA x.ln x.lc ∧ body.wt < c.wt ∧ els.wt < c.wt := by
  induction c generalizing l i with
  | nil => cases hi
  | cons k s es n body els p rest ib ie ir =>
    obtain ⟨x, xs, rfl, h2, h3, h4, h5, h6, ⟨l1, h7, h8, h9⟩, ⟨l2, h10, h11, h12⟩, h13⟩ := h
    cases i with
    | zero => exact ⟨k, s, es, n, body, els, p, rest, x, rfl, by cases rest <;> rfl, rfl, h2, h3, h5, h6, ⟨h8, l1, h7, h9⟩, ⟨h11, l2, h10, h12⟩, by simp only [Blk.wt]; omega, by simp only [Blk.wt]; omega⟩
    | succ i =>
      obtain ⟨k', s', es', n', body', els', p', rest', x', a1, a2, a3, a4, a5, a6, a7, a8, a9, a10, a11⟩ := ir h13 i (by simp only [Blk.len] at hi; omega)
      exact ⟨k', s', es', n', body', els', p', rest', x', a1, a2, by simpa using a3, a4, a5, a6, a7, a8, a9, by simp only [Blk.wt]; omega, by simp only [Blk.wt]; omega⟩
theorem from_sm {c : Blk} (h : c.sm = true) : ∀ i, (c.from' i).sm = true := by
  induction c with
  | nil => intro i; rw [from_nil]; rfl
  | cons k s es n body els p rest ib ie ir =>
    intro i
    cases i with
    | zero => exact h
    | succ i => simp only [Blk.sm, Bool.and_eq_true] at h; exact ir h.2 i
theorem row_st {w : World} {g : Nat} {l : List SV} (h : Row w TS g (l.flatMap SV.cells)) (k : Nat) (x : SV) (hk : l[k]? = some x) :
    w.cell? ⟨g, k * 7, none⟩ = some (.int .i64 x.k) ∧ w.cell? ⟨g, k * 7 + 1, none⟩ = some (.string x.s) ∧ w.cell? ⟨g, k * 7 + 2, none⟩ = some (.slice x.eA x.en x.ec) ∧ w.cell? ⟨g, k * 7 + 3, none⟩ = some (.int .i64 x.n) ∧
    w.cell? ⟨g, k * 7 + 4, none⟩ = some (.slice x.bA x.bn x.bc) ∧ w.cell? ⟨g, k * 7 + 5, none⟩ = some (.slice x.lA x.ln x.lc) ∧ w.cell? ⟨g, k * 7 + 6, none⟩ = some (.int .i64 x.p) := by
  have hh : ∀ j, j < 7 → (l.flatMap SV.cells)[k * 7 + j]? = (SV.cells x)[j]? := fun j hj => flat_get SV.cells 7 (fun _ => rfl) l k x hk j hj
  exact ⟨h.cell (hh 0 (by omega)), h.cell (hh 1 (by omega)), h.cell (hh 2 (by omega)), h.cell (hh 3 (by omega)), h.cell (hh 4 (by omega)), h.cell (hh 5 (by omega)), h.cell (hh 6 (by omega))⟩
/-- Statements up to the i-th are gone through. -/
structure BL (w : World) (B b mb mu : Nat) (by' : ByteArray → Option ByteArray) (th k : Nat) (hA oA : Option Addr) (c : Blk) (r : Except Int HS) (i : Nat) (wr : World) : Prop where
  ex : ∃ h1 k1 hA1 hc1 oA1 oc1, HMx wr B b mb mu by' th h1 k1 hA1 hc1 oA1 oc1 ∧ k1 + (c.from' i).cost ≤ k ∧ HTr w B b mu hA oA wr hA1 oA1 ∧ r = hblk by' th (c.from' i) h1
set_option maxRecDepth 100000 in
set_option maxHeartbeats 4000000 in
theorem hblk_any (N : Nat) : ∀ c : Blk, c.wt < N → HbSays c := by
  induction N with
  | zero => intro c h; omega
  | succ N ih =>
    intro c hN w B b mb mu by' th h k hA hc oA oc A n cc hm hbs hsm hk
    obtain ⟨hn, l, hba, hsl⟩ := hbs
    obtain ⟨r, hr⟩ : ∃ r, r = hblk by' th c h := ⟨_, rfl⟩
    have H0 : Hid (BL w B b mb mu by' th (k + c.cost) hA oA c r 0 w) := Lib.hid ⟨h, k, hA, hc, oA, oc, hm, Nat.le_of_eq (by cases c <;> rfl), HTr.refl _ _ _ _ _ _, by rw [hr]; cases c <;> rfl⟩
    have hBw : B ≤ w.heap.size := Nat.le_trans hm.lb.1 (Nat.le_of_lt hm.lt)
    rw [← hr]
    have HI := Lib.hid ih
    have HN := Lib.hid hN
    have HBA := Lib.hid hba
    have HSM := Lib.hid hsm
    have HK := Lib.hid hk
    have HBW := Lib.hid hBw
    have HLN := Lib.hid hn
    have hn9 : n ≤ 9223372036854775807 := by
      have hml : maxLen = 9223372036854775807 := by decide
      rcases hsl with ⟨_, rfl, _⟩ | ⟨g, _, _, h4, h5, _⟩ <;> omega
    have HSL : Hid (0 < n → ∃ g, A = some ⟨g, 0, none⟩ ∧ g < B ∧ Row w TS g (l.flatMap SV.cells)) := Lib.hid (fun hpos => by
      rcases hsl with ⟨_, rfl, _⟩ | ⟨g, h1, h2, _, _, h5⟩
      · omega
      · exact ⟨g, h1, h2, h5⟩)
    clear hm hr hba hsl hsm hk hBw hN ih hn
    go_enter Tryd.func85, Tryd.ntmps85
    go_wp2
    go_loopw [10] (fun i wr => ∃ j : Nat, j ≤ n ∧ i = .int .i64 j ∧ Hid (BL w B b mb mu by' th (k + c.cost) hA oA c r j wr)) (fun i _ => n - (RowKit.intOf i).toNat)
    case atStart => exact ⟨0, Nat.zero_le _, rfl, H0⟩
    case round =>
      obtain ⟨j, hj, rfl, HG⟩ := hrel
      obtain ⟨h1, k1, hA1, hc1, oA1, oc1, hm1, hk1, ht1, he1⟩ := HG.out.ex
      have HM1 := Lib.hid hm1
      have HT1 := Lib.hid ht1
      have HE1 := Lib.hid he1
      have HK1 := Lib.hid hk1
      clear hm1 ht1 he1 HG hk1
      by_cases hlt : j < n
      · obtain ⟨kd, s, es, nn, body, els, p, rest, x, a1, a2, a3, a4, a5, a6, a7, a8, a9, a10, a11⟩ := HBA.out.at' j (by have := HLN.out; omega)
        obtain ⟨g, rfl, hg, hrow⟩ := HSL.out (by omega)
        obtain ⟨c0, c1, c2, c3, c4, c5, c6⟩ := row_st (hrow.same (HT1.out.bel.block g hg)) j x a3
        have hsm := from_sm HSM.out j
        rw [a1] at hsm
        simp only [Blk.sm, Bool.and_eq_true, decide_eq_true_eq] at hsm
        have hk1 := HK1.out
        rw [a1] at hk1
        simp only [Blk.cost] at hk1
        have hBwr : B ≤ wr.heap.size := Nat.le_trans HBW.out HT1.out.bel.size
        have hba2 : Below B wr (wr.alloc (sbx x)) := (Below.refl _ _).alloc hBwr _
        have HC := Lib.hid (stmt_of kd s es body els p (same_of body (HI.out body (by have := HN.out; omega))) (same_of els (HI.out els (by have := HN.out; omega))) (wr.alloc (sbx x)) B b mb mu by' th h1 k1 hA1 hc1 oA1 oc1 x (HM1.out.alloc _) a4 a5 a6 (a7.mono (fun _ h _ => h) fun i hi _ => (HT1.out.bel.trans hba2).block i hi) (a8.low (HT1.out.bel.trans hba2)) (a9.low (HT1.out.bel.trans hba2)) hsm.1.1.1.1 hsm.1.1.1.2 hsm.1.1.2 hsm.1.2 (by have := HK.out; omega))
        have HEd : Hid (r = thenp (thenp (hexprs by' th es h1) (hact by' th kd s (hblk by' th body) (hblk by' th els) p)) (hblk by' th rest)) := Lib.hid (by rw [HE1.out, a1]; rfl)
        have HRS : Hid (c.from' (j + 1) = rest) := Lib.hid a2
        have HKN : Hid (k1 + (1 + costs es + body.cost + els.cost) + rest.cost ≤ k + c.cost) := Lib.hid (by omega)
        have hbx := HM1.out.lt
        clear a1 a2 a3 a4 a5 a6 a7 a8 a9 a10 a11 hrow hsm hk1 hba2
        cases hr1 : thenp (hexprs by' th es h1) (hact by' th kd s (hblk by' th body) (hblk by' th els) p) with
        | error p' =>
          rw [hr1] at HC HEd
          go_wp2_with (go_at_call 107; refine HC.out.mono ?_; rintro e w2 ⟨u, rfl, hu, h9, hA9, hc9, oA9, oc9, hm9, ht9⟩; have HU := Lib.hid hu; have HM9 := Lib.hid hm9; have HT9 := Lib.hid ht9; obtain ⟨gF, rfl, _⟩ := hu; clear hm9 ht9)
          go_ret
          rw [HEd.out]
          exact ⟨_, rfl, HU.out, h9, hA9, hc9, oA9, oc9, HM9.out.mono (by have := HKN.out; omega) HK.out, (HT1.out.more ((Below.refl _ _).alloc (Nat.le_refl _) _) HBW.out).trans HT9.out⟩
        | ok h2 =>
          rw [hr1] at HC HEd
          go_wp2_with (go_at_call 107; refine HC.out.mono ?_; rintro e w2 ⟨rfl, hA2, hc2, oA2, oc2, hm2, ht2⟩; have HM2 := Lib.hid hm2; have HT2 := Lib.hid ht2; clear hm2 ht2)
          go_roundw
          case rel => exact ⟨j + 1, by omega, by go_num, Lib.hid ⟨h2, _, hA2, hc2, oA2, oc2, HM2.out, by rw [HRS.out]; exact HKN.out, (HT1.out.more ((Below.refl _ _).alloc (Nat.le_refl _) _) HBW.out).trans HT2.out, by rw [HRS.out]; exact HEd.out⟩⟩
          case measure => simp [RowKit.intOf]; omega
      · have hjl : j = c.len := by have := HLN.out; omega
        subst hjl
        go_wp2
        go_ret
        have he := HE1.out
        have hk1 := HK1.out
        rw [from_end] at he hk1
        rw [he]
        exact ⟨rfl, hA1, hc1, oA1, oc1, HM1.out.mono (by have : Blk.nil.cost = 0 := rfl; omega) HK.out, HT1.out⟩
theorem same_any (c : Blk) : HsSays c := same_of c (hblk_any (c.wt + 1) c (Nat.lt_succ_self _))
theorem byOf_snoc (l : List Dcl) (d : Dcl) : byOf (l ++ [d]) = if d.lock then byOf l else putF (byOf l) d.name d.by' := by
  have key : ∀ s, byOf (l ++ [d]) s = if !d.lock && beq s d.name then some d.by' else byOf l s := by
    intro s
    induction l with
    | nil =>
      show (match byOf [] s with | some b => some b | none => if !d.lock && beq s d.name then some d.by' else none) = _
      rfl
    | cons x r ih =>
      show (match byOf (r ++ [d]) s with | some b => some b | none => if !x.lock && beq s x.name then some x.by' else none) = _
      rw [ih]
      by_cases h : (!d.lock && beq s d.name) = true
      · rw [if_pos h, if_pos h]
      · rw [if_neg h, if_neg h]; rfl
  funext s
  rw [key]
  cases hl : d.lock
  · simp [putF]
  · simp
theorem byF_put (by' : ByteArray → Option ByteArray) (s b : ByteArray) : putF (byF by') s (.string b) = byF (putF by' s b) := by
  funext x
  show (if beq x s = true then some (Value.string b) else (by' x).map Value.string) = (if beq x s = true then some b else by' x).map Value.string
  cases beq x s <;> rfl
def tsCost : List Blk → Nat
  | [] => 0
  | t :: ts => t.cost + tsCost ts
def Prg.sm (p : Prg) : Bool := p.ds.all (fun d => decide (d.name.size ≤ 65536)) && p.ts.all Blk.sm && decide (tsCost p.ts ≤ 100000000)
section
variable {w w' : World} {B b mb mu : Nat} {by' : ByteArray → Option ByteArray} {th : Nat} {h : HS} {k : Nat} {hA : Option Addr} {hc : Nat} {oA : Option Addr} {oc : Nat}
theorem Ns.nil (w : World) (B : Nat) : Ns w B none 0 [] := ⟨rfl, rfl, .inl ⟨rfl, rfl⟩⟩
/-- A thread begins. -/
theorem HMx.reset (hm : HMx w B b mb mu by' th h k hA hc oA oc) (j : Nat) : HMx (((w.setCell ⟨b, 2, none⟩ (.int .i64 j)).setCell ⟨b, 3, none⟩ (.slice none 0 0)).setCell ⟨b, 4, none⟩ (.slice none 0 0)) B b mb mu by' j ⟨h.us, [], []⟩ k none 0 none 0 := by
  have hk : ∀ i, i ≠ b → (((w.setCell ⟨b, 2, none⟩ (.int .i64 j)).setCell ⟨b, 3, none⟩ (.slice none 0 0)).setCell ⟨b, 4, none⟩ (.slice none 0 0)).heap[i]? = w.heap[i]? := fun i hi =>
    (Below.heap_setCell _ ⟨b, 4, none⟩ _ i hi).trans ((Below.heap_setCell _ ⟨b, 3, none⟩ _ i hi).trans (Below.heap_setCell w ⟨b, 2, none⟩ _ i hi))
  refine ⟨blk_put (blk_put (blk_put hm.blk 2 (.int .i64 j) rfl) 3 (.slice none 0 0) rfl) 4 (.slice none 0 0) rfl, ?_, hm.m1.kept (hk mu (hm.m1.ne hm.blk)), Ns.nil _ _, Ns.nil _ _, hm.ne, (fun g hg => by cases hg), Nat.zero_le _, Nat.zero_le _, hm.kk, hm.lb⟩
  obtain ⟨n, h3⟩ := hm.m0
  exact ⟨n, h3.kept (hk mb (h3.ne hm.blk))⟩
/-- A declaration is written into the map. -/
theorem HMx.decl (hm : HMx w B b mb mu by' th h k hA hc oA oc) {n : Nat} {s d : ByteArray} (hp : Mp w' mb n (putF (byF by') s (.string d))) (hg : w.grownBy w' (some mb)) : HMx w' B b mb mu (putF by' s d) th h k hA hc oA oc ∧ Below B w w' := by
  obtain ⟨_, m0⟩ := hm.m0
  have hblk : ∀ (g : Nat) (cs : Array Value) (E : TypeId) (fr : Nat × Nat), w.heap[g]? = some (.cells cs E fr) → w'.heap[g]? = w.heap[g]? := fun g cs E fr h1 => hg.block g (lt_heap h1) (by intro e; injection e with e; exact (m0.ne h1) e.symm)
  have hrow : ∀ A c l, Ns w B A c l → Ns w' B A c l := fun A c l h1 => h1.keep fun g hgg => by
    obtain ⟨_, _, cur, h3⟩ := h1.lt hgg
    exact hblk g cur _ _ h3
  refine ⟨⟨(hblk b _ _ _ hm.blk).trans hm.blk, ⟨n, byF_put by' s d ▸ hp⟩, hm.m1.kept (hg.block mu hm.m1.lt (by intro e; injection e with e; exact hm.ne e.symm)), hrow _ _ _ hm.r0, hrow _ _ _ hm.r1, hm.ne, hm.apart, hm.kh, hm.ko, hm.kk, hm.lb⟩, ?_⟩
  exact ⟨hg.os, hg.tape, hg.output, hg.size, fun i hi => hg.block i (Nat.lt_of_lt_of_le hi (Nat.le_trans hm.lb.2.1 (Nat.le_of_lt m0.lt))) (by intro e; injection e with e; have := hm.lb.2.1; omega)⟩
end
theorem row_dcl {w : World} {g : Nat} {l : List Dcl} (h : Row w TD g (l.flatMap Dcl.cells)) (k : Nat) (x : Dcl) (hk : l[k]? = some x) :
    w.cell? ⟨g, k * 6, none⟩ = some (.bool x.lock) ∧ w.cell? ⟨g, k * 6 + 1, none⟩ = some (.int .i64 x.label) ∧ w.cell? ⟨g, k * 6 + 2, none⟩ = some (.string x.name) ∧ w.cell? ⟨g, k * 6 + 3, none⟩ = some (.int .i64 x.size) ∧
    w.cell? ⟨g, k * 6 + 4, none⟩ = some (.string x.by') ∧ w.cell? ⟨g, k * 6 + 5, none⟩ = some (.int .i64 x.p) := by
  have hh : ∀ j, j < 6 → (l.flatMap Dcl.cells)[k * 6 + j]? = (Dcl.cells x)[j]? := fun j hj => flat_get Dcl.cells 6 (fun _ => rfl) l k x hk j hj
  exact ⟨h.cell (hh 0 (by omega)), h.cell (hh 1 (by omega)), h.cell (hh 2 (by omega)), h.cell (hh 3 (by omega)), h.cell (hh 4 (by omega)), h.cell (hh 5 (by omega))⟩
theorem TsV.at' {ts : List Blk} {P : Nat → Prop} {w : World} {vs : List (Option Addr × Nat × Nat)} (h : TsV ts P w vs) {j : Nat} (hj : j < ts.length) : ∃ v, vs[j]? = some v ∧ Bs ts[j] P w v.1 v.2.1 v.2.2 := by
  induction ts generalizing vs j with
  | nil => cases hj
  | cons t ts ih =>
    obtain ⟨v, r, rfl, h1, h2⟩ := h
    cases j with
    | zero => exact ⟨v, rfl, h1⟩
    | succ j =>
      obtain ⟨u, h3, h4⟩ := ih h2 (Nat.lt_of_succ_lt_succ hj)
      exact ⟨u, by simpa using h3, by simpa using h4⟩
theorem Bs.head {c : Blk} {P : Nat → Prop} {w : World} {A : Option Addr} {n cc : Nat} (h : Bs c P w A n cc) : (n = 0 ∧ atOf c = 0) ∨ ∃ g, 0 < n ∧ A = some ⟨g, 0, none⟩ ∧ P g ∧ w.cell? ⟨g, 6, none⟩ = some (.int .i64 (atOf c)) := by
  obtain ⟨hn, l, hba, hsl⟩ := h
  cases c with
  | nil => exact .inl ⟨hn, rfl⟩
  | cons k s es nn body els p rest =>
    obtain ⟨x, xs, rfl, _, _, _, h5, _⟩ := hba
    rcases hsl with ⟨_, h0, _, _⟩ | ⟨g, h1, h2, _, _, hr⟩
    · rw [h0] at hn; simp only [Blk.len] at hn; omega
    · refine .inr ⟨g, by rw [hn]; simp only [Blk.len]; omega, h1, h2, ?_⟩
      have := (row_st hr 0 x rfl).2.2.2.2.2.2
      rw [h5] at this
      exact this
def CkPost (r : Option Int) (w : World) (e : Ending) (w' : World) : Prop := Below w.heap.size w w' ∧ match r with
  | none => e = .returned .nilIface
  | some p => ∃ u, e = .returned u ∧ ErrI w' u 5 p
/-- Declarations up to the j-th are written. -/
structure CD (w : World) (B b mb mu : Nat) (ds : List Dcl) (j : Nat) (wr : World) : Prop where
  hm : HMx wr B b mb mu (byOf (ds.take j)) 0 ⟨fun _ => none, [], []⟩ 0 none 0 none 0
  mp : Mp wr mb j (byF (byOf (ds.take j)))
  bel : Below B w wr
/-- Threads up to the j-th are gone through. -/
structure CT (w : World) (B b mb mu : Nat) (by' : ByteArray → Option ByteArray) (ts : List Blk) (r : Option Int) (j : Nat) (wr : World) : Prop where
  ex : ∃ th h k hA hc oA oc, HMx wr B b mb mu by' th h k hA hc oA oc ∧ k + tsCost (ts.drop j) ≤ 100000000 ∧ r = hthreads by' j (ts.drop j) h.us
  bel : Below B w wr
set_option maxRecDepth 100000 in
set_option maxHeartbeats 16000000 in
theorem check_calls (p : Prg) (w : World) (A : Option Addr) (n c : Nat) (A' : Option Addr) (n' c' : Nat) (hds : DsA p.ds (fun g => g < w.heap.size) w A n c) (hts : ThA p.ts (fun g => g < w.heap.size) w A' n' c') (hsm : p.sm = true) :
    Calls Tryd.prog 34 #[.agg #[.slice A n c, .slice A' n' c']] w (CkPost (holdp p) w) := by
  obtain ⟨ds, ts⟩ := p
  dsimp only at hds hts
  simp only [Prg.sm, Bool.and_eq_true, decide_eq_true_eq, List.all_eq_true] at hsm
  obtain ⟨⟨hs1, hs2⟩, hs3⟩ := hsm
  obtain ⟨hn, hsl⟩ := hds
  obtain ⟨hn', vs, hvs, hsl'⟩ := hts
  have hml : maxLen = 9223372036854775807 := by decide
  have hn9 : n ≤ 9223372036854775807 := by rcases hsl with ⟨_, rfl, _⟩ | ⟨g, _, _, h4, h5, _⟩ <;> omega
  have hn9' : n' ≤ 9223372036854775807 := by rcases hsl' with ⟨_, rfl, _⟩ | ⟨g, _, _, h4, h5, _⟩ <;> omega
  obtain ⟨B, hB⟩ : ∃ B, B = w.heap.size := ⟨_, rfl⟩
  have HSL : Hid (0 < n → ∃ g, A = some ⟨g, 0, none⟩ ∧ g < B ∧ Row w TD g (ds.flatMap Dcl.cells)) := Lib.hid (fun hpos => by
    rcases hsl with ⟨_, rfl, _⟩ | ⟨g, h1, h2, _, _, h5⟩
    · omega
    · exact ⟨g, h1, hB ▸ h2, h5⟩)
  have HSL' : Hid (0 < n' → ∃ g, A' = some ⟨g, 0, none⟩ ∧ g < B ∧ Row w TB' g (vs.map tcell)) := Lib.hid (fun hpos => by
    rcases hsl' with ⟨_, rfl, _⟩ | ⟨g, h1, h2, _, _, h5⟩
    · omega
    · exact ⟨g, h1, hB ▸ h2, h5⟩)
  have HVS : Hid (TsV ts (fun g => g < B) w vs) := Lib.hid (hB ▸ hvs)
  have HLN := Lib.hid hn
  have HLN' := Lib.hid hn'
  have HS1 := Lib.hid hs1
  have HS2 := Lib.hid hs2
  have HS3 := Lib.hid hs3
  clear hn hn' hsl hsl' hvs hs1 hs2 hs3 hml
  have hmm := @run_makeMap Tryd.prog
  obtain ⟨r, hr⟩ : ∃ r, r = holdp ⟨ds, ts⟩ := ⟨_, rfl⟩
  have HR : Hid (r = hthreads (byOf ds) 0 ts fun _ => none) := Lib.hid hr
  rw [← hr]
  clear hr
  go_enter Tryd.func34, Tryd.ntmps34
  go_upto_region 2 with fail
  obtain ⟨Wc, hWc⟩ : ∃ Wc, Wc = (((w.alloc (.cells #[.slice A n c, .slice A' n' c'] TPg)).alloc (.map #[] 0)).alloc (.map #[] 0)).alloc (.cells #[.map (some (w.heap.size + 1)), .map (some (w.heap.size + 1 + 1)), .int .i64 0, .slice none 0 0, .slice none 0 0] THd) := ⟨_, rfl⟩
  obtain ⟨P0, hP0⟩ : ∃ P0, P0 = w.heap.size := ⟨_, rfl⟩
  obtain ⟨mb, hmb⟩ : ∃ mb, mb = w.heap.size + 1 := ⟨_, rfl⟩
  obtain ⟨mu, hmu⟩ : ∃ mu, mu = w.heap.size + 1 + 1 := ⟨_, rfl⟩
  obtain ⟨b, hb⟩ : ∃ b, b = w.heap.size + 1 + 1 + 1 := ⟨_, rfl⟩
  have HC0 : Hid (CD w B b mb mu ds 0 Wc ∧ Wc.heap[P0]? = some (.cells #[.slice A n c, .slice A' n' c'] TPg (0, 0))) := Lib.hid (by
    obtain ⟨w1, hw1⟩ : ∃ w1, w1 = w.alloc (.cells #[.slice A n c, .slice A' n' c'] TPg) := ⟨_, rfl⟩
    have s1 : w1.heap.size = w.heap.size + 1 := by rw [hw1]; simp
    have hWc' : Wc = ((w1.alloc (.map #[] 0)).alloc (.map #[] 0)).alloc (.cells #[.map (some mb), .map (some mu), .int .i64 0, .slice none 0 0, .slice none 0 0] THd) := by rw [hWc, hw1, hmb, hmu]
    have hP1 : w1.heap[P0]? = some (.cells #[.slice A n c, .slice A' n' c'] TPg (0, 0)) := by rw [hw1, hP0]; exact blk_new _ _
    have hsz : ((w1.alloc (.map #[] 0)).alloc (.map #[] 0)).heap.size = b := by simp [s1, hb]
    have hmbb : w1.heap.size = mb := by rw [s1, hmb]
    have hmuu : (w1.alloc (.map #[] 0)).heap.size = mu := by simp [s1, hmu]
    have m0 : Mp Wc mb 0 (byF (byOf (ds.take 0))) := by
      have h1 := Mp.made w1
      rw [hmbb] at h1
      rw [hWc']
      exact (h1.kept (Below.heap_alloc _ _ _ h1.lt)).kept (Below.heap_alloc _ _ _ (by have := h1.lt; simp at this ⊢; omega))
    have m1 : Mp Wc mu 0 (usF fun _ => none) := by
      have h1 := Mp.made (w1.alloc (.map #[] 0))
      rw [hmuu] at h1
      rw [hWc']
      exact h1.kept (Below.heap_alloc _ _ _ h1.lt)
    have hbk : Wc.heap[b]? = some (.cells (hCells mb mu 0 none 0 0 none 0 0) THd (0, 0)) := by
      rw [hWc', ← hsz]; exact blk_new _ _
    have hbel : Below B w Wc := by
      rw [hWc, hB]
      exact ((((Below.refl _ _).alloc (Nat.le_refl _) _).alloc (by simp) _).alloc (by simp; omega) _).alloc (by simp; omega) _
    refine ⟨⟨⟨hbk, ⟨0, m0⟩, m1, Ns.nil _ _, Ns.nil _ _, by omega, (fun g hg => by cases hg), Nat.le_refl _, Nat.le_refl _, by omega, by omega, by omega, by omega⟩, m0, hbel⟩, ?_⟩
    rw [hWc']
    exact blk_alloc (blk_alloc (blk_alloc hP1 _) _) _)
  have p0 : Wc.cell? ⟨P0, 0, none⟩ = some (.slice A n c) := (blk_cell HC0.out.2 0).trans rfl
  have hP0l := lt_heap HC0.out.2
  show Code.wp _ _ _ _ ((((w.alloc (.cells #[.slice A n c, .slice A' n' c'] TPg)).alloc (.map #[] 0)).alloc (.map #[] 0)).alloc (.cells #[.map (some (w.heap.size + 1)), .map (some (w.heap.size + 1 + 1)), .int .i64 0, .slice none 0 0, .slice none 0 0] THd))
  rw [← hWc, ← hb, ← hmu, ← hmb, ← hP0]
  have HBw : Hid (B = w.heap.size) := Lib.hid hB
  clear hWc hb hmu hmb hP0 hB hmm
  go_wp2
  go_loopw [17] (fun i wr => ∃ j : Nat, j ≤ n ∧ i = .int .i64 j ∧ Hid (CD w B b mb mu ds j wr ∧ wr.heap[P0]? = some (.cells #[.slice A n c, .slice A' n' c'] TPg (0, 0)))) (fun i _ => n - (RowKit.intOf i).toNat)
  case atStart => exact ⟨0, Nat.zero_le _, rfl, HC0⟩
  case round =>
    clear p0 hP0l HC0
    obtain ⟨j, hj, rfl, HG⟩ := hrel
    by_cases hlt : j < n
    · have hjl : j < ds.length := by rw [← HLN.out]; exact hlt
      obtain ⟨g, rfl, hg, hrow⟩ := HSL.out (by omega)
      obtain ⟨d, hd⟩ : ∃ d, d = ds[j] := ⟨_, rfl⟩
      obtain ⟨c0, c1, c2, c3, c4, c5⟩ := row_dcl (hrow.same (HG.out.1.bel.block g hg)) j d (by rw [hd]; exact List.getElem?_eq_getElem hjl)
      have htk : ds.take (j + 1) = ds.take j ++ [d] := by rw [hd]; exact List.take_succ_eq_append_getElem hjl
      have hby : byOf (ds.take (j + 1)) = if d.lock then byOf (ds.take j) else putF (byOf (ds.take j)) d.name d.by' := by rw [htk, byOf_snoc]
      have hsz : d.name.size ≤ maxLen := by
        have := HS1.out d (by rw [hd]; exact List.getElem_mem hjl)
        unfold maxLen; omega
      have HBY := Lib.hid hby
      obtain ⟨Wd, hWd⟩ : ∃ Wd, Wd = wr.alloc (.cells d.cells.toArray TD) := ⟨_, rfl⟩
      obtain ⟨D0, hD0⟩ : ∃ D0, D0 = wr.heap.size := ⟨_, rfl⟩
      have HD0 : Hid (Wd.heap[D0]? = some (.cells d.cells.toArray TD (0, 0))) := Lib.hid (by rw [hWd, hD0]; exact blk_new _ _)
      have HCd : Hid (CD w B b mb mu ds j Wd ∧ Wd.heap[P0]? = some (.cells #[.slice (some ⟨g, 0, none⟩) n c, .slice A' n' c'] TPg (0, 0))) := Lib.hid (by
        rw [hWd]
        refine ⟨⟨HG.out.1.hm.alloc _, HG.out.1.mp.kept (Below.heap_alloc _ _ _ HG.out.1.mp.lt), ?_⟩, blk_alloc HG.out.2 _⟩
        exact HG.out.1.bel.alloc (by have := HG.out.1.hm.lb.1; have := HG.out.1.hm.lt; omega) _)
      have d0 : Wd.cell? ⟨D0, 0, none⟩ = some (.bool d.lock) := (blk_cell HD0.out 0).trans rfl
      have hDl := lt_heap HD0.out
      have hbl := HCd.out.1.hm.lt
      clear hd htk hby
      go_upto_region 5 with fail
      show Code.wp _ _ _ _ (wr.alloc (.cells #[.bool d.lock, .int .i64 d.label, .string d.name, .int .i64 d.size, .string d.by', .int .i64 d.p] TD))
      rw [show wr.alloc (.cells #[.bool d.lock, .int .i64 d.label, .string d.name, .int .i64 d.size, .string d.by', .int .i64 d.p] TD) = Wd from hWd.symm, ← hD0]
      clear hWd hD0 c0 c1 c2 c3 c4 c5 hrow
      cases hlk : d.lock with
      | true =>
        rw [hlk] at d0 HBY
        go_wp2
        go_roundw
        case rel => exact ⟨j + 1, by omega, by go_num, Lib.hid ⟨⟨by rw [HBY.out]; exact HCd.out.1.hm, by rw [HBY.out]; exact HCd.out.1.mp.mono (Nat.le_succ j), HCd.out.1.bel⟩, HCd.out.2⟩⟩
        case measure => simp [RowKit.intOf]; omega
      | false =>
        rw [hlk] at d0 HBY
        go_wp2
        have e0 : Wd.cell? ⟨b, 0, none⟩ = some (.map (some mb)) := (blk_cell HCd.out.1.hm.blk 0).trans rfl
        have e2 : Wd.cell? ⟨D0, 2, none⟩ = some (.string d.name) := (blk_cell HD0.out 2).trans rfl
        have e4 : Wd.cell? ⟨D0, 4, none⟩ = some (.string d.by') := (blk_cell HD0.out 4).trans rfl
        refine wp_region_S [(8, fun w0 => w0.cell? ⟨b, 0, none⟩ = some (.map (some mb)) ∧ w0.cell? ⟨D0, 2, none⟩ = some (.string d.name) ∧ w0.cell? ⟨D0, 4, none⟩ = some (.string d.by'))] (by kernel_rfl) (SL.cons ⟨cell_dw e0, cell_dw e2, cell_dw e4⟩ SL.nil) (fun hS => ?_)
        (refine wpAnyS_free 0 (v := ?_) rfl (by kernel_rfl) (by kernel_rfl) (by kernel_rfl) (by simp) (fun _ _ _ h => h) (Or.inl ⟨by rfl, ?_⟩) hS (fun hS => ?_); rotate_left)
        · ((intro w; go_simp) <;> with_reducible rfl)
        try simp only [List.getElem_toArray, List.getElem_cons_succ, List.getElem_cons_zero, Act.put, List.setIfInBounds_toArray, List.set_cons_zero, List.set_cons_succ]
        (refine wpAnyS_free 1 (v := ?_) rfl (by kernel_rfl) (by kernel_rfl) (by kernel_rfl) (by simp) (fun _ _ _ h => h) (Or.inl ⟨by rfl, ?_⟩) hS (fun hS => ?_); rotate_left)
        · ((intro w; go_simp) <;> with_reducible rfl)
        try simp only [List.getElem_toArray, List.getElem_cons_succ, List.getElem_cons_zero, Act.put, List.setIfInBounds_toArray, List.set_cons_zero, List.set_cons_succ]
        (refine wpAnyS_free 2 (v := ?_) rfl (by kernel_rfl) (by kernel_rfl) (by kernel_rfl) (by simp) (fun _ _ _ h => h) (Or.inl ⟨by rfl, ?_⟩) hS (fun hS => ?_); rotate_left)
        · ((intro w; go_simp) <;> with_reducible rfl)
        try simp only [List.getElem_toArray, List.getElem_cons_succ, List.getElem_cons_zero, Act.put, List.setIfInBounds_toArray, List.set_cons_zero, List.set_cons_succ]
        (refine wpAnyS_load 3 8 (v := ?_) (List.mem_singleton.2 rfl) rfl (by kernel_rfl) (by kernel_rfl) (by kernel_rfl) (by kernel_rfl) (by kernel_rfl) (by simp) (fun _ _ _ h => h) (Or.inl ⟨by rfl, ?_⟩) hS (fun hS => ?_); rotate_left)
        · ((intro w hSw; (try dsimp only at hSw); go_simp) <;> with_reducible rfl)
        try simp only [List.getElem_toArray, List.getElem_cons_succ, List.getElem_cons_zero, Act.put, List.setIfInBounds_toArray, List.set_cons_zero, List.set_cons_succ]
        (refine wpAnyS_free 4 (v := ?_) rfl (by kernel_rfl) (by kernel_rfl) (by kernel_rfl) (by simp) (fun _ _ _ h => h) (Or.inl ⟨by rfl, ?_⟩) hS (fun hS => ?_); rotate_left)
        · ((intro w; go_simp) <;> with_reducible rfl)
        try simp only [List.getElem_toArray, List.getElem_cons_succ, List.getElem_cons_zero, Act.put, List.setIfInBounds_toArray, List.set_cons_zero, List.set_cons_succ]
        (refine wpAnyS_load 5 8 (v := ?_) (List.mem_singleton.2 rfl) rfl (by kernel_rfl) (by kernel_rfl) (by kernel_rfl) (by kernel_rfl) (by kernel_rfl) (by simp) (fun _ _ _ h => h) (Or.inl ⟨by rfl, ?_⟩) hS (fun hS => ?_); rotate_left)
        · ((intro w hSw; (try dsimp only at hSw); go_simp) <;> with_reducible rfl)
        try simp only [List.getElem_toArray, List.getElem_cons_succ, List.getElem_cons_zero, Act.put, List.setIfInBounds_toArray, List.set_cons_zero, List.set_cons_succ]
        (refine wpAnyS_free 6 (v := ?_) rfl (by kernel_rfl) (by kernel_rfl) (by kernel_rfl) (by simp) (fun _ _ _ h => h) (Or.inl ⟨by rfl, ?_⟩) hS (fun hS => ?_); rotate_left)
        · ((intro w; go_simp) <;> with_reducible rfl)
        try simp only [List.getElem_toArray, List.getElem_cons_succ, List.getElem_cons_zero, Act.put, List.setIfInBounds_toArray, List.set_cons_zero, List.set_cons_succ]
        (refine wpAnyS_load 7 8 (v := ?_) (List.mem_singleton.2 rfl) rfl (by kernel_rfl) (by kernel_rfl) (by kernel_rfl) (by kernel_rfl) (by kernel_rfl) (by simp) (fun _ _ _ h => h) (Or.inl ⟨by rfl, ?_⟩) hS (fun hS => ?_); rotate_left)
        · ((intro w hSw; (try dsimp only at hSw); go_simp) <;> with_reducible rfl)
        try simp only [List.getElem_toArray, List.getElem_cons_succ, List.getElem_cons_zero, Act.put, List.setIfInBounds_toArray, List.set_cons_zero, List.set_cons_succ]
        refine wpAnyS_one 8 rfl (by kernel_rfl) (by rfl) (fun K hK => ?_)
        refine wp_put HCd.out.1.mp _ _ _ TMs rfl Tryd.underlying133 (by unfold maxLen; omega) rfl d.name rfl hsz (.string d.by') rfl ?_
        intro w2 hp hg
        have hg2 : Wd.grownBy w2 (some mb) := ⟨hg.os, hg.tape, hg.output, hg.size, hg.block⟩
        have HU := Lib.hid (HCd.out.1.hm.decl hp hg2)
        have HP2 : Hid (w2.heap[P0]? = some (.cells #[.slice (some ⟨g, 0, none⟩) n c, .slice A' n' c'] TPg (0, 0))) := Lib.hid ((hg2.block P0 (lt_heap HCd.out.2) (by intro e; injection e with e; exact HCd.out.1.mp.ne HCd.out.2 e.symm)).trans HCd.out.2)
        have HMP2 : Hid (Mp w2 mb (j + 1) (byF (putF (byOf (ds.take j)) d.name d.by'))) := Lib.hid (byF_put _ _ _ ▸ hp)
        clear hp hg hg2
        refine hK.out _ _ (SL.past (by kernel_rfl) SL.nil) (fun hS => ?_)
        clear hK K
        try simp only [List.getElem_toArray, List.getElem_cons_succ, List.getElem_cons_zero, Act.put, List.setIfInBounds_toArray, List.set_cons_zero, List.set_cons_succ]
        refine wpAnyS_done (by kernel_rfl) ?_ _
        clear e0 e2 e4
        go_wp2
        go_roundw
        case rel => exact ⟨j + 1, by omega, by go_num, Lib.hid ⟨⟨by rw [HBY.out]; exact HU.out.1, by rw [HBY.out]; exact HMP2.out, HCd.out.1.bel.trans HU.out.2⟩, HP2.out⟩⟩
        case measure => simp [RowKit.intOf]; omega
    · have hjl : j = ds.length := by have := HLN.out; omega
      subst hjl
      have p1 : wr.cell? ⟨P0, 1, none⟩ = some (.slice A' n' c') := (blk_cell HG.out.2 1).trans rfl
      have hP0l := lt_heap HG.out.2
      have HT0 : Hid (CT w B b mb mu (byOf ds) ts r 0 wr) := Lib.hid ⟨⟨0, ⟨fun _ => none, [], []⟩, 0, none, 0, none, 0, (by have := HG.out.1.hm; rw [List.take_length] at this; exact this), by simpa using HS3.out, HR.out⟩, HG.out.1.bel⟩
      clear HG HR HSL HS1
      go_wp2
      clear p1 hP0l hlt hj
      go_loopw [36] (fun i wr => ∃ j : Nat, j ≤ n' ∧ i = .int .i64 j ∧ Hid (CT w B b mb mu (byOf ds) ts r j wr)) (fun i _ => n' - (RowKit.intOf i).toNat)
      case atStart => exact ⟨0, Nat.zero_le _, rfl, HT0⟩
      case round =>
        clear HT0
        obtain ⟨j, hj, rfl, HG⟩ := hrel
        obtain ⟨th, h, k, hA, hc, oA, oc, hm, hk, he⟩ := HG.out.ex
        by_cases hlt : j < n'
        · have hjl : j < ts.length := by rw [← HLN'.out]; exact hlt
          obtain ⟨g, rfl, hg, hrow⟩ := HSL'.out (by omega)
          obtain ⟨v, hv, hbs⟩ := HVS.out.at' hjl
          obtain ⟨vA, vn, vc⟩ := v
          have c0 : wr.cell? ⟨g, j, none⟩ = some (.slice vA vn vc) := (hrow.same (HG.out.bel.block g hg)).cell (by rw [List.getElem?_map, hv]; rfl)
          obtain ⟨t, ht⟩ : ∃ t, t = ts[j] := ⟨_, rfl⟩
          rw [← ht] at hbs
          have hd : ts.drop j = t :: ts.drop (j + 1) := by rw [ht]; exact List.drop_eq_getElem_cons hjl
          have htsm : t.sm = true := HS2.out t (by rw [ht]; exact List.getElem_mem hjl)
          rw [hd] at hk he
          simp only [tsCost] at hk
          obtain ⟨wx, hwx⟩ : ∃ wx, wx = ((wr.setCell ⟨b, 2, none⟩ (.int .i64 j)).setCell ⟨b, 3, none⟩ (.slice none 0 0)).setCell ⟨b, 4, none⟩ (.slice none 0 0) := ⟨_, rfl⟩
          have HMr : Hid (HMx wx B b mb mu (byOf ds) j ⟨h.us, [], []⟩ k none 0 none 0) := Lib.hid (by rw [hwx]; exact hm.reset j)
          have HBr : Hid (Below B w wx) := Lib.hid (by rw [hwx]; exact ((HG.out.bel.setCell (p := ⟨b, 2, none⟩) hm.lb.1 _).setCell (p := ⟨b, 3, none⟩) hm.lb.1 _).setCell (p := ⟨b, 4, none⟩) hm.lb.1 _)
          have s2 := (blk_cell hm.blk 2).trans rfl
          have s3 := (blk_cell hm.blk 3).trans rfl
          have s4 := (blk_cell hm.blk 4).trans rfl
          have z2 := blk_frozen hm.blk 2
          have z3 := blk_frozen hm.blk 3
          have z4 := blk_frozen hm.blk 4
          have hbl := hm.lt
          have HBS : Hid (Bs t (fun g => g < B) wx vA vn vc) := Lib.hid (hbs.low HBr.out)
          have HE : Hid (r = match samep (hblk (byOf ds) j t) (atOf t) ⟨h.us, [], []⟩ with | .ok h => hthreads (byOf ds) (j + 1) (ts.drop (j + 1)) h.us | .error p => some p) := Lib.hid he
          have HK := Lib.hid hk
          have HSA := Lib.hid (same_any t wx B b mb mu (byOf ds) j ⟨h.us, [], []⟩ k none 0 none 0 vA vn vc (atOf t) HMr.out HBS.out htsm (by omega))
          clear hm hk he HG hbs hv hrow hd ht htsm
          go_upto_region 12 with fail
          rw [← hwx]
          clear hwx s2 s3 s4 z2 z3 z4 c0 hbl
          rcases HBS.out.head with ⟨hv0, hat⟩ | ⟨g', hpos, rfl, hg', c6⟩
          · subst hv0
            rw [hat] at HSA HE
            cases hr1 : samep (hblk (byOf ds) j t) 0 ⟨h.us, [], []⟩ with
            | error p' =>
              rw [hr1] at HSA HE
              go_wp2_with (go_at_call 59; refine HSA.out.mono ?_; rintro e w4 ⟨u, rfl, hu, h9, hA9, hc9, oA9, oc9, hm9, ht9⟩; have HU := Lib.hid hu; have HT9 := Lib.hid ht9; obtain ⟨gF, rfl, _⟩ := hu; clear hm9 ht9)
              go_ret
              rw [HE.out]
              exact ⟨HBw.out ▸ HBr.out.trans HT9.out.bel, _, rfl, HU.out⟩
            | ok h4 =>
              rw [hr1] at HSA HE
              go_wp2_with (go_at_call 59; refine HSA.out.mono ?_; rintro e w4 ⟨rfl, hA4, hc4, oA4, oc4, hm4, ht4⟩; have HM4 := Lib.hid hm4; have HT4 := Lib.hid ht4; clear hm4 ht4)
              go_roundw
              case rel => exact ⟨j + 1, by omega, by go_num, Lib.hid ⟨⟨j, h4, _, hA4, hc4, oA4, oc4, HM4.out, by have := HK.out; omega, HE.out⟩, HBr.out.trans HT4.out.bel⟩⟩
              case measure => simp [RowKit.intOf]; omega
          · obtain ⟨at', hat⟩ : ∃ at', at' = atOf t := ⟨_, rfl⟩
            rw [← hat] at HSA HE c6
            clear hat
            cases hr1 : samep (hblk (byOf ds) j t) at' ⟨h.us, [], []⟩ with
            | error p' =>
              rw [hr1] at HSA HE
              go_wp2_with (go_at_call 59; refine HSA.out.mono ?_; rintro e w4 ⟨u, rfl, hu, h9, hA9, hc9, oA9, oc9, hm9, ht9⟩; have HU := Lib.hid hu; have HT9 := Lib.hid ht9; obtain ⟨gF, rfl, _⟩ := hu; clear hm9 ht9)
              go_ret
              rw [HE.out]
              exact ⟨HBw.out ▸ HBr.out.trans HT9.out.bel, _, rfl, HU.out⟩
            | ok h4 =>
              rw [hr1] at HSA HE
              go_wp2_with (go_at_call 59; refine HSA.out.mono ?_; rintro e w4 ⟨rfl, hA4, hc4, oA4, oc4, hm4, ht4⟩; have HM4 := Lib.hid hm4; have HT4 := Lib.hid ht4; clear hm4 ht4)
              go_roundw
              case rel => exact ⟨j + 1, by omega, by go_num, Lib.hid ⟨⟨j, h4, _, hA4, hc4, oA4, oc4, HM4.out, by have := HK.out; omega, HE.out⟩, HBr.out.trans HT4.out.bel⟩⟩
              case measure => simp [RowKit.intOf]; omega
        · have hjl : j = ts.length := by have := HLN'.out; omega
          subst hjl
          have HRe : Hid (r = none) := Lib.hid (by rw [List.drop_length] at he; exact he)
          have HBb := Lib.hid HG.out.bel
          clear he hm hk HG
          go_wp2
          go_ret
          rw [HRe.out]
          exact ⟨HBw.out ▸ HBb.out, rfl⟩
/-- A text's error: 0: none, 5: a lock's; else what is not spoken of. -/
def chk (s : ByteArray) : Nat := match parse s with
  | .error _ => 100
  | .ok p => if p.sm then (match holdp p with | none => 0 | some _ => 5) else 200
theorem number_errI (n : Nat) (p : Int) (v : Value) (w : World) (hv : ErrI w v n p) (hg : GT w) : Calls Tryd.prog 25 #[v] w (IntB w 0 n) := by
  obtain ⟨gF, rfl, hF⟩ := hv
  have hgl := World.block_lt_of_cell? w _ hg
  have hFl := lt_heap hF
  have hA := as_N gF n ⟨w.heap.size, 0, none⟩ 0 (w.alloc (.cells #[.int .i64 0] 51)) (GT.below hg ((Below.refl _ _).alloc (Nat.le_refl _) _)) ((blk_cell (blk_new _ _) 0).trans rfl) (blk_frozen (blk_new _ _) 0) ((blk_cell (blk_alloc hF _) 1).trans rfl)
  have HA := Lib.hid hA
  clear hA hF hg
  go_enter Tryd.func25, Tryd.ntmps25
  go_wp2_with (go_at_call 45; refine HA.out.mono ?_; rintro e w5 ⟨rfl, hw5⟩; have HB : Hid (Below w.heap.size w w5) := Lib.hid (by rw [hw5]; exact (((((((Below.refl w.heap.size w).alloc (Nat.le_refl _) _).alloc (by simp) _).alloc (by simp; omega) _).alloc (by simp; omega) _).alloc (by simp; omega) _)).setCell (p := ⟨w.heap.size, 0, none⟩) (Nat.le_refl _) _); have c5 : w5.cell? ⟨w.heap.size, 0, none⟩ = some (.int .i64 n) := (by rw [hw5]; exact (blk_cell (blk_put (blk_alloc (blk_alloc (blk_alloc (blk_alloc (blk_new w (.cells #[.int .i64 0] 51)) _) _) _) _) 0 _ rfl) 0).trans rfl); clear hw5)
  go_ret
  exact ⟨rfl, HB.out⟩
def ChkB (w : World) (n : Nat) (e : Ending) (w' : World) : Prop := e = .returned (.int .i64 n) ∧ Below w.heap.size w w'
theorem DsA.all {ds : List Dcl} {P : Nat → Prop} {w w' : World} {A : Option Addr} {n c : Nat} (h : DsA ds P w A n c) (hb : Below w.heap.size w w') : DsA ds (fun g => g < w'.heap.size) w' A n c :=
  ⟨h.1, h.2.mono (fun g _ hg => Nat.lt_of_lt_of_le hg hb.size) fun g _ hg => hb.block g hg⟩
theorem ThA.all {ts : List Blk} {P : Nat → Prop} {w w' : World} {A : Option Addr} {n c : Nat} (h : ThA ts P w A n c) (hb : Below w.heap.size w w') : ThA ts (fun g => g < w'.heap.size) w' A n c := by
  obtain ⟨h1, vs, h2, h3⟩ := h
  exact ⟨h1, vs, h2.stay (fun g _ hg => Nat.lt_of_lt_of_le hg hb.size) (.of fun g _ hg => hb.block g hg) (.of fun g _ hg => hb.block g hg), h3.mono (fun g _ hg => Nat.lt_of_lt_of_le hg hb.size) fun g _ hg => hb.block g hg⟩
set_option maxRecDepth 100000 in
set_option maxHeartbeats 4000000 in
theorem checks_calls {s : ByteArray} {n : Nat} (h : chk s = n) (hn : n ≤ 5) (w : World) (hg : GT w) : Calls Tryd.prog 16 #[.string s] w (ChkB w n) := by
  unfold chk at h
  cases hp : parse s with
  | error x => rw [hp] at h; dsimp only at h; omega
  | ok p =>
    rw [hp] at h
    dsimp only at h
    cases hsm : p.sm with
    | false => rw [hsm] at h; simp at h; omega
    | true =>
      rw [hsm, if_pos rfl] at h
      have HG := Lib.hid hg
      have HP := Lib.hid (prog_ok hp w)
      clear hg hp
      go_enter Tryd.func16, Tryd.ntmps16
      go_upto_region 4 with (go_at_call 12; refine HP.out.mono ?_; rintro e w1 ⟨A, n1, c1, A', n2, c2, rfl, hb1, hd, ht⟩; have HB1 := Lib.hid hb1; have HD := Lib.hid hd; have HT := Lib.hid ht; clear hb1 hd ht)
      obtain ⟨w2, hw2⟩ : ∃ w2, w2 = w1.alloc (.cells #[.slice A n1 c1, .slice A' n2 c2] TPg) := ⟨_, rfl⟩
      have hba : Below w1.heap.size w1 w2 := by rw [hw2]; exact (Below.refl _ _).alloc (Nat.le_refl _) _
      have HP2 : Hid (w2.heap[w1.heap.size]? = some (.cells #[.slice A n1 c1, .slice A' n2 c2] TPg (0, 0))) := Lib.hid (by rw [hw2]; exact blk_new _ _)
      have HCK := Lib.hid (check_calls p w2 A n1 c1 A' n2 c2 (HD.out.all hba) (HT.out.all hba) hsm)
      have HB2 : Hid (Below w.heap.size w w2) := Lib.hid (HB1.out.trans (hba.mono HB1.out.size))
      have q0 : w2.cell? ⟨w1.heap.size, 0, none⟩ = some (.slice A n1 c1) := (blk_cell HP2.out 0).trans rfl
      have q1 : w2.cell? ⟨w1.heap.size, 1, none⟩ = some (.slice A' n2 c2) := (blk_cell HP2.out 1).trans rfl
      have hpl := lt_heap HP2.out
      show Code.wp _ _ _ _ (w1.alloc (.cells #[.slice A n1 c1, .slice A' n2 c2] TPg))
      rw [← hw2]
      clear hw2 hba HD HT
      cases hh : holdp p with
      | none =>
        rw [hh] at HCK h
        dsimp only at h
        subst h
        go_wp2_with (first | (go_at_call 34; refine HCK.out.mono ?_; rintro e w3 ⟨hb3, rfl⟩; have HB3 := Lib.hid hb3; clear hb3) | (go_at_call 25; refine (number_nil w3).mono ?_; rintro e w4 ⟨rfl, hb4⟩; have HB4 := Lib.hid hb4; clear hb4))
        go_ret
        exact ⟨rfl, HB2.out.trans ((HB3.out.mono HB2.out.size).trans (HB4.out.mono (Nat.le_trans HB2.out.size HB3.out.size)))⟩
      | some q =>
        rw [hh] at HCK h
        dsimp only at h
        subst h
        go_wp2_with (first | (go_at_call 34; refine HCK.out.mono ?_; rintro e w3 ⟨hb3, u, rfl, hu⟩; have HB3 := Lib.hid hb3; have HN := Lib.hid (number_errI 5 q u w3 hu (HG.out.below (HB2.out.trans (hb3.mono HB2.out.size)))); obtain ⟨gF, rfl, _⟩ := hu; clear hb3) | (go_at_call 25; refine HN.out.mono ?_; rintro e w4 ⟨rfl, hb4⟩; have HB4 := Lib.hid hb4; clear hb4))
        go_ret
        exact ⟨rfl, HB2.out.trans ((HB3.out.mono HB2.out.size).trans (HB4.out.mono (Nat.le_trans HB2.out.size HB3.out.size)))⟩
theorem ck1 : chk ((⟨#[108, 111, 99, 107, 32, 108, 59, 32, 112, 117, 98, 108, 105, 99, 32, 97, 32, 98, 121, 32, 108, 59, 32, 116, 104, 114, 101, 97, 100, 32, 123, 32]⟩ : ByteArray) ++ ⟨#[97, 32, 61, 32, 49, 59, 32, 125]⟩) = 5 := by kernel_rfl
theorem ck2 : chk ((⟨#[108, 111, 99, 107, 32, 108, 59, 32, 112, 117, 98, 108, 105, 99, 32, 97, 32, 98, 121, 32, 108, 59, 32, 116, 104, 114, 101, 97, 100, 32, 123, 32]⟩ : ByteArray) ++ ⟨#[116, 97, 107, 101, 32, 108, 59, 32, 97, 32, 61, 32, 49, 59, 32, 103, 105, 118, 101, 32, 108, 59, 32, 125]⟩) = 0 := by kernel_rfl
theorem ck3 : chk ((⟨#[108, 111, 99, 107, 32, 108, 59, 32, 112, 117, 98, 108, 105, 99, 32, 97, 32, 98, 121, 32, 108, 59, 32, 116, 104, 114, 101, 97, 100, 32, 123, 32]⟩ : ByteArray) ++ ⟨#[116, 97, 107, 101, 32, 108, 59, 32, 125]⟩) = 5 := by kernel_rfl
theorem ck0 : parse ((⟨#[108, 111, 99, 107, 32, 108, 59, 32, 112, 117, 98, 108, 105, 99, 32, 97, 32, 98, 121, 32, 108, 59, 32, 116, 104, 114, 101, 97, 100, 32, 123, 32]⟩ : ByteArray) ++ ⟨#[125]⟩) = .ok ⟨[⟨true, 0, ⟨#[108]⟩, 0, ⟨#[]⟩, 0⟩, ⟨false, 0, ⟨#[97]⟩, 0, ⟨#[108]⟩, 8⟩], [.nil]⟩ := by kernel_rfl
set_option maxRecDepth 100000 in
set_option maxHeartbeats 4000000 in
theorem awake8_calls (w : World) (hg : GT w) : Calls Tryd.prog 15 #[] w fun e w' => e = .returned (.bool true) ∧ Below w.heap.size w w' := by
  have HG := Lib.hid hg
  clear hg
  go_enter Tryd.func15, Tryd.ntmps15
  go_wp2_with (go_at_call 12; refine (prog_ok ck0 w).mono ?_; rintro e w1 ⟨A, n1, c1, A', n2, c2, rfl, hb1, hd, ht⟩; obtain rfl : n2 = 1 := ht.1; have HB1 := Lib.hid hb1; clear hb1 hd ht)
  have HB2 : Hid (Below w.heap.size w (w1.alloc (.cells #[.slice A n1 c1, .slice A' 1 c2] TPg))) := Lib.hid (HB1.out.alloc HB1.out.size _)
  refine (checks_calls ck1 (by omega) _ (HG.out.below HB2.out)).mono ?_
  rintro e w3 ⟨rfl, hb3⟩
  have HB3 := Lib.hid (HB2.out.trans (hb3.mono HB2.out.size))
  clear hb3 HB2 HB1
  go_wp2_with fail
  refine (checks_calls ck2 (by omega) _ (HG.out.below HB3.out)).mono ?_
  rintro e w4 ⟨rfl, hb4⟩
  have HB4 := Lib.hid (HB3.out.trans (hb4.mono HB3.out.size))
  clear hb4 HB3
  go_wp2_with fail
  refine (checks_calls ck3 (by omega) _ (HG.out.below HB4.out)).mono ?_
  rintro e w5 ⟨rfl, hb5⟩
  have HB5 := Lib.hid (HB4.out.trans (hb5.mono HB4.out.size))
  clear hb5 HB4
  go_wp2
  go_ret
  exact ⟨rfl, HB5.out⟩
def hallTo (f : Nat → Bool) : Nat → Bool
  | 0 => true
  | n + 1 => f n && hallTo f n
theorem hallTo_at {f : Nat → Bool} : ∀ {n : Nat}, hallTo f n = true → ∀ i, i < n → f i = true
  | 0, _, i, hi => by omega
  | n + 1, h, i, hi => by
    simp only [hallTo, Bool.and_eq_true] at h
    by_cases e : i = n
    · subst e; exact h.1
    · exact hallTo_at h.2 i (by omega)
def chkL (l : List UInt8) : Nat := match lexL l.length l.length l 0 with
  | .error _ => 100
  | .ok ts => match progp ts with
    | .error _ => 100
    | .ok p => if p.sm then (match holdp p with | none => 0 | some _ => 5) else 200
theorem chk_list (l : List UInt8) (h : l.length ≤ 65536) : chk ⟨l.toArray⟩ = chkL l := by
  have hs : (⟨l.toArray⟩ : ByteArray).size = l.length := by show l.toArray.size = _; simp
  unfold chk parse chkL
  rw [cut_eq _ (by rw [hs]; exact h), hs]
  show (match (match lexL l.length l.length l 0 with | .error x => .error x | .ok ts => progp ts : Except (Nat × Nat) Prg) with | .error _ => 100 | .ok p => if p.sm then (match holdp p with | none => 0 | some _ => 5) else 200) = _
  cases lexL l.length l.length l 0 with
  | error x => rfl
  | ok ts => rfl
theorem app_arr (l : List UInt8) (a : Array UInt8) : (⟨l.toArray⟩ : ByteArray) ++ ⟨a⟩ = ⟨(l ++ a.toList).toArray⟩ := by
  apply (bq_iff _ _).1
  unfold beq
  simp
end Go.Proofs.YtcdgjgoplogiiaaDoor.PT
