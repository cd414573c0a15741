/- The contract of want: places as the document's words give them are those of alloc.Of. -/
import Derived.Test.YthboknkpgbfmoaaAlp
namespace Go.Proofs.Ythboknkpgbfmoaa.PA
open Go.RowKit Go.WideMaps Go.Maps Go.Shelf Go.Proofs.YthboknkpgbfmoaaW.PrintWords
set_option linter.unusedVariables false
set_option linter.unusedSimpArgs false

def WantPost (l : List S60) (nv : Nat) (w : World) (e : Ending) (w' : World) : Prop :=
  ∃ P wg, Lives l P ∧ e = .returned (.tuple #[.slice (some ⟨wg, 0, none⟩) nv nv, .int .i64 (allocF (SpF l P l.length) nv l.length).sl]) ∧ w.heap.size ≤ wg ∧ w'.rowIs wg 3 nv (fun i => .int .i64 ((allocF (SpF l P l.length) nv l.length).wh i)) ∧ Below w.heap.size w w'
/-- What stands while values get places, one by one. -/
def WS (w0 : World) (g wg nv base : Nat) (s : Nat → Int × Int) (wh : Nat → Int) (act : Value) (ac : List Int) (wr : World) : Prop :=
  SR wr g nv s ∧ wr.rowIs wg 3 nv (fun i => .int .i64 (wh i)) ∧ Below w0.heap.size w0 wr ∧ RI base wr act ac ∧ (w0.heap.size ≤ g ∧ g < wg ∧ wg < base ∧ base ≤ wr.heap.size)
section
variable {w0 w w' : World} {g wg nv base : Nat} {s : Nat → Int × Int} {wh : Nat → Int} {act : Value} {ac : List Int}
theorem WS.own (h : WS w0 g wg nv base s wh act ac w) {k : Nat} (e : act.ownBlock = some k) : base ≤ k ∧ k < w.heap.size := h.2.2.2.1.lt e
theorem WS.app {act' : Value} {ac' : List Int} {row : Option Nat} (h : WS w0 g wg nv base s wh act ac w) (hR : RI base w' act' ac') (hg : w.grownBy w' row) (hr : ∀ k, row = some k → base ≤ k) : WS w0 g wg nv base s wh act' ac' w' := by
  obtain ⟨h1, h2, h3, h4, h5, h6, h7, h8⟩ := h
  have hgl := World.rowIs.lt h1
  have hwl := World.rowIs.lt h2
  exact ⟨h1.kept hg (fun e => by have := hr _ e; omega), World.rowIs.of_block h2 (hg.block wg hwl (fun e => by have := hr _ e.symm; omega)), h3.grown hg (by omega) (fun k e => by have := hr k e; omega), hR, h5, h6, h7, Nat.le_trans h8 hg.size⟩
theorem WS.kept {row : Option Nat} (h : WS w0 g wg nv base s wh act ac w) (hg : w.grownBy w' row) (hr : ∀ k, row = some k → base ≤ k ∧ act.ownBlock ≠ some k) : WS w0 g wg nv base s wh act ac w' := by
  refine h.app (h.2.2.2.1.kept hg ?_) hg (fun k e => (hr k e).1)
  cases ho : act.ownBlock with
  | none => exact .inl rfl
  | some k => exact .inr (fun e => (hr k e.symm).2 ho)
theorem WS.below (h : WS w0 g wg nv base s wh act ac w) (hb : Below w.heap.size w w') : WS w0 g wg nv base s wh act ac w' := h.kept (grown_of hb) (fun k e => by cases e)
theorem WS.alloc (h : WS w0 g wg nv base s wh act ac w) (o : Obj) : WS w0 g wg nv base s wh act ac (w.alloc o) := h.below ((Below.refl _ _).alloc (Nat.le_refl _) o)
theorem WS.setWh (h : WS w0 g wg nv base s wh act ac w) (i : Nat) (x : Int) : WS w0 g wg nv base s (put1 wh i x) act ac (w.setCell ⟨wg, i, none⟩ (.int .i64 x)) := by
  obtain ⟨h1, h2, h3, h4, h5, h6, h7, h8⟩ := h
  have hg := grownBy_set (World.grownBy.refl w (some wg)) ⟨wg, i, none⟩ rfl (.int .i64 x)
  have hgl := World.rowIs.lt h1
  refine ⟨h1.kept hg (fun e => by have := Option.some.inj e; omega), (World.rowIs.set h2 i _).congr fun j hj => ?_, h3.grown hg (by omega) (fun k e => by have := Option.some.inj e; omega), h4.other (by simp; omega) _, h5, h6, h7, by simpa using h8⟩
  unfold put1
  by_cases e : j = i <;> simp [e]
theorem WS.wc (h : WS w0 g wg nv base s wh act ac w) (i : Nat) (hi : i < nv) : w.cell? ⟨wg, i, none⟩ = some (.int .i64 (wh i)) ∧ w.frozen? ⟨wg, i, none⟩ = false :=
  ⟨World.rowIs.cell h.2.1 hi, World.rowIs.frozen h.2.1 i⟩
end
theorem RI.weak {base base' : Nat} {w : World} {v : Value} {xs : List Int} (h : RI base' w v xs) (hb : base ≤ base') : RI base w v xs := by
  obtain ⟨h1, h2⟩ := h
  refine ⟨h1, ?_⟩
  rcases h2 with h2 | ⟨g, cap, cur, e, hg, r⟩
  · exact .inl h2
  · exact .inr ⟨g, cap, cur, e, Nat.le_trans hb hg, r⟩
/-- The list of those that were given places: up to place k, and there up to value v. -/
def ordAt (s : Nat → Int × Int) (nv k v : Nat) : List Int := ordOf s nv k ++ (nums v).filter fun x => decide (keyS s x = (k : Int))
theorem ordAt_zero (s : Nat → Int × Int) (nv k : Nat) : ordAt s nv k 0 = ordOf s nv k := by simp [ordAt, nums]
theorem ordAt_end (s : Nat → Int × Int) (nv k : Nat) : ordAt s nv k nv = ordOf s nv (k + 1) := (ordOf_succ s nv k).symm
theorem ordAt_no {s : Nat → Int × Int} {nv k v : Nat} (h : (s v).1 ≠ (k : Int)) : ordAt s nv k (v + 1) = ordAt s nv k v := by
  unfold ordAt
  rw [nums_succ, List.filter_append]
  simp [keyS, h]
theorem ordAt_yes {s : Nat → Int × Int} {nv k v : Nat} (h : (s v).1 = (k : Int)) : ordAt s nv k (v + 1) = ordAt s nv k v ++ [(v : Int)] := by
  unfold ordAt
  rw [nums_succ, List.filter_append]
  simp [keyS, h]
def init0 : PS := ⟨fun _ => 0, 0, []⟩
theorem ordAt_ok (s : Nat → Int × Int) (nv k v : Nat) (hv : v ≤ nv) : (ordAt s nv k v).Nodup ∧ (∀ x ∈ ordAt s nv k v, 0 ≤ x ∧ x < nv) ∧ ((v < nv) → ¬ (v : Int) ∈ ordAt s nv k v ∨ (s v).1 ≠ (k : Int)) := by
  obtain ⟨h1, h2⟩ := ordOf_nodup s nv k
  refine ⟨List.nodup_append.2 ⟨h1, (nums_nodup v).filter _, fun x hx y hy e => ?_⟩, fun x hx => ?_, fun hlt => ?_⟩
  · subst e
    have := h2 x hx
    have := (List.mem_filter.1 hy).2
    simp at this
    omega
  · rcases List.mem_append.1 hx with hx | hx
    · exact mem_ordOf hx
    · have := mem_nums.1 (List.mem_filter.1 hx).1
      omega
  · by_cases e : (s v).1 = (k : Int)
    · left
      intro hm
      rcases List.mem_append.1 hm with hm | hm
      · have := h2 _ hm
        simp [keyS] at this
        omega
      · have := mem_nums.1 (List.mem_filter.1 hm).1
        omega
    · exact .inr e
theorem step_sl (s : Nat → Int × Int) (st : PS) (v : Int) : (stepA s st v).sl ≤ st.sl + 1 := by
  unfold stepA
  simp only
  split
  · simp
  · split <;> simp
theorem fold_sl (s : Nat → Int × Int) : ∀ (L : List Int) (st : PS), (L.foldl (stepA s) st).sl ≤ st.sl + L.length
  | [], st => by simp
  | v :: L, st => by
    have h1 := fold_sl s L (stepA s st v)
    have h2 := step_sl s st v
    simp only [List.foldl_cons, List.length_cons]
    omega
theorem state_ok (s : Nat → Int × Int) (nv k v : Nat) (hv : v ≤ nv) : OkA nv ((ordAt s nv k v).foldl (stepA s) init0) ∧ (∀ x ∈ ((ordAt s nv k v).foldl (stepA s) init0).ac, x ∈ ordAt s nv k v) ∧ ((ordAt s nv k v).foldl (stepA s) init0).ac.length ≤ nv ∧ ((ordAt s nv k v).foldl (stepA s) init0).sl ≤ nv := by
  obtain ⟨h1, h2, _⟩ := ordAt_ok s nv k v hv
  have h0 : OkA nv init0 := fun x hx => absurd hx (by simp [init0])
  have hx : ∀ x ∈ ordAt s nv k v, 0 ≤ x ∧ x < nv ∧ ¬ x ∈ init0.ac := fun x hx => ⟨(h2 x hx).1, (h2 x hx).2, by simp [init0]⟩
  obtain ⟨h3, h4⟩ := fold_ok (s := s) (nv := nv) (ordAt s nv k v) init0 h0 hx h1
  exact ⟨h3, fun x hx => (h4 x hx).resolve_left (by simp [init0]), ok_len h3 (fold_nodup _ _ h0 (by simp [init0]) hx h1), by
    have h5 := fold_sl s (ordAt s nv k v) init0
    have h6 := nodup_le (ordAt s nv k v) (nums nv) h1 (fun x hx => mem_nums.2 (h2 x hx))
    rw [nums_len] at h6
    simp only [init0] at h5 ⊢
    omega⟩
theorem reg_lt {l : List Int} {r : Nat} (h0 : ∀ j, j < r → (j : Int) ∈ l) (hr : r < 5) (h1 : ¬ (r : Int) ∈ l) : regOf l = r := regOf_eq h0 h1
theorem reg_ge {l : List Int} (h0 : ∀ j : Nat, j < 5 → (j : Int) ∈ l) : ¬ regOf l < 5 := fun h => (regOf_spec l).2 (h0 _ h)
theorem mk5 (w : World) : (Instr.makeSlice 40 (.int .i64 5) (.int .i64 5)).run Try.prog w = .ok (.slice (some ⟨w.heap.size, 0, none⟩) 5 5) (w.alloc (.cells #[.bool false, .bool false, .bool false, .bool false, .bool false] 4)) := by kernel_rfl
/-- The row of registers that are used. -/
def UR (w : World) (ub : Nat) (l : List Int) : Prop := w.rowIs ub 4 5 (fun i => .bool (decide ((i : Int) ∈ l)))
theorem UR.new (w : World) : UR (w.alloc (.cells #[.bool false, .bool false, .bool false, .bool false, .bool false] 4)) w.heap.size [] := by
  refine World.rowIs_alloc w _ 4 _ (fun i hi => ?_)
  simp at hi
  match i, hi with
  | 0, _ => rfl
  | 1, _ => rfl
  | 2, _ => rfl
  | 3, _ => rfl
  | 4, _ => rfl
theorem UR.kept {w w' : World} {ub : Nat} {l : List Int} {row : Option Nat} (h : UR w ub l) (hg : w.grownBy w' row) (hr : row ≠ some ub) : UR w' ub l := World.rowIs.of_block h (hg.block ub (World.rowIs.lt h) (fun e => hr e.symm))
theorem UR.set {w : World} {ub : Nat} {l : List Int} (h : UR w ub l) (i : Nat) : UR (w.setCell ⟨ub, i, none⟩ (.bool true)) ub (l ++ [(i : Int)]) := by
  refine (World.rowIs.set h i _).congr fun j hj => ?_
  by_cases e : j = i
  · subst e
    simp
  · have : ¬ (j : Int) = (i : Int) := by omega
    simp [e, this]
theorem regs_snoc (wh : Nat → Int) (l : List Int) (x : Int) : regs wh (l ++ [x]) = regs wh l ++ [wh x.toNat] := by simp [regs]
theorem still_eq (s : Nat → Int × Int) (v : Nat) (l : List Int) (k : Int) (hk : (s v).1 = k) : still s (v : Int) l = l.filter fun x => decide ((s x.toNat).2 ≥ k) := by
  unfold still
  refine List.filter_congr fun x _ => ?_
  simp only [Int.toNat_natCast, hk]
  by_cases h : (s x.toNat).2 < k
  · have : ¬ (s x.toNat).2 ≥ k := by omega
    simp [h, this]
  · have : (s x.toNat).2 ≥ k := by omega
    simp [h, this]
set_option maxHeartbeats 4000000 in
set_option maxRecDepth 100000 in
theorem want_calls (A : Option Addr) (cap : Nat) (l : List S60) (K nv : Nat) (w : World) (hr : Kd.C k60 w A l.length l) (hc : l.length ≤ cap) (hl : l.length ≤ 1000) (hw : ∀ c ∈ l, ∀ u ∈ us c, (Lit.int .i64 u).wf = true)
    (hv : code_Values.f K l = some (nv : Int)) (hnv : nv ≤ 200) : Calls Try.prog 24 #[.slice A l.length cap] w (WantPost l nv w) := by
  have HR := Lib.hid hr
  have HW := Lib.hid hw
  have HV := Lib.hid hv
  obtain ⟨i0, hi, hz0, hz1, hz2⟩ := info_parts info3
  obtain ⟨n, hn⟩ : ∃ n, n = l.length := ⟨_, rfl⟩
  rw [← hn] at hc hl HR ⊢
  have HN := Lib.hid hn
  clear hr hw hv hn
  go_enter Try.func24, Try.ntmps24
  go_wp2_with fail
  refine (spansn_calls n A cap l K nv _ HN.out HR.out hc hl HW.out HV.out (by omega)).mono ?_
  rintro e w1 ⟨P, g, hP, rfl, hg0, hS, hb1⟩
  go_wp2_with (first
    | (at_make; refine wpList_make_full _ rfl _ _ 47 rfl w1.heap.size 3 i0 (.int .i64 0) 1 Try.underlying47 hi hz0 hz1 .i64 .i64 nv nv nv rfl rfl rfl rfl (by rw [hz2]; omega) (by unfold maxLen; omega) (Nat.le_refl _) ?_; intro w3 hown3 hg3)
    | fail)
  obtain ⟨hrow, hlt3⟩ := own_rowI3 (f := fun _ => .int .i64 0) hown3 (made3 nv)
  have hWS : WS w g w1.heap.size nv w3.heap.size (SpF l P l.length) (fun _ => 0) (.slice none 0 0) [] w3 :=
    ⟨hS.kept hg3 (by simp), hrow, hb1.grown hg3 hb1.size (fun k e => by cases e), RI.nil _ _, hg0, World.rowIs.lt hS, hlt3, Nat.le_refl _⟩
  obtain ⟨s, hs⟩ : ∃ s, s = SpF l P l.length := ⟨_, rfl⟩
  rw [← hs] at hWS
  have HS := Lib.hid hs
  have HP := Lib.hid hP
  generalize w3.heap.size = base at hWS
  generalize w1.heap.size = wg at hWS ⊢
  have HWS := Lib.hid hWS
  clear hown3 hg3 hS hrow hlt3 hWS hs hP hb1 hi hz0 hz1 hz2
  go_loopw [6, 7, 29] (fun sl_ act_ i wr => ∃ (act : Value) (st : PS) (k : Nat), act = act_ ∧ sl_ = .int .i64 st.sl ∧ k ≤ n ∧ i = .int .i64 k ∧ Hid (st = (ordAt s nv k 0).foldl (stepA s) init0) ∧ Hid (WS w g wg nv base s st.wh act st.ac wr)) (fun _ _ i _ => n - (intOf i).toNat)
  case atStart => exact ⟨_, init0, 0, rfl, rfl, Nat.zero_le _, rfl, Lib.hid (by simp [ordAt, ordOf, nums]), HWS⟩
  case round =>
    clear HWS
    obtain ⟨act, st, k, rfl, rfl, hk, rfl, HST, HWS⟩ := hrel
    by_cases hkn : k < n
    · go_wp2_with fail
      go_loopw [6, 7, 34] (fun sl_ act_ i wr => ∃ (act : Value) (st : PS) (v : Nat), act = act_ ∧ sl_ = .int .i64 st.sl ∧ v ≤ nv ∧ i = .int .i64 v ∧ Hid (st = (ordAt s nv k v).foldl (stepA s) init0) ∧ Hid (WS w g wg nv base s st.wh act st.ac wr)) (fun _ _ i _ => nv - (intOf i).toNat)
      case atStart => exact ⟨_, st, 0, rfl, rfl, Nat.zero_le _, rfl, HST, HWS⟩
      case round =>
        clear HST HWS
        obtain ⟨act, st, v, rfl, rfl, hv, rfl, HST, HWS⟩ := hrel
        by_cases hvn : v < nv
        · have c0 := HWS.out.1.c0 hvn
          have c1 := HWS.out.1.c1 hvn
          obtain ⟨p, hp⟩ : ∃ p, p = (s v).1 := ⟨_, rfl⟩
          obtain ⟨pl, hpl⟩ : ∃ pl, pl = (s v).2 := ⟨_, rfl⟩
          rw [← hp] at c0
          rw [← hpl] at c1
          have HPP := Lib.hid hp
          clear hp hpl
          by_cases hpk : p = (k : Int)
          · subst hpk
            obtain ⟨hOK, hAC, hacl, hsl⟩ := state_ok s nv k v (by omega)
            rw [← HST.out] at hOK hAC hacl hsl
            obtain ⟨aA, acap, hact, hacc, haccell⟩ := HWS.out.2.2.2.1.form2
            obtain ⟨na, hna⟩ : ∃ na, na = st.ac.length := ⟨_, rfl⟩
            rw [← hna] at hact hacc hacl
            subst hact
            have HNA := Lib.hid hna
            have HOK := Lib.hid hOK
            have HAC := Lib.hid hAC
            clear hna haccell hOK hAC
            have hmk := mk5
            have hW1 := (HWS.out.alloc (.cells #[.int .i64 (k : Int), .int .i64 pl] 55)).alloc (.cells #[.bool false, .bool false, .bool false, .bool false, .bool false] 4)
            have hU1 := UR.new (wr.alloc (.cells #[.int .i64 (k : Int), .int .i64 pl] 55))
            have hown : ∀ b, (Value.slice aA na acap).ownBlock = some b → b < wr.heap.size := fun b e => (HWS.out.own e).2
            have hbw := HWS.out.2.2.2.2.2.2.2
            rw [show (wr.alloc (.cells #[.int .i64 (k : Int), .int .i64 pl] 55)).heap.size = wr.heap.size + 1 by simp] at hU1
            have hsz : ((wr.alloc (.cells #[.int .i64 (k : Int), .int .i64 pl] 55)).alloc (.cells #[.bool false, .bool false, .bool false, .bool false, .bool false] 4)).heap.size = wr.heap.size + 2 := by simp
            have HSZ := Lib.hid hsz
            clear hsz
            go_wp2_with fail
            clear hmk
            generalize (wr.alloc (.cells #[.int .i64 (k : Int), .int .i64 pl] 55)).alloc (.cells #[.bool false, .bool false, .bool false, .bool false, .bool false] 4) = w5 at hW1 hU1 HSZ ⊢
            obtain ⟨ub, hub⟩ : ∃ ub, ub = wr.heap.size + 1 := ⟨_, rfl⟩
            have hub2 : wr.heap.size < ub := by omega
            have hs5 : w5.heap.size = ub + 1 := by rw [HSZ.out]; omega
            rw [← hub] at hU1 ⊢
            generalize wr.heap.size = hz at hown hbw hub2
            have HW1 := Lib.hid hW1
            have HU1 := Lib.hid hU1
            have HOWN := Lib.hid hown
            have HS5 : Hid (ub + 1 ≤ w5.heap.size) := Lib.hid (by omega)
            clear hW1 hU1 HSZ hub hown hs5 c0 c1 HWS
            go_loopw [11, 46] (fun sv_ i wr => ∃ (sv : Value) (q : Nat) (stl : List Int), sv = sv_ ∧ q ≤ na ∧ i = .int .i64 q ∧ Hid (stl = (st.ac.take q).filter fun x => decide ((s x.toNat).2 ≥ (k : Int))) ∧ Hid (WS w g wg nv base s st.wh (.slice aA na acap) st.ac wr) ∧ Hid (UR wr ub (regs st.wh stl)) ∧ Hid (RI (ub + 1) wr sv stl) ∧ Hid (ub + 1 ≤ wr.heap.size)) (fun _ i _ => na - (intOf i).toNat)
            case atStart => exact ⟨_, 0, [], rfl, Nat.zero_le _, rfl, Lib.hid (by simp), HW1, HU1, Lib.hid (RI.nil _ _), HS5⟩
            case round =>
              clear HW1 HU1 HS5
              obtain ⟨sv, q, stl, rfl, hq, rfl, HSTL, HWS, HU, HR1, HS5⟩ := hrel
              by_cases hqn : q < na
              · have hq2 : q < st.ac.length := by rw [← HNA.out]; exact hqn
                obtain ⟨ag, rfl, ac4⟩ : ∃ ag, aA = some ⟨ag, 0, none⟩ ∧ World.cell? wr ⟨ag, q, none⟩ = some (.int .i64 st.ac[q]) := by
                  rcases HWS.out.2.2.2.1.form with ⟨e, h0⟩ | ⟨g', cap', e, _, _, _, hc⟩
                  · rw [h0] at hq2
                    exact absurd hq2 (by simp)
                  · simp only [Value.slice.injEq] at e
                    exact ⟨g', e.1, (hc q hq2).1⟩
                have h1 := HOK.out st.ac[q] (List.getElem_mem hq2)
                have hE4 : st.ac.take (q + 1) = st.ac.take q ++ [st.ac[q]] := List.take_succ_eq_append_getElem hq2
                obtain ⟨x, hx⟩ := Int.eq_ofNat_of_zero_le h1.1.1
                rw [hx] at h1 ac4 hE4
                have HE4 := Lib.hid hE4
                clear hE4 hx
                have hxn : x < nv := by omega
                have x1 := HWS.out.1.c1 hxn
                obtain ⟨wx, wf⟩ := HWS.out.wc x hxn
                obtain ⟨y, hy⟩ := Int.eq_ofNat_of_zero_le h1.2.1
                have hy5 : y < 5 := by have := h1.2.2; omega
                rw [Int.toNat_natCast] at hy
                rw [hy] at wx
                obtain ⟨ex, hex⟩ : ∃ ex, ex = (s x).2 := ⟨_, rfl⟩
                rw [← hex] at x1
                have HEX := Lib.hid hex
                have HY := Lib.hid hy
                clear hex hy h1
                by_cases hge : ex ≥ (k : Int)
                · have hsl1 : stl.length ≤ 1000 := by
                    have h1 := List.length_filter_le (fun x => decide ((s x.toNat).2 ≥ (k : Int))) (st.ac.take q)
                    rw [← HSTL.out, List.length_take] at h1
                    omega
                  have hs5 := HS5.out
                  have wx0 := wx
                  clear wx wf
                  go_wp2_with (first
                    | (at_builtin; refine wpList_append_ri rfl (.tmp 57) (.tmp 59) rfl (ub + 1) _ stl rfl (HR1.out.alloc _) _ (x : Int) rfl (cell_new1 (by simp)) hsl1 (by simp; omega) ?_; intro v' w6 h1 h2 h3; have HW2 := Lib.hid ((HWS.out.alloc (.cells #[.int .i64 (x : Int)] 3)).kept h2 (fun b e => ⟨by have := (HR1.out.lt e).1; omega, fun e2 => by have := (HR1.out.lt e).1; have := HOWN.out _ e2; omega⟩)); have HU2 := Lib.hid (UR.kept (w' := w6) (HU.out.kept (grown_of ((Below.refl _ _).alloc (Nat.le_refl _) (.cells #[.int .i64 (x : Int)] 3))) (by simp)) h2 (fun e => by have := (HR1.out.lt e).1; omega)); have wx2 := (HW2.out.wc x hxn).1; rw [HY.out] at wx2; have uc2 := World.rowIs.cell HU2.out hy5; have uf2 := World.rowIs.frozen HU2.out y; have HR2 := Lib.hid h1; have hs6 : ub + 1 ≤ w6.heap.size := Nat.le_trans (by simp; omega) h2.size; clear h1 h2 h3; go_frame)
                    | fail)
                  go_roundw
                  case rel =>
                    have hgs := grownBy_set (World.grownBy.refl w6 (some ub)) ⟨ub, y, none⟩ rfl (.bool true)
                    refine ⟨_, q + 1, stl ++ [(x : Int)], rfl, by omega, by go_num, Lib.hid ?_, Lib.hid (HW2.out.kept hgs (fun b e => ⟨by have := Option.some.inj e; omega, fun e2 => by have := Option.some.inj e; have := HOWN.out _ e2; omega⟩)), Lib.hid ?_, Lib.hid (HR2.out.other (by simp) _), Lib.hid (by simpa using hs6)⟩
                    · rw [HE4.out, List.filter_append, ← HSTL.out]
                      simp [← HEX.out, hge]
                    · rw [regs_snoc]
                      have := HU2.out.set y
                      rw [Int.toNat_natCast, HY.out]
                      exact this
                  case measure => simp [intOf]; omega
                · go_wp2_with fail
                  go_roundw
                  case rel =>
                    refine ⟨_, q + 1, stl, rfl, by omega, by go_num, Lib.hid ?_, HWS, HU, HR1, HS5⟩
                    rw [HE4.out, List.filter_append, ← HSTL.out]
                    simp [← HEX.out, hge]
                  case measure => simp [intOf]; omega
              · obtain rfl : q = na := by omega
                have hst : stl = still s (v : Int) st.ac := by
                  rw [still_eq s v st.ac k HPP.out.symm, HSTL.out, HNA.out, List.take_length]
                have hak : (Value.slice aA q acap).ownBlock = none ∨ True := .inr trivial
                have hR2 := HR1.out.weak (base := base) (by omega)
                have hW2 : WS w g wg nv base s st.wh sv stl wr := HWS.out.app hR2 (World.grownBy.refl wr none) (fun b e => by cases e)
                have hnu : sv.ownBlock ≠ some ub := fun e => by have := (HR1.out.lt e).1; omega
                have HW2 := Lib.hid hW2
                have HNU := Lib.hid hnu
                clear hak hR2 hW2 hnu HWS HR1 HOWN
                have hsl1 : stl.length ≤ 1000 := by
                  have h1 := List.length_filter_le (fun x => decide ((s x.toNat).2 ≥ (k : Int))) (st.ac.take q)
                  rw [← HSTL.out, List.length_take] at h1
                  omega
                have HSTE := Lib.hid hst
                clear hst
                go_wp2_with fail
                go_loopw [15] (fun i wr => ∃ (r : Nat), r ≤ 5 ∧ i = .int .i64 r ∧ Hid (∀ j : Nat, j < r → (j : Int) ∈ regs st.wh stl) ∧ Hid (WS w g wg nv base s st.wh sv stl wr) ∧ Hid (UR wr ub (regs st.wh stl))) (fun i _ => 5 - (intOf i).toNat)
                case atStart => exact ⟨0, by omega, rfl, Lib.hid (fun j hj => by omega), HW2, HU⟩
                case round =>
                  clear HW2 HU
                  obtain ⟨r, hr5, rfl, HJ, HW2, HU⟩ := hrel
                  by_cases hlt5 : r < 5
                  · have hd5 : decide ((r : Int) < 5) = true := by simp; omega
                    have uc := World.rowIs.cell HU.out hlt5
                    have r0 : (0 : Int) ≤ (r : Int) := by omega
                    have r5 : (r : Int) < 5 := by omega
                    by_cases hin : (r : Int) ∈ regs st.wh stl
                    · have HIN := Lib.hid hin
                      rw [decide_eq_true hin] at uc
                      clear hin
                      go_wp2_with fail
                      go_roundw
                      case rel =>
                        refine ⟨r + 1, by omega, by go_num, Lib.hid fun j hj => ?_, HW2, HU⟩
                        by_cases e : j = r
                        · subst e; exact HIN.out
                        · exact HJ.out j (by omega)
                      case measure => simp [intOf]; omega
                    · have hreg := regOf_eq HJ.out hin
                      rw [decide_eq_false hin] at uc
                      have HREG := Lib.hid hreg
                      clear hreg hin
                      obtain ⟨wv, wf⟩ := HW2.out.wc v hvn
                      have hW3 := HW2.out.setWh v (r : Int)
                      have HW3 := Lib.hid hW3
                      have hbw3 : base ≤ wr.heap.size := HW2.out.2.2.2.2.2.2.2
                      clear hW3
                      go_wp2_with (first
                        | (at_builtin; refine wpList_append_ri rfl (.tmp 85) (.tmp 87) rfl base _ stl rfl (HW3.out.2.2.2.1.alloc _) _ (v : Int) rfl (cell_new1 (by simp)) hsl1 (by simp; omega) ?_; intro v' w6 h1 h2 h3; have HW4 := Lib.hid ((HW3.out.alloc _).app h1 h2 (fun b e => (HW3.out.own e).1)); clear h1 h2 h3; go_frame)
                        | fail)
                      go_roundw
                      case rel =>
                        refine ⟨_, ⟨put1 st.wh v (r : Int), st.sl, stl ++ [(v : Int)]⟩, v + 1, rfl, rfl, by omega, by go_num, Lib.hid ?_, HW4⟩
                        rw [ordAt_yes HPP.out.symm, List.foldl_append, ← HST.out]
                        simp only [List.foldl_cons, List.foldl_nil, stepA, ← HSTE.out, HREG.out, if_pos hlt5, Int.toNat_natCast]
                      case measure => simp [intOf]; omega
                  · obtain rfl : r = 5 := by omega
                    have hreg := reg_ge HJ.out
                    have HREG := Lib.hid hreg
                    clear hreg
                    obtain ⟨sA, scap, hsv, hsc, hscell⟩ := HW2.out.2.2.2.1.form2
                    obtain ⟨ns, hns⟩ : ∃ ns, ns = stl.length := ⟨_, rfl⟩
                    rw [← hns] at hsv hsc hsl1
                    subst hsv
                    have HNS := Lib.hid hns
                    have hse : ∀ q, q < ns → ∃ (sg : Nat) (x : Nat), sA = some ⟨sg, 0, none⟩ ∧ x < nv ∧ stl.take (q + 1) = stl.take q ++ [(x : Int)] ∧ stl[q]? = some (x : Int) := fun q hq => by
                      have hq2 : q < stl.length := by rw [← hns]; exact hq
                      obtain ⟨sg, e1, _⟩ := hscell q hq2
                      have hsub : ∀ z ∈ stl, z ∈ st.ac := fun z hz => by
                        rw [HSTE.out] at hz
                        exact (List.mem_filter.1 hz).1
                      have hm : stl[q] ∈ st.ac := hsub _ (List.getElem_mem hq2)
                      have h1 := (HOK.out _ hm).1
                      obtain ⟨x, hx⟩ := Int.eq_ofNat_of_zero_le h1.1
                      exact ⟨sg, x, e1, by omega, by rw [← hx]; exact List.take_succ_eq_append_getElem hq2, by rw [List.getElem?_eq_getElem hq2, hx]⟩
                    have HSE := Lib.hid hse
                    clear hns hscell hse HJ
                    go_wp2_with fail
                    go_loopw [16, 92] (fun la i wr => ∃ (q ln : Nat), q ≤ ns ∧ i = .int .i64 q ∧ la = .int .i64 ln ∧ ln < nv ∧ Hid (lastOf s (v : Int) (stl.take q) = (ln : Int)) ∧ Hid (WS w g wg nv base s st.wh (.slice sA ns scap) stl wr)) (fun _ i _ => ns - (intOf i).toNat)
                    case atStart => exact ⟨0, v, Nat.zero_le _, rfl, rfl, hvn, Lib.hid rfl, HW2⟩
                    case round =>
                      clear HW2
                      obtain ⟨q, ln, hq, rfl, rfl, hln, HLA, HW2⟩ := hrel
                      by_cases hqs : q < ns
                      · obtain ⟨sg, x, rfl, hx, hE4, hxe⟩ := HSE.out q hqs
                        have ac4 : World.cell? wr ⟨sg, q, none⟩ = some (.int .i64 (x : Int)) := by
                          rcases HW2.out.2.2.2.1.form with ⟨e, _⟩ | ⟨g', cap', e, _, _, _, hc⟩
                          · cases e
                          · simp only [Value.slice.injEq, Option.some.injEq, Addr.mk.injEq, and_true, true_and] at e
                            obtain ⟨rfl, _⟩ := e
                            have hq2 : q < stl.length := by rw [← HNS.out]; exact hqs
                            rw [List.getElem?_eq_getElem hq2] at hxe
                            rw [(hc q hq2).1, Option.some.inj hxe]
                        have HE4 := Lib.hid hE4
                        clear hE4 hxe
                        have x1 := HW2.out.1.c1 hx
                        have l1 := HW2.out.1.c1 hln
                        have hx2 : (x : Int) < (nv : Int) := by omega
                        have hl2 : (ln : Int) < (nv : Int) := by omega
                        obtain ⟨ex, hex⟩ : ∃ ex, ex = (s x).2 := ⟨_, rfl⟩
                        obtain ⟨el, hel⟩ : ∃ el, el = (s ln).2 := ⟨_, rfl⟩
                        rw [← hex] at x1
                        rw [← hel] at l1
                        have HEX := Lib.hid hex
                        have HEL := Lib.hid hel
                        clear hex hel
                        go_wp2_with fail
                        go_quiet (fail)
                        go_wp2_with fail
                        all_goals
                          have hbd : Below (World.heap wr).size wr (wr.drewN nq) := ⟨rfl, rfl, rfl, Nat.le_refl _, fun _ _ => rfl⟩
                          have h1 := HLA.out
                          unfold lastOf at h1
                        · have hlt4 : lastOf s (v : Int) (stl.take (q + 1)) = (x : Int) := by
                            unfold lastOf
                            rw [HE4.out, List.foldl_append, h1]
                            simp only [List.foldl_cons, List.foldl_nil, lastStep, Int.toNat_natCast, ← HEX.out, ← HEL.out]
                            rw [if_pos (by assumption)]
                          go_roundw
                          case rel => exact ⟨q + 1, x, by omega, by go_num, rfl, hx, Lib.hid hlt4, Lib.hid (HW2.out.below hbd)⟩
                          case measure => simp [intOf]; omega
                        · have hlt4 : lastOf s (v : Int) (stl.take (q + 1)) = (ln : Int) := by
                            unfold lastOf
                            rw [HE4.out, List.foldl_append, h1]
                            simp only [List.foldl_cons, List.foldl_nil, lastStep, Int.toNat_natCast, ← HEX.out, ← HEL.out]
                            rw [if_neg (by omega)]
                          go_roundw
                          case rel => exact ⟨q + 1, ln, by omega, by go_num, rfl, hln, Lib.hid hlt4, Lib.hid (HW2.out.below hbd)⟩
                          case measure => simp [intOf]; omega
                      · obtain rfl : ns = q := by omega
                        have hlst : lastOf s (v : Int) stl = (ln : Int) := by
                          have := HLA.out
                          rw [HNS.out, List.take_length] at this
                          exact this
                        have HLST := Lib.hid hlst
                        clear hlst
                        obtain ⟨wlc, wlf⟩ := HW2.out.wc ln hln
                        obtain ⟨wvc, wvf⟩ := HW2.out.wc v hvn
                        by_cases hlv : ln = v
                        · subst hlv
                          go_wp2_with fail
                          go_roundw
                          case rel =>
                            refine ⟨_, ⟨put1 st.wh ln (-((st.sl : Int) + 1)), st.sl + 1, stl⟩, ln + 1, rfl, by simp, by omega, by go_num, Lib.hid ?_, Lib.hid (HW2.out.setWh ln (-((st.sl : Int) + 1)))⟩
                            rw [ordAt_yes HPP.out.symm, List.foldl_append, ← HST.out]
                            simp only [List.foldl_cons, List.foldl_nil, stepA, ← HSTE.out, if_neg HREG.out, HLST.out, if_true, Int.toNat_natCast]
                          case measure => simp [intOf]; omega
                        · have hlv2 : ¬ (ln : Int) = (v : Int) := by omega
                          have HW3 := Lib.hid (HW2.out.setWh v (st.wh ln))
                          have hl2 : (ln : Int) < (nv : Int) := by omega
                          have hv2 : (v : Int) < (nv : Int) := by omega
                          obtain ⟨wn, hwn⟩ : ∃ wn, wn = st.wh ln := ⟨_, rfl⟩
                          rw [← hwn] at wlc HW3
                          have HWN := Lib.hid hwn
                          clear hwn
                          go_wp2_with fail
                          have hbw7 : base ≤ (World.setCell wr ⟨wg, v, none⟩ (.int .i64 wn)).heap.size := HW3.out.2.2.2.2.2.2.2
                          have hown7 := fun b e => (HW3.out.own (k := b) e).2
                          have hsz7 : Hid ((World.setCell wr ⟨wg, v, none⟩ (.int .i64 wn)).heap.size ≤ (World.setCell wr ⟨wg, v, none⟩ (.int .i64 wn)).heap.size) := Lib.hid (Nat.le_refl _)
                          generalize World.setCell wr ⟨wg, v, none⟩ (.int .i64 wn) = w7 at HW3 hbw7 hown7 hsz7 ⊢
                          generalize hb3 : w7.heap.size = base3 at hbw7 hown7
                          have hsz7 : Hid (base3 ≤ w7.heap.size) := Lib.hid (by omega)
                          have HOWN7 := Lib.hid hown7
                          clear hown7 hb3 wlc wlf wvc wvf HW2 HU
                          go_loopw [19, 123] (fun rv_ i wr => ∃ (rv : Value) (q : Nat) (rl : List Int), rv = rv_ ∧ q ≤ ns ∧ i = .int .i64 q ∧ Hid (rl = (stl.take q).filter fun x => !decide (x = (ln : Int))) ∧ Hid (WS w g wg nv base s (put1 st.wh v wn) (.slice sA ns scap) stl wr) ∧ Hid (RI base3 wr rv rl) ∧ Hid (base3 ≤ wr.heap.size)) (fun _ i _ => ns - (intOf i).toNat)
                          case atStart => exact ⟨_, 0, [], rfl, Nat.zero_le _, rfl, Lib.hid (by simp), HW3, Lib.hid (RI.nil _ _), hsz7⟩
                          case round =>
                            clear HW3 hsz7
                            obtain ⟨rv, q, rl, rfl, hq, rfl, HRL, HW3, HR3, hsz7⟩ := hrel
                            have hrl : rl.length ≤ 1000 := by
                              have h1 := List.length_filter_le (fun x => !decide (x = (ln : Int))) (stl.take q)
                              rw [← HRL.out, List.length_take] at h1
                              omega
                            have hs7 := hsz7.out
                            by_cases hqs : q < ns
                            · obtain ⟨sg, x, rfl, hx, hE4, hxe⟩ := HSE.out q hqs
                              have ac4 : World.cell? wr ⟨sg, q, none⟩ = some (.int .i64 (x : Int)) := by
                                rcases HW3.out.2.2.2.1.form with ⟨e, _⟩ | ⟨g', cap', e, _, _, _, hc⟩
                                · cases e
                                · simp only [Value.slice.injEq, Option.some.injEq, Addr.mk.injEq, and_true, true_and] at e
                                  obtain ⟨rfl, _⟩ := e
                                  have hq2 : q < stl.length := by rw [← HNS.out]; exact hqs
                                  rw [List.getElem?_eq_getElem hq2] at hxe
                                  rw [(hc q hq2).1, Option.some.inj hxe]
                              have HE4 := Lib.hid hE4
                              clear hE4 hxe
                              by_cases hxl : (x : Int) = (ln : Int)
                              · have hxl0 : x = ln := by omega
                                subst hxl0
                                go_wp2_with fail
                                go_roundw
                                case rel =>
                                  refine ⟨_, q + 1, rl, rfl, by omega, by go_num, Lib.hid ?_, HW3, HR3, hsz7⟩
                                  rw [HE4.out, List.filter_append, ← HRL.out]
                                  simp
                                case measure => simp [intOf]; omega
                              · go_wp2_with (first
                                  | (at_builtin; refine wpList_append_ri rfl (.tmp 130) (.tmp 132) rfl base3 _ rl rfl (HR3.out.alloc _) _ (x : Int) rfl (cell_new1 (by simp)) hrl (by simp; omega) ?_; intro v' w8 h1 h2 h3; have HW4 := Lib.hid ((HW3.out.alloc _).kept h2 (fun b e => ⟨by have := (HR3.out.lt e).1; omega, fun e2 => by have := (HR3.out.lt e).1; have := HOWN7.out _ e2; omega⟩)); have HR4 := Lib.hid h1; have HS4 : Hid (base3 ≤ w8.heap.size) := Lib.hid (Nat.le_trans (by simp; omega) h2.size); clear h1 h2 h3; go_frame)
                                  | fail)
                                go_roundw
                                case rel =>
                                  refine ⟨_, q + 1, rl ++ [(x : Int)], rfl, by omega, by go_num, Lib.hid ?_, HW4, HR4, HS4⟩
                                  rw [HE4.out, List.filter_append, ← HRL.out]
                                  simp [hxl]
                                case measure => simp [intOf]; omega
                            · obtain rfl : ns = q := by omega
                              have hrest : rl = stl.filter fun x => !decide (x = (ln : Int)) := by
                                rw [HRL.out, HNS.out, List.take_length]
                              have HREST := Lib.hid hrest
                              clear hrest
                              go_wp2_with (first
                                | (at_builtin; refine wpList_append_ri rfl (.tmp 135) (.tmp 137) rfl base3 _ rl rfl (HR3.out.alloc _) _ (v : Int) rfl (cell_new1 (by simp)) hrl (by simp; omega) ?_; intro v' w8 h1 h2 h3; have HW4 := Lib.hid ((HW3.out.alloc _).app (h1.weak (base := base) hbw7) h2 (fun b e => by have := (HR3.out.lt e).1; omega)); obtain ⟨wlc, wlf⟩ := HW4.out.wc ln hln; clear h1 h2 h3)
                                | fail)
                              go_roundw
                              case rel =>
                                refine ⟨_, ⟨put1 (put1 st.wh v wn) ln (-((st.sl : Int) + 1)), st.sl + 1, rl ++ [(v : Int)]⟩, v + 1, rfl, by simp, by omega, by go_num, Lib.hid ?_, Lib.hid (HW4.out.setWh ln (-((st.sl : Int) + 1)))⟩
                                rw [ordAt_yes HPP.out.symm, List.foldl_append, ← HST.out]
                                simp only [List.foldl_cons, List.foldl_nil, stepA, ← HSTE.out, if_neg HREG.out, HLST.out, if_neg hlv2, Int.toNat_natCast, HWN.out, HREST.out]
                              case measure => simp [intOf]; omega
          · go_wp2_with fail
            go_roundw
            case rel =>
              refine ⟨_, st, v + 1, rfl, rfl, by omega, by go_num, Lib.hid ?_, Lib.hid (HWS.out.alloc _)⟩
              rw [ordAt_no (by rw [← HPP.out]; exact hpk)]
              exact HST.out
            case measure => simp [intOf]; omega
        · obtain rfl : nv = v := by omega
          go_wp2_with fail
          go_roundw
          case rel =>
            refine ⟨_, st, k + 1, rfl, rfl, by omega, by go_num, Lib.hid ?_, HWS⟩
            rw [ordAt_zero, ← ordAt_end]
            exact HST.out
          case measure => simp [intOf]; omega
    · obtain rfl : k = n := by omega
      go_wp2_with fail
      go_ret2
      have hfin : allocF (SpF l P l.length) nv l.length = st := by
        rw [← HS.out, ← HN.out, HST.out, ordAt_zero]
        rfl
      refine ⟨P, wg, HP.out, by rw [hfin]; rfl, by have := HWS.out.2.2.2.2; omega, by rw [hfin]; exact HWS.out.2.1, HWS.out.2.2.1⟩
end Go.Proofs.Ythboknkpgbfmoaa.PA
