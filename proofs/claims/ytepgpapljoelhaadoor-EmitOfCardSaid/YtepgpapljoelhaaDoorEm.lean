/- The contracts of emit's emitter: slot, register. -/
import Derived.Test.YtepgpapljoelhaaDoorPEx2
import Derived.Deep.RegionHeld3
import Derived.Deep.AppendLies
import Derived.Deep.RegionLaw
import Derived.Lib.Hide
namespace Go.Proofs.YtepgpapljoelhaaDoor.PE
open Go.RowKit Go.Proofs.YtepgpapljoelhaaDoorW.PrintWords Go.Proofs.YtepgpapljoelhaaDoorW.PrintLast Go.Proofs.YtepgpapljoelhaaDoorW.PrintMore
set_option linter.unusedVariables false
set_option linter.unusedSimpArgs false

/-- The blocks of Pr stand as they stood. -/
structure Pz (Pr : Nat → Prop) (w w' : World) : Prop where
  below : Below 0 w w'
  block : ∀ k, Pr k → w'.heap[k]? = w.heap[k]?
theorem Pz.refl (Pr : Nat → Prop) (w : World) : Pz Pr w w := ⟨Below.refl _ _, fun _ _ => rfl⟩
theorem Pz.trans {Pr : Nat → Prop} {a b c : World} (h : Pz Pr a b) (k : Pz Pr b c) : Pz Pr a c := ⟨h.below.trans k.below, fun i hi => (k.block i hi).trans (h.block i hi)⟩
theorem Pz.mono {Pr Qr : Nat → Prop} {a b : World} (h : Pz Pr a b) (hq : ∀ k, Qr k → Pr k) : Pz Qr a b := ⟨h.below, fun i hi => h.block i (hq i hi)⟩
theorem Pz.of {Pr : Nat → Prop} {a b : World} (h : Below a.heap.size a b) (hp : ∀ k, Pr k → k < a.heap.size) : Pz Pr a b := ⟨h.mono (Nat.zero_le _), fun i hi => h.block i (hp i hi)⟩
theorem Pz.toBelow {Pr : Nat → Prop} {a b : World} (h : Pz Pr a b) {B : Nat} (hp : ∀ k, k < B → Pr k) : Below B a b := ⟨h.below.os, h.below.tape, h.below.output, h.below.size, fun k hk => h.block k (hp k hk)⟩
theorem Pz.size {Pr : Nat → Prop} {a b : World} (h : Pz Pr a b) : a.heap.size ≤ b.heap.size := h.below.size
/-- The emitter in block be: its places, the frame, what it has laid. -/
def EM (w : World) (Pr : Nat → Prop) (be : Nat) (Aw : Option Addr) (nw cw : Nat) (fr : Int) (v : Value) (out : List S37) : Prop :=
  w.heap[be]? = some (.cells #[.slice Aw nw cw, .int .u64 fr, v] 76 (0, 0)) ∧ Kd.R k37 37 w 0 (fun k => k ≠ be ∧ ¬ Pr k) v out ∧ ¬ Pr be ∧ ∀ k, Pr k → k < w.heap.size
def slotV (fr w : Int) : Int := IntKind.u64.wrap (fr + IntKind.u64.wrap (wrap64 (-1 - w)))
def readC (fr w sc : Int) : S37 := ⟨4, 0, sc, -1, 0, 0, slotV fr w, 0⟩
def regOf (ws : List Int) (v sc : Int) : Int := if rd ws v ≥ 0 then rd ws v else sc
def regC (fr : Int) (ws : List Int) (v sc : Int) : List S37 := if rd ws v ≥ 0 then [] else [readC fr (rd ws v) sc]
section
variable {w w' : World} {Pr : Nat → Prop} {be nw cw : Nat} {Aw : Option Addr} {fr : Int} {v : Value} {out : List S37}
theorem EM.lt (h : EM w Pr be Aw nw cw fr v out) : be < w.heap.size := blk_lt h.1
theorem EM.cells (h : EM w Pr be Aw nw cw fr v out) : w.cell? ⟨be, 0, none⟩ = some (.slice Aw nw cw) ∧ w.cell? ⟨be, 1, none⟩ = some (.int .u64 fr) ∧ w.cell? ⟨be, 2, none⟩ = some v ∧ w.frozen? ⟨be, 2, none⟩ = false := by
  have hb := h.1
  refine ⟨?_, ?_, ?_, ?_⟩ <;> simp [World.cell?, World.frozen?, hb]
end
theorem slot_calls (be : Nat) (fr a : Int) (w : World) (hc : w.cell? ⟨be, 1, none⟩ = some (.int .u64 fr)) :
    Calls Tryd.prog 52 #[.pointer (some ⟨be, 0, none⟩), .int .i64 a] w fun e w' => e = .returned (.int .u64 (slotV fr a)) ∧ w' = w := by
  go_enter Tryd.func52, Tryd.ntmps52
  go_wp2
  go_ret
  exact ⟨rfl, rfl⟩
def cells37 (p : S37) : Array Value := #[.int .i64 p.f0, .int .i64 p.f1, .int .i64 p.f2, .int .i64 p.f3, .int .i64 p.f4, .int .i64 p.f5, .int .u64 p.f6, .int .i64 p.f7]
/-- A code appended to a row of the call's own, inside a region that draws its order. -/
theorem step_append_37 {ops : Array Oper} {a : Act} {K : Act → World → Prop} {Q : Exit → Act → World → Prop} {E : Prop} {W : World} (dst : Option Tmp) (ty : TypeId) (pos : String) (after : Array Edge) (s x : Operand)
    (v : Value) (xs : List S37) (p : S37) (ok : Nat → Prop) (Bk : Nat) (hs : a.eval s = v) (hx : a.eval x = .slice (some ⟨Bk, 0, none⟩) 1 1) (HO : Kd.R k37 37 W 0 ok v xs) (hB : W.heap[Bk]? = some (.cells (cells37 p) 37 (0, 0)))
    (hl : xs.length ≤ 1000000) (hfresh : ∀ k, W.heap.size ≤ k → ok k)
    (h : ∀ v1 w1, Kd.R k37 37 w1 0 ok v1 (xs ++ [p]) → W.grownBy w1 v.ownBlock → K (a.put dst v1) w1) :
    if Region.wanted { dst := dst, op := .call { callee := .builtin .append, args := #[s, x], argTypes := #[22, 22] }, type := ty, pos := pos, after := after, guard := none } (yielded ops a.tmps) = true then Oper.wp Tryd.prog { dst := dst, op := .call { callee := .builtin .append, args := #[s, x], argTypes := #[22, 22] }, type := ty, pos := pos, after := after, guard := none } a W K Q else E := by
  obtain ⟨i0, hi, hz0, hz1, hz2⟩ := info_parts info37
  obtain ⟨h0, inner, hown, hr⟩ := HO
  refine step_append_lies W rfl s x 22 rfl 0 37 i0 (.agg #[.int .i64 0, .int .i64 0, .int .i64 0, .int .i64 0, .int .i64 0, .int .i64 0, .int .u64 0, .int .i64 0]) 8 64 Tryd.underlying22 hi hz0 hz1 hz2 rfl (by decide) v xs.length inner hs hown ⟨Bk, 0, none⟩ 1 1 (cells37 p).toList hx rfl (World.news_of_block hB) (by simp [cells37, Value.oneCell']) (by decide) (by unfold maxLen; omega) (by omega) (Nat.zero_le _) W.heap.size rfl ?_
  intro g cap w1 hown1 hgrow hat hlt
  refine h _ w1 (Kd.R_appended h0 hr (k37_mkM W 0 (fun _ => False) p) (fun _ hk => hk.elim) hfresh hown1 hgrow ?_) hgrow
  rcases hat with hat | hat
  · exact .inl (by rw [hat]; rfl)
  · exact .inr ⟨g, rfl, by omega⟩
theorem slice_of {w : World} {ok : Nat → Prop} {v : Value} {xs : List S37} (h : Kd.R k37 37 w 0 ok v xs) : ∃ A n c, v = .slice A n c ∧ Hid (n = xs.length ∧ Kd.R k37 37 w 0 ok (.slice A n c) xs) := by
  obtain ⟨A, c, rfl⟩ := Kd.R_slice h
  exact ⟨A, _, c, rfl, Lib.hid ⟨rfl, h⟩⟩
/-- A code was appended, and stored back. -/
theorem EM.put {w w1 : World} {o : Obj} {Pr : Nat → Prop} {be nw cw n1 k1 : Nat} {Aw A1 : Option Addr} {fr : Int} {v : Value} {out o1 : List S37} (h : EM w Pr be Aw nw cw fr v out) (hg' : (w.alloc o).drew.grownBy w1 v.ownBlock) (hR : Kd.R k37 37 w1 0 (fun k => k ≠ be ∧ ¬ Pr k) (.slice A1 n1 k1) o1) :
    EM (w1.setCell ⟨be, 2, none⟩ (.slice A1 n1 k1)) Pr be Aw nw cw fr (.slice A1 n1 k1) o1 ∧ Pz Pr w (w1.setCell ⟨be, 2, none⟩ (.slice A1 n1 k1)) := by
  have hg : (w.alloc o).grownBy w1 v.ownBlock := ⟨hg'.os, hg'.tape, hg'.output, hg'.size, hg'.block⟩
  obtain ⟨h1, h2, h3, h4⟩ := h
  have ag : some be ≠ v.ownBlock := fun e => (h2.1 be e.symm).1 rfl
  have hb := blk_grown (blk_alloc h1 o) hg ag
  have hsz : w.heap.size ≤ w1.heap.size := Nat.le_trans (by simp) hg.size
  refine ⟨⟨blk_put hb 2 _ rfl, Kd.R_step hR (fun k hk _ => Below.heap_setCell _ _ _ _ hk.1), h3, fun k hk => by have := h4 k hk; simp [World.setCell]; omega⟩, ⟨hg.os, hg.tape, hg.output, by simp [World.setCell]; exact hsz, fun k hk => Nat.not_lt_zero _ hk |>.elim⟩, fun k hk => ?_⟩
  have hlt := h4 k hk
  have hkb : k ≠ be := fun e => h3 (e ▸ hk)
  rw [Below.heap_setCell _ _ _ _ hkb, hg.block k (by simp; omega) (fun e => (h2.1 k e.symm).2 hk), Below.heap_alloc _ _ _ hlt]
def RegPost (Pr : Nat → Prop) (be : Nat) (Aw : Option Addr) (nw cw : Nat) (fr : Int) (out : List S37) (ws : List Int) (x sc : Int) (w : World) (e : Ending) (w' : World) : Prop :=
  ∃ v', e = .returned (.int .i64 (regOf ws x sc)) ∧ EM w' Pr be Aw nw cw fr v' (out ++ regC fr ws x sc) ∧ Pz Pr w w'
set_option maxHeartbeats 2000000 in
set_option maxRecDepth 100000 in
theorem register_calls (Pr : Nat → Prop) (be nw cw : Nat) (Aw : Option Addr) (fr : Int) (v : Value) (out : List S37) (ws : List Int) (x sc : Int) (w : World) (hE : EM w Pr be Aw nw cw fr v out) (hW : Kd.C (Kd.int .i64) w Aw nw ws) (h0 : 0 ≤ x) (h1 : x < (nw : Int)) (hl : out.length ≤ 1000000) :
    Calls Tryd.prog 51 #[.pointer (some ⟨be, 0, none⟩), .int .i64 x, .int .i64 sc] w (RegPost Pr be Aw nw cw fr out ws x sc w) := by
  obtain ⟨ad, rfl, hx⟩ := Kd.at_int hW x h0 h1
  obtain ⟨c0, c1, c2, f2⟩ := hE.cells
  have hlt := hE.lt
  have HE := Lib.hid hE
  clear hE hW
  obtain ⟨y, hy⟩ : ∃ y, y = rd ws x := ⟨_, rfl⟩
  rw [← hy] at hx
  have HY := Lib.hid hy
  clear hy
  by_cases c : 0 ≤ y
  · have hc : y ≥ 0 := c
    have HP : RegPost Pr be (some ad) nw cw fr out ws x sc w (.returned (.int .i64 y)) w := by
      have e : rd ws x ≥ 0 := by rw [← HY.out]; exact c
      refine ⟨v, ?_, ?_, Pz.refl _ _⟩
      · unfold regOf; rw [if_pos e, HY.out]
      · unfold regC; rw [if_pos e, List.append_nil]; exact HE.out
    have HP := Lib.hid HP
    go_enter Tryd.func51, Tryd.ntmps51
    go_wp2_with fail
    go_ret
    exact HP.out
  · have hc : ¬ y ≥ 0 := c
    go_enter Tryd.func51, Tryd.ntmps51
    go_wp2_with fail
    have ag : some be ≠ v.ownBlock := fun e => (HE.out.2.1.1 be e.symm).1 rfl
    go_region_law
      (first
        | ((with_reducible refine step_append_37 _ _ _ _ (.tmp 22) (.tmp 28) v out ⟨4, 0, sc, -1, 0, 0, slotV fr y, 0⟩ (fun k => k ≠ be ∧ ¬ Pr k) w.heap.size ?aS ?aX ?aO ?aB hl ?aF ?_); (case aS => rfl); (case aX => rfl); (case aO => (with_reducible repeat (first | apply Kd.R_alloc | apply Kd.R_drewN | apply Kd.R_drew)); exact HE.out.2.1); (case aB => exact heap_alloc_new w _); (case aF => intro k hk; simp at hk; exact ⟨by omega, fun hp => by have := HE.out.2.2.2 k hp; omega⟩); intro v1 w1 hR1 hgrow; have f2b : w1.frozen? ⟨be, 2, none⟩ = false := (hgrow.frozen_far _ (by simp; omega) ag).trans ((((Below.refl w.heap.size w).alloc (Nat.le_refl _) _).frozen (p := ⟨be, 2, none⟩) hlt).trans f2); have c2b : w1.cell? ⟨be, 2, none⟩ = some v := (hgrow.cell_far _ (by simp; omega) ag).trans ((((Below.refl w.heap.size w).alloc (Nat.le_refl _) _).cell (p := ⟨be, 2, none⟩) hlt).trans c2); obtain ⟨A1, n1, k1, rfl, HR1⟩ := slice_of hR1; clear hR1)
        | (go_simp; go_at_call 52; refine (slot_calls be fr y _ (by assumption)).mono ?_; rintro e w1 ⟨rfl, rfl⟩))
    all_goals (go_wp2_with fail)
    all_goals go_ret
    all_goals
      obtain ⟨q1, q2⟩ := HR1.out
      obtain ⟨q3, q4⟩ := EM.put HE.out hgrow q2
      have e : ¬ rd ws x ≥ 0 := by rw [← HY.out]; omega
      refine ⟨.slice A1 n1 k1, ?_, ?_, q4⟩
      · unfold regOf
        rw [if_neg e]
        rfl
      · unfold regC readC
        rw [if_neg e, ← HY.out]
        exact q3
end Go.Proofs.YtepgpapljoelhaaDoor.PE
