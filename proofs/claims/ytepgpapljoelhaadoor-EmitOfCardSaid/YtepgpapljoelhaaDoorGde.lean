/- code.Good's answer, at codes that are good, and at codes that end with what does not end. -/
import Derived.Test.YtepgpapljoelhaaDoorCod
import Derived.Test.YtepgpapljoelhaaDoorPEx4
namespace Go.Proofs.YtepgpapljoelhaaDoor.PE
open Go.RowKit Go.Proofs.YtepgpapljoelhaaDoorW.PrintWords
set_option linter.unusedVariables false
set_option linter.unusedSimpArgs false

theorem tight_some (a : Int) (h0 : 0 ≤ a) (h1 : a < 10) : ∃ t, word_Tight.f a = some t ∧ t ≠ 0 := by
  rcases (show a = 0 ∨ a = 1 ∨ a = 2 ∨ a = 3 ∨ a = 4 ∨ a = 5 ∨ a = 6 ∨ a = 7 ∨ a = 8 ∨ a = 9 by omega) with h | h | h | h | h | h | h | h | h | h <;> subst h <;> exact ⟨_, rfl, by decide⟩
theorem good_l1 (x0 x33 : List S37) (x34 x35 : Int) (U : List Int) (hU : ∀ u ∈ U, 0 ≤ u ∧ u ≤ 65535) (hl : U.length ≤ 1000) (r : Bool) (hK : Evt (fun k => code_Good.l0 k x0 x33 x34 (wrap64 (x35 + 1))) r) :
    ∀ (d j : Nat), j + d = U.length → Evt (fun k => code_Good.l1 k x0 x33 x34 x35 U (U.length : Int) (j : Int)) r
  | 0, j, hj => by
    refine Evt.succ (fun k => ?_) hK
    rw [code_Good.l1, if_neg (by omega)]
  | d + 1, j, hj => by
    have hlt : j < U.length := by omega
    have hw : wrap64 ((j : Int) + 1) = ((j + 1 : Nat) : Int) := by rw [w64 (by omega) (by omega)]; omega
    have hm := hU (rd U (j : Int)) (by rw [rd_at U j hlt]; exact List.getElem_mem _)
    refine Evt.succ (fun k => ?_) (good_l1 x0 x33 x34 x35 U hU hl r hK d (j + 1) (by omega))
    rw [code_Good.l1, if_pos (by omega), if_pos (by omega), if_pos (by omega), if_neg (by omega), if_neg (by omega), hw]
/-- A code is good among n. -/
structure GC (n : Nat) (c : S37) : Prop where
  op : 0 ≤ c.f0 ∧ c.f0 ≤ 13
  do_ : c.f0 = 2 → 0 ≤ c.f1 ∧ c.f1 < 10
  jmp : jm c = true → 0 ≤ c.f7 ∧ c.f7 < (n : Int)
  def_ : 0 ≤ dv c ∧ dv c ≤ 65535
  use_ : ∀ u ∈ us c, 0 ≤ u ∧ u ≤ 65535
theorem good_j3 (x0 x33 : List S37) (x34 x35 : Int) (c : S37) (h : GC x0.length c) (r : Bool) (hK : Evt (fun k => code_Good.l0 k x0 x33 x34 (wrap64 (x35 + 1))) r) : Evt (fun k => code_Good.j3 k x0 x33 x34 x35 false c.f0 c.f1 c.f2 c.f3 c.f4 c.f5 c.f6 c.f7) r := by
  have h1 := good_l1 x0 x33 x34 x35 (us c) h.use_ (by have := us_len c; omega) r hK (us c).length 0 (by omega)
  have h5 : Evt (fun k => code_Good.j5 k x0 x33 x34 x35 false c.f0 c.f1 c.f2 c.f3 c.f4 c.f5 c.f6 c.f7) r :=
    Evt.succ (g := fun k => (code_Uses.f k c.f0 c.f1 c.f2 c.f3 c.f4 c.f5 c.f6 c.f7).bind fun t142 => code_Good.l1 k x0 x33 x34 x35 t142 (t142.length : Int) 0) (fun k => by rw [code_Good.j5, if_neg (by decide)]) (Evt.bind (f := fun t k => code_Good.l1 k x0 x33 x34 x35 t (t.length : Int) 0) (Uses_eq c) h1)
  have h4 : Evt (fun k => code_Good.j4 k x0 x33 x34 x35 false c.f0 c.f1 c.f2 c.f3 c.f4 c.f5 c.f6 c.f7) r := by
    refine Evt.succ (fun k => ?_) h5
    have := h.def_
    rw [code_Good.j4, if_neg (by decide), Defines_eq, Option.bind_some]
    simp only
    rw [if_neg (by omega), decide_eq_false (by omega)]
  refine Evt.succ (fun k => ?_) h4
  rw [code_Good.j3, if_neg (by decide), Jumps_eq, Option.bind_some]
  simp only
  by_cases hj : jm c = true
  · have := h.jmp hj
    rw [if_pos hj, if_neg (by omega), decide_eq_false (by omega)]
  · rw [if_neg hj]
theorem good_l0 (l : List S37) (hl : l.length ≤ 1000) (h : ∀ c ∈ l, GC l.length c) : ∀ (d j : Nat), j + d = l.length → Evt (fun k => code_Good.l0 k l l (l.length : Int) (j : Int)) true
  | 0, j, hj => by
    refine Evt.succ (g := fun _ => some true) (fun k => ?_) (Evt.const fun _ => rfl)
    rw [code_Good.l0, if_neg (by omega)]
  | d + 1, j, hj => by
    have hlt : j < l.length := by omega
    have hw : wrap64 ((j : Int) + 1) = ((j + 1 : Nat) : Int) := by rw [w64 (by omega) (by omega)]; omega
    have hg := h (rd_T37 l (j : Int)) (by rw [rdT_at l j hlt]; exact List.getElem_mem _)
    have ih := good_l0 l hl h d (j + 1) (by omega)
    rw [← hw] at ih
    have h3 := good_j3 l l (l.length : Int) (j : Int) _ hg true ih
    have hop := hg.op
    by_cases c2 : (rd_T37 l (j : Int)).f0 = 2
    · obtain ⟨t, ht, hne⟩ := tight_some _ (hg.do_ c2).1 (hg.do_ c2).2
      refine Evt.succ (fun k => ?_) h3
      rw [code_Good.l0, if_pos (by omega), if_pos (by omega), if_pos (by omega), if_neg (by omega), if_neg (by omega), if_pos c2, ht, Option.bind_some]
      have e : (t == 0) = false := by simpa using hne
      rw [e]
    · refine Evt.succ (fun k => ?_) h3
      rw [code_Good.l0, if_pos (by omega), if_pos (by omega), if_pos (by omega), if_neg (by omega), if_neg (by omega), if_neg c2]
theorem good_yes (l : List S37) (h0 : 1 ≤ l.length) (hl : l.length ≤ 1000) (h : ∀ c ∈ l, GC l.length c) (hlast : (rd_T37 l ((l.length : Int) - 1)).f0 = 13) : Evt (fun k => code_Good.f k l) true := by
  have h1 : Evt (fun k => code_Good.l0 k l l (l.length : Int) 0) true := good_l0 l hl h l.length 0 (by omega)
  have hw : wrap64 ((l.length : Int) - 1) = (l.length : Int) - 1 := w64 (by omega) (by omega)
  have j1 : Evt (fun k => code_Good.j1 k l false) true := Evt.succ (fun k => by rw [code_Good.j1, if_neg (by decide)]) h1
  have j0 : Evt (fun k => code_Good.j0 k l false) true := Evt.succ (fun k => by rw [code_Good.j0, if_neg (by decide), hw, if_pos (by omega), if_pos (by omega), if_pos hlast]) j1
  refine Evt.congr (fun k => ?_) j0
  unfold code_Good.f
  rw [if_neg (by omega), decide_eq_false (by omega)]
theorem good_no (l : List S37) (h0 : 1 ≤ l.length) (hl : l.length ≤ 1000) (hlast : (rd_T37 l ((l.length : Int) - 1)).f0 = 12) : Evt (fun k => code_Good.f k l) false := by
  have hw : wrap64 ((l.length : Int) - 1) = (l.length : Int) - 1 := w64 (by omega) (by omega)
  have j1 : Evt (fun k => code_Good.j1 k l true) false := Evt.succ (g := fun _ => some false) (fun k => by rw [code_Good.j1, if_pos rfl]) (Evt.const fun _ => rfl)
  have j0 : Evt (fun k => code_Good.j0 k l false) false := Evt.succ (fun k => by rw [code_Good.j0, if_neg (by decide), hw, if_pos (by omega), if_pos (by omega), if_neg (by omega), hlast]; rfl) j1
  refine Evt.congr (fun k => ?_) j0
  unfold code_Good.f
  rw [if_neg (by omega), decide_eq_false (by omega)]
end Go.Proofs.YtepgpapljoelhaaDoor.PE
