/- What live.Of and cert.apart answer, in the form in which printed functions ask for it. -/
import Derived.Test.YtepgpapljoelhaaPAx2
import Derived.Test.YtepgpapljoelhaaCap
namespace Go.Proofs.Ytepgpapljoelhaa.PA
set_option linter.unusedVariables false
set_option linter.unusedSimpArgs false
open Go.RowKit Go.Proofs.YtepgpapljoelhaaW.PrintWords Go.Proofs.YtepgpapljoelhaaW.PrintLast Go.Proofs.YtepgpapljoelhaaW.PrintMore

theorem iterP_stay (l : List S37) (j : Nat) (h : passD l l.length (iterP l j) = iterP l j) : ∀ d, iterP l (j + d) = iterP l j
  | 0 => rfl
  | d + 1 => by
    show passD l l.length (iterP l (j + d)) = _
    rw [iterP_stay l j h d]
    exact h
theorem fix_one {l : List S37} {i j : Nat} (hi : passD l l.length (iterP l i) = iterP l i) (hj : passD l l.length (iterP l j) = iterP l j) : iterP l i = iterP l j := by
  rcases Nat.le_total i j with h | h
  · obtain ⟨d, rfl⟩ := Nat.exists_eq_add_of_le h
    exact (iterP_stay l i hi d).symm
  · obtain ⟨d, rfl⟩ := Nat.exists_eq_add_of_le h
    exact iterP_stay l j hj d
theorem rises_one {xs ys : List Int} (hx : xs.Pairwise (· < ·)) (hy : ys.Pairwise (· < ·)) (h : ∀ v, v ∈ xs ↔ v ∈ ys) : xs = ys := by
  have nx : xs.Nodup := hx.imp (fun {a b} q => by omega)
  have ny : ys.Nodup := hy.imp (fun {a b} q => by omega)
  exact List.Perm.eq_of_pairwise (le := fun a b : Int => a < b) (fun a b _ _ h1 h2 => by omega) hx hy ((List.perm_ext_iff_of_nodup nx ny).2 h)
theorem IsRows.one {l : List S37} {xs ys : List (List Int)} (hx : IsRows l xs) (hy : IsRows l ys) : xs = ys := by
  obtain ⟨lx, p, i, rfl, fx, rx⟩ := hx
  obtain ⟨ly, q, j, rfl, fy, ry⟩ := hy
  have e := fix_one fx fy
  refine List.ext_getElem (by omega) fun k h1 h2 => rises_one (rx k h1).1 (ry k h2).1 fun v => ((rx k h1).2 v).trans (by rw [e]; exact ((ry k h2).2 v).symm)

/-- What live.Of asks of codes. -/
def OfFit (l : List S37) : Prop := l.length ≤ 1000 ∧ ∀ c ∈ l, ∀ u ∈ us c, (Lit.int .i64 u).wf = true
open Classical in
noncomputable def live_Of.f (k : Nat) (l : List S37) : Option (List (List Int)) := if h : OfFit l ∧ ∃ rows, IsRows l rows then some h.2.choose else none
theorem live_Of.of {k : Nat} {l : List S37} {r : List (List Int)} (h : live_Of.f k l = some r) : OfFit l ∧ IsRows l r := by
  unfold live_Of.f at h
  by_cases c : OfFit l ∧ ∃ rows, IsRows l rows
  · rw [dif_pos c] at h
    injection h with h
    exact ⟨c.1, h ▸ c.2.choose_spec⟩
  · rw [dif_neg c] at h
    cases h
theorem live_Of.eq (k : Nat) {l : List S37} {r : List (List Int)} (hf : OfFit l) (hr : IsRows l r) : live_Of.f k l = some r := by
  unfold live_Of.f
  have c : OfFit l ∧ ∃ rows, IsRows l rows := ⟨hf, r, hr⟩
  rw [dif_pos c]
  exact congrArg some (c.2.choose_spec.one hr)
theorem live_Of.mono : ∀ a0 k, LeO (live_Of.f k a0) (live_Of.f (k + 1) a0) := fun a0 k r h => h
theorem live_Of.calls (k : Nat) (A0 : Option Addr) (c0 : Nat) (l0 : List S37) (r : List (List Int)) (w : World) (hr0 : Kd.C k37 w A0 l0.length l0) (hc0 : l0.length ≤ c0) (h : live_Of.f k l0 = some r) :
    Calls Try.prog 15 #[.slice A0 l0.length c0] w fun e w' => ∃ v0_ : Value, e = .returned v0_ ∧ Kd.S (Kd.slice 3 (Kd.int .i64)) 28 w' w.heap.size (fun _ => True) v0_ r ∧ Below w.heap.size w w' := by
  obtain ⟨hf, hr⟩ := live_Of.of h
  refine (ofs_calls A0 c0 l0 w hr0 hc0 hf.1 hf.2).mono ?_
  rintro e w' ⟨v, rows, rfl, hR, hS, hb⟩
  obtain rfl := hR.one hr
  exact ⟨v, rfl, hS, hb⟩
open Classical in
noncomputable def cert_apart.f (l0 l1 : List Int) : Option Bool := if ApFit l0 l1 then some (decide (plc l1 l0 l0.length).Nodup) else none
theorem cert_apart.eq {l0 l1 : List Int} (h : ApFit l0 l1) : cert_apart.f l0 l1 = some (decide (plc l1 l0 l0.length).Nodup) := if_pos h
theorem cert_apart.calls (A0 : Option Addr) (c0 : Nat) (l0 : List Int) (A1 : Option Addr) (c1 : Nat) (l1 : List Int) (r : Bool) (w : World) (hr0 : Kd.C (Kd.int .i64) w A0 l0.length l0) (hc0 : l0.length ≤ c0) (hr1 : Kd.C (Kd.int .i64) w A1 l1.length l1) (hc1 : l1.length ≤ c1) (h : cert_apart.f l0 l1 = some r) :
    Calls Try.prog 16 #[.slice A0 l0.length c0, .slice A1 l1.length c1] w fun e w' => e = .returned (.bool r) ∧ Below w.heap.size w w' := by
  unfold cert_apart.f at h
  by_cases c : ApFit l0 l1
  · rw [if_pos c] at h
    injection h with h
    rw [← h]
    exact apart_calls A0 c0 l0 A1 c1 l1 w hr0 hc0 hr1 hc1 c
  · rw [if_neg c] at h
    cases h
end Go.Proofs.Ytepgpapljoelhaa.PA
