/- emit.Of's answer, in the form in which printed functions ask for it. -/
import Derived.Test.YtepgpapljoelhaaDoorEmo
namespace Go.Proofs.YtepgpapljoelhaaDoor.PE
open Go.RowKit Go.Proofs.YtepgpapljoelhaaDoorW.PrintWords Go.Proofs.YtepgpapljoelhaaDoorW.PrintLast Go.Proofs.YtepgpapljoelhaaDoorW.PrintMore
set_option linter.unusedVariables false
set_option linter.unusedSimpArgs false

def inN (n : Nat) (u : Int) : Bool := decide (0 ≤ u) && decide (u < (n : Int))
/-- Values and targets are in range. -/
def efit (l : List S37) (n : Nat) : Bool := decide (l.length ≤ 10000) && l.all (fun c => (us c).all (inN n) && ((!db c || inN n (dv c)) && (!jm c || inN l.length c.f7)))
theorem efit_spec {l : List S37} {n : Nat} (h : efit l n = true) : l.length ≤ 10000 ∧ (∀ c ∈ l, ∀ u ∈ us c, 0 ≤ u ∧ u < (n : Int)) ∧ (∀ c ∈ l, db c = true → 0 ≤ dv c ∧ dv c < (n : Int)) ∧ (∀ c ∈ l, jm c = true → 0 ≤ c.f7 ∧ c.f7 < (l.length : Int)) := by
  unfold efit at h
  rw [Bool.and_eq_true, decide_eq_true_eq, List.all_eq_true] at h
  have hin : ∀ (m : Nat) (u : Int), inN m u = true → 0 ≤ u ∧ u < (m : Int) := fun m u hu => by
    unfold inN at hu
    rw [Bool.and_eq_true, decide_eq_true_eq, decide_eq_true_eq] at hu
    exact hu
  refine ⟨h.1, fun c hc u hu => ?_, fun c hc hd => ?_, fun c hc hj => ?_⟩
  · have := h.2 c hc
    rw [Bool.and_eq_true, List.all_eq_true] at this
    exact hin _ _ (this.1 u hu)
  · have := h.2 c hc
    rw [Bool.and_eq_true, Bool.and_eq_true, hd] at this
    exact hin _ _ (by simpa using this.2.1)
  · have := h.2 c hc
    rw [Bool.and_eq_true, Bool.and_eq_true, hj] at this
    exact hin _ _ (by simpa using this.2.2)
theorem efit_mk {l : List S37} {n : Nat} (h0 : l.length ≤ 10000) (h1 : ∀ c ∈ l, ∀ u ∈ us c, 0 ≤ u ∧ u < (n : Int)) (h2 : ∀ c ∈ l, db c = true → 0 ≤ dv c ∧ dv c < (n : Int)) (h3 : ∀ c ∈ l, jm c = true → 0 ≤ c.f7 ∧ c.f7 < (l.length : Int)) : efit l n = true := by
  have hin : ∀ (m : Nat) (u : Int), 0 ≤ u ∧ u < (m : Int) → inN m u = true := fun m u hu => by
    unfold inN
    rw [Bool.and_eq_true, decide_eq_true_eq, decide_eq_true_eq]
    exact hu
  unfold efit
  rw [Bool.and_eq_true, decide_eq_true_eq, List.all_eq_true]
  refine ⟨h0, fun c hc => ?_⟩
  rw [Bool.and_eq_true, Bool.and_eq_true, List.all_eq_true]
  refine ⟨fun u hu => hin _ _ (h1 c hc u hu), ?_, ?_⟩
  · cases hd : db c with
    | false => rfl
    | true => exact hin _ _ (h2 c hc hd)
  · cases hj : jm c with
    | false => rfl
    | true => exact hin _ _ (h3 c hc hj)
def emit_Of.f (k : Nat) (l : List S37) (ws : List Int) (sl fr : Int) : Option (List S37 × Bool) :=
  (code_Good.f k l).bind fun g => if g = true then (code_Values.f k l).bind fun n => if (ws.length : Int) = n then (if efit l ws.length = true then some (emitL fr ws l, true) else none) else some ([], false) else some ([], false)
theorem emit_Of.mono : ∀ a0 a1 a2 a3 k, LeO (emit_Of.f k a0 a1 a2 a3) (emit_Of.f (k + 1) a0 a1 a2 a3) := by
  intro l ws sl fr k r h
  unfold emit_Of.f at h ⊢
  obtain ⟨g, hg, h⟩ := Option.bind_eq_some_iff.1 h
  rw [code_Good.mono _ _ _ hg, Option.bind_some]
  by_cases c : g = true
  · rw [if_pos c] at h ⊢
    obtain ⟨n, hn, h⟩ := Option.bind_eq_some_iff.1 h
    rw [code_Values.mono _ _ _ hn, Option.bind_some]
    exact h
  · rw [if_neg c] at h ⊢
    exact h
theorem emit_Of.calls (k : Nat) (A0 : Option Addr) (c0 : Nat) (l0 : List S37) (A1 : Option Addr) (c1 : Nat) (ws : List Int) (sl fr : Int) (r1 : List S37) (r2 : Bool) (w : World) (hr0 : Kd.C k37 w A0 l0.length l0) (hc0 : l0.length ≤ c0) (hr1 : Kd.C (Kd.int .i64) w A1 ws.length ws) (hc1 : ws.length ≤ c1) (h : emit_Of.f k l0 ws sl fr = some (r1, r2)) :
    Calls Tryd.prog 11 #[.slice A0 l0.length c0, .agg #[.slice A1 ws.length c1, .int .i64 sl], .int .u64 fr] w fun e w' => ∃ v0_ : Value, e = .returned (.tuple #[v0_, .bool r2]) ∧ Kd.R k37 37 w' w.heap.size (fun _ => True) v0_ r1 ∧ Below w.heap.size w w' := by
  unfold emit_Of.f at h
  obtain ⟨g, hg, h⟩ := Option.bind_eq_some_iff.1 h
  by_cases c : g = true
  · rw [if_pos c] at h
    subst c
    obtain ⟨n, hn, h⟩ := Option.bind_eq_some_iff.1 h
    by_cases c2 : (ws.length : Int) = n
    · rw [if_pos c2] at h
      subst c2
      by_cases c3 : efit l0 ws.length = true
      · rw [if_pos c3] at h
        simp only [Option.some.injEq, Prod.mk.injEq] at h
        obtain ⟨rfl, rfl⟩ := h
        obtain ⟨e0, e1, e2, e3⟩ := efit_spec c3
        exact (emit_calls A0 c0 l0 A1 ws.length c1 ws sl fr k k w hr0 hc0 hr1 hg hn e0 e1 e2 e3).mono fun e w' h => h
      · rw [if_neg c3] at h
        cases h
    · rw [if_neg c2] at h
      simp only [Option.some.injEq, Prod.mk.injEq] at h
      obtain ⟨rfl, rfl⟩ := h
      exact (emitNo_len A0 c0 l0 A1 ws.length c1 sl fr k k n w hr0 hc0 hg hn c2).mono fun e w' h => ⟨_, h.1, Kd.R_nil _ _ _ _ _, h.2⟩
  · rw [if_neg c] at h
    have c' : g = false := by simpa using c
    subst c'
    simp only [Option.some.injEq, Prod.mk.injEq] at h
    obtain ⟨rfl, rfl⟩ := h
    exact (emitNo_good A0 c0 l0 A1 ws.length c1 sl fr k w hr0 hc0 hg).mono fun e w' h => ⟨_, h.1, Kd.R_nil _ _ _ _ _, h.2⟩
end Go.Proofs.YtepgpapljoelhaaDoor.PE
