/- A region that draws its order: what a load reads is known as long as an operation that waits for it has not come up. -/
import Derived.OrdersHeld
import Derived.StillTail
import Derived.WalkKit
import Derived.Lib.Hide
namespace Go.Proofs.YtcdgjgoplogiiaaDoor.PT
open Go Go.RowKit
set_option linter.unusedVariables false
set_option linter.unusedSimpArgs false

section
variable {P : Program} {ops : Array Oper} {Q : Exit → Act → World → Prop} {md : Region.Mode} {fs : List (Nat × (World → Prop))}

/-- Each fact holds as long as its operation has not come up. -/
def SL (fs : List (Nat × (World → Prop))) (listed : Array Bool) (w : World) : Prop := ∀ p ∈ fs, listed.getD p.1 true = false → p.2 w
theorem SL.nil {listed : Array Bool} {w : World} : SL [] listed w := fun p hp => nomatch hp
theorem SL.cons {k : Nat} {F : World → Prop} {listed : Array Bool} {w : World} (h : F w) (hr : SL fs listed w) : SL ((k, F) :: fs) listed w := fun p hp hl => by
  rcases List.mem_cons.1 hp with e | hp
  · subst e; exact h
  · exact hr p hp hl
theorem SL.past {k : Nat} {F : World → Prop} {listed : Array Bool} {w : World} (hk : listed.getD k true = true) (hr : SL fs listed w) : SL ((k, F) :: fs) listed w := fun p hp hl => by
  rcases List.mem_cons.1 hp with e | hp
  · subst e; rw [hk] at hl; cases hl
  · exact hr p hp hl
theorem SL.at' {k : Nat} {F : World → Prop} {listed : Array Bool} {w : World} (h : SL fs listed w) (hm : (k, F) ∈ fs) (hk : listed.getD k true = false) : F w := h _ hm hk
theorem SL.set_iff {i : Nat} {listed : Array Bool} {w : World} (h : ∀ p ∈ fs, p.1 ≠ i) : SL fs (listed.setIfInBounds i true) w ↔ SL fs listed w := by
  constructor
  · intro H p hp hl
    exact H p hp (by rw [getD_set_ne true (Ne.symm (h p hp))]; exact hl)
  · intro H p hp hl
    exact H p hp (by rw [getD_set_ne true (Ne.symm (h p hp))] at hl; exact hl)

/-- Whatever order is picked, and behind each operation what still counts of the facts. -/
def wpAnyS (P : Program) (md : Region.Mode) (ops : Array Oper) (Q : Exit → Act → World → Prop) (fs : List (Nat × (World → Prop))) : Nat → Array Bool → Act → World → Prop
  | 0, listed, a, w => Region.ready md ops listed = [] ∧ Q .normal a w
  | fuel + 1, listed, a, w =>
    (Region.ready md ops listed = [] → Q .normal a w) ∧
    ∀ i ∈ Region.ready md ops listed, wpOp P ops Q i (fun a' w' => SL fs (listed.setIfInBounds i true) w' ∧ wpAnyS P md ops Q fs fuel (listed.setIfInBounds i true) a' w') a w
theorem wpAny_of_S : ∀ (fuel : Nat) (listed : Array Bool) (a : Act) (w : World), wpAnyS P md ops Q fs fuel listed a w → wpAny P md ops Q fuel listed a w
  | 0, _, _, _, h => h
  | fuel + 1, _, _, _, h => ⟨h.1, fun i hi => wpOp_mono (fun a' w' h' => wpAny_of_S fuel _ a' w' h'.2) (h.2 i hi)⟩

theorem wpAnyS_first {i : Nat} {oi : Oper} {v : Value} {F : World → Prop} {G : Array Bool → Prop} (hi : ops[i]? = some oi) (hsel : ∀ (j : Nat) (o : Oper) cs b, ops[j]? = some o → o.op ≠ .select cs b)
    (hQ : ∀ c a w, Q (.panic c) (a.put oi.dst v) w → Q (.panic c) a w) (hne : ∀ p ∈ fs, p.1 ≠ i)
    (hF : ∀ listed w, G listed → SL fs listed w → F w) (hG : ∀ listed j, listed.getD i true = false → j ∈ Region.ready md ops listed → j ≠ i → G listed → G (listed.setIfInBounds j true)) :
    ∀ (fuel : Nat) (listed : Array Bool) (a : Act) (w : World),
      (∀ j oj, ops[j]? = some oj → j ≠ i → listed.getD j true = false → (∀ e ∈ oj.after, Region.binds md e = true → e.on ≠ i) → oi.apart ops oj = true) →
      i ∈ Region.ready md ops listed → G listed → YieldsIf P ops F oi v a → SL fs listed w →
      wpAnyS P md ops Q fs fuel (listed.setIfInBounds i true) (a.put oi.dst v) w → wpAnyS P md ops Q fs (fuel + 1) listed a w := by
  intro fuel
  induction fuel with
  | zero =>
    intro listed a w _ hr hg hy hS H
    refine ⟨fun h => (by rw [h] at hr; cases hr), fun j hj => ?_⟩
    by_cases hji : j = i
    · subst hji; exact hy.wpOp hi (hF _ _ hg hS) ⟨(SL.set_iff hne).2 hS, H⟩
    · have := ready_mono hj hji
      rw [H.1] at this
      cases this
  | succ fuel ih =>
    intro listed a w hfree hr hg hy hS H
    refine ⟨fun h => (by rw [h] at hr; cases hr), fun j hj => ?_⟩
    by_cases hji : j = i
    · subst hji; exact hy.wpOp hi (hF _ _ hg hS) ⟨(SL.set_iff hne).2 hS, H⟩
    · have h1 := H.2 j (ready_mono hj hji)
      obtain ⟨hjun, oj, hoj, hall⟩ := mem_ready.1 hj
      have hnot : ∀ e ∈ oj.after, Region.binds md e = true → e.on ≠ i := fun e he hb heq => by
        have h1 := hall e he hb
        have h0 := (mem_ready.1 hr).1
        rw [heq] at h1
        rcases Nat.lt_or_ge i listed.size with h' | h'
        · simp [h'] at h0 h1; rw [h0] at h1; cases h1
        · simp [Array.getElem?_eq_none h'] at h1
      have h2 := wpOp_putIf hoj (hfree j oj hoj hji hjun hnot) (fun cs b => hsel i oi cs b hi) (fun cs b => hsel j oj cs b hoj) hQ hy h1
      have hfree' : ∀ k ok, ops[k]? = some ok → k ≠ i → (listed.setIfInBounds j true).getD k true = false →
          (∀ e ∈ ok.after, Region.binds md e = true → e.on ≠ i) → oi.apart ops ok = true := fun k ok hk hki hun hno => by
        refine hfree k ok hk hki ?_ hno
        by_cases hjk : j = k
        · subst hjk; exact hjun
        · rw [getD_set_ne true hjk] at hun; exact hun
      have hg' := hG listed j (mem_ready.1 hr).1 hj hji hg
      refine wpOp_mono (fun a' w' h3 => ?_) h2
      have hS' : SL fs (listed.setIfInBounds j true) w' := by
        have := h3.2.1
        rw [Array.setIfInBounds_comm _ _ (Ne.symm hji)] at this
        exact (SL.set_iff hne).1 this
      refine ⟨hS', ih (listed.setIfInBounds j true) a' w' hfree' (ready_mono hr (Ne.symm hji)) hg' h3.1 hS' ?_⟩
      rw [Array.setIfInBounds_comm _ _ hji]
      exact h3.2.2

/-- What reads nothing is taken first. -/
theorem wpAnyS_free (i : Nat) {oi : Oper} {v : Value} {fuel : Nat} {listed : Array Bool} {a : Act} {w : World} (hi : ops[i]? = some oi)
    (hs : Region.noSelect ops = true) (hf : Region.free md ops listed i = true) (hr : (Region.ready md ops listed).contains i = true) (hne : ∀ p ∈ fs, p.1 ≠ i)
    (hQ : ∀ c a w, Q (.panic c) (a.put oi.dst v) w → Q (.panic c) a w) (hy : Yields P ops oi v a) (hS : SL fs listed w)
    (h : SL fs (listed.setIfInBounds i true) w → wpAnyS P md ops Q fs fuel (listed.setIfInBounds i true) (a.put oi.dst v) w) : wpAnyS P md ops Q fs (fuel + 1) listed a w :=
  wpAnyS_first (F := fun _ => True) (G := fun _ => True) hi (Region.noSelect_spec hs) hQ hne (fun _ _ _ _ => trivial) (fun _ _ _ _ _ _ => trivial) fuel listed a w (Region.free_spec hi hf) (by simpa using hr) trivial hy.yieldsIf hS (h ((SL.set_iff hne).2 hS))

/-- What reads is taken first, if operation k waits for it, ahead of which the fact holds. -/
theorem wpAnyS_load (i k : Nat) {F : World → Prop} {oi : Oper} {v : Value} {fuel : Nat} {listed : Array Bool} {a : Act} {w : World} (hm : (k, F) ∈ fs) (hi : ops[i]? = some oi)
    (hs : Region.noSelect ops = true) (hf : Region.free md ops listed i = true) (hr : (Region.ready md ops listed).contains i = true) (hw : Region.waitsFor md ops k i = true) (hk : listed.getD k true = false) (hne : ∀ p ∈ fs, p.1 ≠ i)
    (hQ : ∀ c a w, Q (.panic c) (a.put oi.dst v) w → Q (.panic c) a w) (hy : YieldsIf P ops F oi v a) (hS : SL fs listed w)
    (h : SL fs (listed.setIfInBounds i true) w → wpAnyS P md ops Q fs fuel (listed.setIfInBounds i true) (a.put oi.dst v) w) : wpAnyS P md ops Q fs (fuel + 1) listed a w :=
  wpAnyS_first (F := F) (G := fun l => l.getD k true = false) hi (Region.noSelect_spec hs) hQ hne (fun _ _ hg hS => hS _ hm hg) (fun l j hun hj hji hg => by
    have hjk : j ≠ k := by
      rintro rfl
      obtain ⟨_, oj, hoj, hall⟩ := mem_ready.1 hj
      obtain ⟨o', ho', e, he, hb, hon⟩ := Region.waitsFor_spec hw
      have : o' = oj := Option.some.inj (ho'.symm.trans hoj)
      subst this
      have h2 := hall e he hb
      rw [hon, getD_both hun] at h2
      cases h2
    show (l.setIfInBounds j true).getD k true = false
    rw [getD_set_ne true hjk]; exact hg) fuel listed a w (Region.free_spec hi hf) (by simpa using hr) hk hy hS (h ((SL.set_iff hne).2 hS))

/-- One alone may come up. -/
theorem wpAnyS_one (i : Nat) {o : Oper} {fuel : Nat} {listed : Array Bool} {a : Act} {w : World} (ho : ops[i]? = some o) (hr : Region.ready md ops listed = [i]) (hw : Region.wanted o (yielded ops a.tmps) = true)
    (h : ∀ K : Act → World → Prop, Hid (∀ a' w', SL fs (listed.setIfInBounds i true) w' → (SL fs (listed.setIfInBounds i true) w' → wpAnyS P md ops Q fs fuel (listed.setIfInBounds i true) a' w') → K a' w') → Oper.wp P o a w K Q) : wpAnyS P md ops Q fs (fuel + 1) listed a w := by
  refine ⟨fun h0 => (by rw [hr] at h0; cases h0), fun j hj => ?_⟩
  rw [hr] at hj
  have : j = i := by simpa using hj
  subst this
  unfold wpOp
  rw [ho]
  simp only [hw, if_true]
  exact .inl (h _ (Lib.hid fun a' w' hS hh => ⟨hS, hh hS⟩))
/-- Either of two may come up. -/
theorem wpAnyS_two (i j : Nat) {o u : Oper} {fuel : Nat} {listed : Array Bool} {a : Act} {w : World} (ho : ops[i]? = some o) (hu : ops[j]? = some u) (hr : Region.ready md ops listed = [i, j])
    (hwo : Region.wanted o (yielded ops a.tmps) = true) (hwu : Region.wanted u (yielded ops a.tmps) = true)
    (h : ∀ K : Act → World → Prop, Hid (∀ a' w', SL fs (listed.setIfInBounds i true) w' → (SL fs (listed.setIfInBounds i true) w' → wpAnyS P md ops Q fs fuel (listed.setIfInBounds i true) a' w') → K a' w') → Oper.wp P o a w K Q)
    (h' : ∀ K : Act → World → Prop, Hid (∀ a' w', SL fs (listed.setIfInBounds j true) w' → (SL fs (listed.setIfInBounds j true) w' → wpAnyS P md ops Q fs fuel (listed.setIfInBounds j true) a' w') → K a' w') → Oper.wp P u a w K Q) : wpAnyS P md ops Q fs (fuel + 1) listed a w := by
  refine ⟨fun h0 => (by rw [hr] at h0; cases h0), fun x hx => ?_⟩
  rw [hr] at hx
  have : x = i ∨ x = j := by simpa using hx
  rcases this with e | e
  · subst e
    unfold wpOp
    rw [ho]
    simp only [hwo, if_true]
    exact .inl (h _ (Lib.hid fun a' w' hS hh => ⟨hS, hh hS⟩))
  · subst e
    unfold wpOp
    rw [hu]
    simp only [hwu, if_true]
    exact .inl (h' _ (Lib.hid fun a' w' hS hh => ⟨hS, hh hS⟩))
/-- All have come up. -/
theorem wpAnyS_done {listed : Array Bool} {a : Act} {w : World} (hr : Region.ready md ops listed = []) (h : Q .normal a w) : ∀ fuel, wpAnyS P md ops Q fs fuel listed a w
  | 0 => ⟨hr, h⟩
  | _ + 1 => ⟨fun _ => h, by rw [hr]; simp⟩
/-- The beginning. -/
theorem wp_region_S (fs : List (Nat × (World → Prop))) {id : Nat} {a : Act} {w : World} (hm : P.follows .mixedOrders = true) (h0 : SL fs (Array.replicate ops.size false) w.drew)
    (h : SL fs (Array.replicate ops.size false) w.drew → wpAnyS P .any ops Q fs ops.size (Array.replicate ops.size false) a w.drew) : (Code.region id ops true).wp P Q a w :=
  wp_region_any hm (wpAny_of_S _ _ _ _ (h h0))
end
end Go.Proofs.YtcdgjgoplogiiaaDoor.PT
