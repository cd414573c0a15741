/- PlaceLabels: what the printed functions answer. -/
import Derived.Test.YthboknkpgbfmoaaLawLabels
namespace Go.Proofs.Ythboknkpgbfmoaa.PQ
open Go.RowKit Go.Proofs.YthboknkpgbfmoaaW.PrintWords Go.Proofs.YthboknkpgbfmoaaW.PrintLast Go.Proofs.YthboknkpgbfmoaaW.PrintMore
set_option linter.unusedVariables false

/-- The label of a declaration's cells. -/
def labOf (d : S28) : Int := if d.f0 = true then 0 else d.f1
def labels (ds : List S28) : List Int := ds.flatMap (fun d => List.replicate (szOf d).toNat (labOf d))
def wantOf (ds : List S28) : Int := ds.foldl (fun n d => n + (if d.f1 = 1 then (if d.f0 = true then 0 else szOf d) else 0)) 0
theorem labels_cons (d : S28) (ds : List S28) : labels (d :: ds) = List.replicate (szOf d).toNat (labOf d) ++ labels ds := by simp [labels]
theorem labels_len (ds : List S28) : (labels ds).length ≤ 64 * ds.length := by
  induction ds with
  | nil => simp [labels]
  | cons d ds ih =>
    have := szOf_bd d
    rw [labels_cons, List.length_append, List.length_replicate, List.length_cons]
    omega
theorem want_add (ds : List S28) (n : Int) : ds.foldl (fun n d => n + (if d.f1 = 1 then (if d.f0 = true then 0 else szOf d) else 0)) n = n + wantOf ds := by
  induction ds generalizing n with
  | nil => simp [wantOf]
  | cons d ds ih =>
    unfold wantOf
    rw [List.foldl_cons, List.foldl_cons, ih, ih (0 + _)]
    omega
theorem want_cons (d : S28) (ds : List S28) : wantOf (d :: ds) = (if d.f1 = 1 then (if d.f0 = true then 0 else szOf d) else 0) + wantOf ds := by
  have := want_add ds (0 + (if d.f1 = 1 then (if d.f0 = true then 0 else szOf d) else 0))
  unfold wantOf at *
  rw [List.foldl_cons, this]
  omega
theorem want_bd (ds : List S28) : 0 ≤ wantOf ds ∧ wantOf ds ≤ 64 * ds.length := by
  induction ds with
  | nil => simp [wantOf]
  | cons d ds ih =>
    have := szOf_bd d
    rw [want_cons, List.length_cons]
    split
    · split <;> omega
    · omega
theorem want_count (ds : List S28) : ((labels ds).count 1 : Int) = wantOf ds := by
  induction ds with
  | nil => rfl
  | cons d ds ih =>
    have hb := szOf_bd d
    rw [labels_cons, List.count_append, want_cons, List.count_replicate]
    unfold labOf
    by_cases h0 : d.f0 = true
    · rw [if_pos h0, if_pos h0]
      simp only [ite_self]
      rw [if_neg (by decide)]
      omega
    · rw [if_neg h0, if_neg h0]
      by_cases h1 : d.f1 = 1
      · rw [if_pos h1, h1]
        rw [if_pos (by decide)]
        omega
      · rw [if_neg h1, if_neg (by simpa using fun e => h1 (by simpa using e))]
        omega

theorem labels_in (n i : Int) (j : Nat) (l : List S28) (len : Int) (b : Bool) (f1 : Int) (f2 : ByteArray) (f3 : Int) (f4 : ByteArray) (f5 : Int) (R : List Int) (hn : n ≤ 64) (m : Nat) :
    ∀ (j : Nat) (xs : List Int), m = (n - j).toNat → (j : Int) ≤ n → xs.length + m < 17592186044416 →
    Evt (fun k => place_Labels.l0 k (xs ++ List.replicate m (if b = true then 0 else f1)) l len (wrap64 (i + 1))) R →
    Evt (fun k => place_Labels.l1 k xs l len i n j b f1 f2 f3 f4 f5) R := by
  induction m with
  | zero =>
    intro j xs hm hj hl h
    refine Evt.succ (fun k => ?_) (by simpa using h)
    simp only [place_Labels.l1]
    rw [if_neg (by omega)]
  | succ m ih =>
    intro j xs hm hj hl h
    have wk : wrap64 ((j : Int) + 1) = ((j + 1 : Nat) : Int) := by rw [w64 (by omega) (by omega)]; rfl
    have h2 := ih (j + 1) (xs ++ [if b = true then 0 else f1]) (by omega) (by omega) (by simp; omega) (by
      rw [List.append_assoc]
      exact h)
    refine Evt.succ (fun k => ?_) h2
    simp only [place_Labels.l1]
    rw [if_pos (by omega), wk]
    cases b
    · simp only [Bool.false_eq_true, if_false]
      rw [if_pos (by omega)]
    · simp only [if_true]
      rw [if_pos (by omega)]

theorem labels_out (l : List S28) (hl : l.length ≤ 600) (m : Nat) : ∀ (i : Nat) (xs : List Int), m = l.length - i → i ≤ l.length → xs.length ≤ 64 * i →
    Evt (fun k => place_Labels.l0 k xs l (l.length : Int) i) (xs ++ labels (l.drop i)) := by
  induction m with
  | zero =>
    intro i xs hm hi hx
    have e : i = l.length := by omega
    subst e
    refine ⟨1, fun k hk => ?_⟩
    obtain ⟨k, rfl⟩ : ∃ m, k = m + 1 := ⟨k - 1, by omega⟩
    simp only [place_Labels.l0]
    rw [if_neg (by omega), List.drop_length]
    simp [labels]
  | succ m ih =>
    intro i xs hm hi hx
    have hlt : i < l.length := by omega
    have hb := szOf_bd l[i]
    have wk : wrap64 ((i : Int) + 1) = ((i + 1 : Nat) : Int) := by rw [w64 (by omega) (by omega)]; rfl
    have h1 := ih (i + 1) (xs ++ List.replicate (szOf l[i]).toNat (labOf l[i])) (by omega) (by omega) (by simp; omega)
    rw [List.append_assoc, ← labels_cons, ← List.drop_eq_getElem_cons hlt] at h1
    have h2 := labels_in (szOf l[i]) (i : Int) 0 l (l.length : Int) l[i].f0 l[i].f1 l[i].f2 l[i].f3 l[i].f4 l[i].f5 _ hb.2 (szOf l[i]).toNat 0 xs (by simp) (by omega) (by omega) (by rw [wk]; exact h1)
    refine Evt.succ (fun k => ?_) h2
    simp only [place_Labels.l0]
    rw [if_pos (by omega), if_pos (by omega), if_pos (by omega), rdT_at l i hlt]
    rfl

theorem labels_eq (l : List S28) (hl : l.length ≤ 600) : Evt (fun k => place_Labels.f k l) (labels l) := by
  have := labels_out l hl _ 0 [] rfl (by omega) (by simp)
  rw [List.nil_append, List.drop_zero] at this
  exact this

theorem got_loop (W : Int) (ls : List Int) (hl : ls.length ≤ 38400) (m : Nat) : ∀ (j : Nat) (g : Int), m = ls.length - j → j ≤ ls.length → 0 ≤ g → g ≤ j →
    Evt (fun k => tautochronelaw10_PlaceLabels.l1 k W g ls (ls.length : Int) j) ((g + ((ls.drop j).count 1 : Int)) == W) := by
  induction m with
  | zero =>
    intro j g hm hj g0 g1
    have e : j = ls.length := by omega
    subst e
    refine ⟨1, fun k hk => ?_⟩
    obtain ⟨k, rfl⟩ : ∃ m, k = m + 1 := ⟨k - 1, by omega⟩
    simp only [tautochronelaw10_PlaceLabels.l1]
    rw [if_neg (by omega), List.drop_length]
    simp
  | succ m ih =>
    intro j g hm hj g0 g1
    have hlt : j < ls.length := by omega
    have wk : wrap64 ((j : Int) + 1) = ((j + 1 : Nat) : Int) := by rw [w64 (by omega) (by omega)]; rfl
    have wg : wrap64 (g + 1) = g + 1 := w64 (by omega) (by omega)
    have hrd : rd ls (j : Int) = ls[j] := by
      unfold Go.Proofs.YthboknkpgbfmoaaW.PrintWords.rd
      rw [Int.toNat_natCast, List.getD_eq_getElem?_getD, List.getElem?_eq_getElem hlt]
      rfl
    rw [List.drop_eq_getElem_cons hlt, List.count_cons]
    by_cases h1 : ls[j] = 1
    · have h2 := ih (j + 1) (g + 1) (by omega) (by omega) (by omega) (by omega)
      have e : g + (((ls.drop (j + 1)).count 1 + if (ls[j] == 1) = true then 1 else 0 : Nat) : Int) = g + 1 + ((ls.drop (j + 1)).count 1 : Int) := by
        rw [h1]; simp; omega
      rw [e]
      refine Evt.succ (fun k => ?_) h2
      simp only [tautochronelaw10_PlaceLabels.l1]
      rw [if_pos (by omega), if_pos (by omega), if_pos (by omega), hrd, if_pos h1, wk, wg]
    · have h2 := ih (j + 1) g (by omega) (by omega) (by omega) (by omega)
      have e : g + (((ls.drop (j + 1)).count 1 + if (ls[j] == 1) = true then 1 else 0 : Nat) : Int) = g + ((ls.drop (j + 1)).count 1 : Int) := by
        rw [if_neg (by simpa using h1)]; simp
      rw [e]
      refine Evt.succ (fun k => ?_) h2
      simp only [tautochronelaw10_PlaceLabels.l1]
      rw [if_pos (by omega), if_pos (by omega), if_pos (by omega), hrd, if_neg h1, wk]

theorem want_loop (l : List S28) (hl : l.length ≤ 600) (m : Nat) : ∀ (i : Nat) (n : Int), m = l.length - i → i ≤ l.length → 0 ≤ n → n ≤ 64 * i →
    Evt (fun k => tautochronelaw10_PlaceLabels.l0 k l n 0 l (l.length : Int) i) (((labels l).count 1 : Int) == n + wantOf (l.drop i)) := by
  induction m with
  | zero =>
    intro i n hm hi n0 n1
    have e : i = l.length := by omega
    subst e
    have h := Evt.bind (f := fun t k => tautochronelaw10_PlaceLabels.l1 k n 0 t (t.length : Int) 0) (labels_eq l hl) (got_loop n (labels l) (by have := labels_len l; omega) _ 0 0 rfl (by omega) (by omega) (by omega))
    rw [List.drop_length]
    simp only [List.drop_zero, Int.zero_add] at h
    have e : n + wantOf [] = n := by simp [wantOf]
    rw [e]
    refine Evt.succ (fun k => ?_) h
    simp only [tautochronelaw10_PlaceLabels.l0]
    rw [if_neg (by omega)]
  | succ m ih =>
    intro i n hm hi n0 n1
    have hlt : i < l.length := by omega
    have hb := szOf_bd l[i]
    have wk : wrap64 ((i : Int) + 1) = ((i + 1 : Nat) : Int) := by rw [w64 (by omega) (by omega)]; rfl
    rw [List.drop_eq_getElem_cons hlt, want_cons]
    by_cases h1 : l[i].f1 = 1
    · rw [if_pos h1]
      by_cases h0 : l[i].f0 = true
      · rw [if_pos h0]
        have h2 := ih (i + 1) n (by omega) (by omega) (by omega) (by omega)
        rw [show n + (0 + wantOf (l.drop (i + 1))) = n + wantOf (l.drop (i + 1)) by omega]
        refine Evt.succ (fun k => ?_) h2
        simp only [tautochronelaw10_PlaceLabels.l0]
        rw [if_pos (by omega), if_pos (by omega), if_pos (by omega), rdT_at l i hlt, if_pos h1, if_pos h0, wk]
      · rw [if_neg h0]
        have h2 := ih (i + 1) (n + szOf l[i]) (by omega) (by omega) (by omega) (by omega)
        have wn : wrap64 (n + mx 1 (mn l[i].f3 64)) = n + szOf l[i] := w64 (by show _ ≤ n + szOf l[i]; omega) (by show n + szOf l[i] ≤ _; omega)
        rw [show n + (szOf l[i] + wantOf (l.drop (i + 1))) = n + szOf l[i] + wantOf (l.drop (i + 1)) by omega]
        refine Evt.succ (fun k => ?_) h2
        simp only [tautochronelaw10_PlaceLabels.l0]
        rw [if_pos (by omega), if_pos (by omega), if_pos (by omega), rdT_at l i hlt, if_pos h1, if_neg h0, wk, wn]
    · rw [if_neg h1]
      have h2 := ih (i + 1) n (by omega) (by omega) (by omega) (by omega)
      rw [show n + (0 + wantOf (l.drop (i + 1))) = n + wantOf (l.drop (i + 1)) by omega]
      refine Evt.succ (fun k => ?_) h2
      simp only [tautochronelaw10_PlaceLabels.l0]
      rw [if_pos (by omega), if_pos (by omega), if_pos (by omega), rdT_at l i hlt, if_neg h1, wk]

theorem purePlaceLabels (l0 : List Int) (l1 : List Bool) (hm : l0.length ≤ maxLen) (hw : ∀ x ∈ l0, (Lit.int .i8 x).wf = true) : ∃ k, tautochronelaw10_PlaceLabels.f k l0 l1 = some true := by
  have hd := decls_eq l0 l1 hm (fun x hx => i8_wf (hw x hx))
  have hs := decls_small l0 l1
  have h2 := want_loop (declsTo l0 l1 (made l0)) hs _ 0 0 rfl (by omega) (by omega) (by omega)
  have h := Evt.bind (f := fun t k => tautochronelaw10_PlaceLabels.l0 k t 0 0 t (t.length : Int) 0) hd h2
  obtain ⟨k, hk⟩ := h.ex
  refine ⟨k, ?_⟩
  have hf : tautochronelaw10_PlaceLabels.f k l0 l1 = ((tautochronelaw10_decls.f k l0 l1).bind fun x => tautochronelaw10_PlaceLabels.l0 k x 0 0 x (x.length : Int) 0) := by
    unfold tautochronelaw10_PlaceLabels.f tautochronelaw10_awake.f
    rfl
  rw [hf]
  refine hk.trans ?_
  rw [List.drop_zero, want_count]
  simp

theorem walkPlaceLabels (W : World) (A0 : Option Addr) (c0 : Nat) (l0 : List Int) (hr0 : Kd.C (Kd.int .i8) W A0 l0.length l0) (hc0 : l0.length ≤ c0) (hm : l0.length ≤ maxLen) (hw : ∀ x ∈ l0, (Lit.int .i8 x).wf = true) (A1 : Option Addr) (c1 : Nat) (l1 : List Bool) (hr1 : Kd.C Kd.bool W A1 l1.length l1) (hc1 : l1.length ≤ c1) :
    Calls Try.prog 6 #[.slice A0 l0.length c0, .slice A1 l1.length c1] W fun e W' => e = .returned (.bool true) ∧ Below W.heap.size W W' := by
  obtain ⟨k, h⟩ := purePlaceLabels l0 l1 hm hw
  exact tautochronelaw10_PlaceLabels.calls k A0 c0 l0 A1 c1 l1 true W hr0 hc0 hr1 hc1 h
end Go.Proofs.Ythboknkpgbfmoaa.PQ
