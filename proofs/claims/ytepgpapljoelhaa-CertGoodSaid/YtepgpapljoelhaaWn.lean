/- What want answers, in plain words. -/
import Derived.Test.YtepgpapljoelhaaPAx6
import Derived.Test.YtepgpapljoelhaaGd
namespace Go.Proofs.Ytepgpapljoelhaa.PA
open Go.RowKit Go.Proofs.YtepgpapljoelhaaW.PrintWords
set_option linter.unusedVariables false
set_option linter.unusedSimpArgs false

theorem want5 (x0 : List S37) (ws : List Int) (x11 : List (List Int)) (tg : Int) (ok : Bool) (x47 : List S37) (x48 x49 : Int) (x95 : List Int) (x96 x97 : Int) (row : List Int) (r : Bool) (h0 : ok = true → 0 ≤ tg) (h1 : ok = true → tg < (ws.length : Int)) (hrow : ∀ v ∈ row, 0 ≤ v ∧ v < (ws.length : Int)) (hl : row.length ≤ 1000000000)
    (hK : Evt (fun k => tautochronelaw18_want.l4 k x0 ws x11 tg ok x47 x48 x49 x95 x96 (wrap64 (x97 + 1))) r) :
    ∀ (d j : Nat), j + d = row.length → Evt (fun k => tautochronelaw18_want.l5 k x0 ws x11 tg ok x47 x48 x49 x95 x96 x97 row (row.length : Int) (j : Int)) (!(ok && (row.drop j).any (clash ws tg)) && r)
  | 0, j, hj => by
    obtain rfl : j = row.length := by omega
    rw [List.drop_length]
    refine Evt.succ (g := fun k => tautochronelaw18_want.l4 k x0 ws x11 tg ok x47 x48 x49 x95 x96 (wrap64 (x97 + 1))) (fun k => ?_) (by simpa using hK)
    rw [tautochronelaw18_want.l5, if_neg (by omega)]
  | d + 1, j, hj => by
    have hlt : j < row.length := by omega
    have ih := want5 x0 ws x11 tg ok x47 x48 x49 x95 x96 x97 row r h0 h1 hrow hl hK d (j + 1) (by omega)
    have hw : wrap64 ((j : Int) + 1) = ((j + 1 : Nat) : Int) := by rw [w64 (by omega) (by omega)]; omega
    have hm := hrow (rd row (j : Int)) (by rw [rd_at row j hlt]; exact List.getElem_mem _)
    rw [rd_drop row j hlt, List.any_cons]
    have l1 : (j : Int) < (row.length : Int) := by omega
    have l0 : 0 ≤ (j : Int) := by omega
    cases ok with
    | false =>
      refine Evt.succ (g := fun k => tautochronelaw18_want.l5 k x0 ws x11 tg false x47 x48 x49 x95 x96 x97 row (row.length : Int) ((j + 1 : Nat) : Int)) (fun k => ?_) (by simpa using ih)
      rw [tautochronelaw18_want.l5, if_pos l1, if_pos l0, if_pos l1, if_neg (by simp), hw]
    | true =>
      have h0 := h0 rfl
      have h1 := h1 rfl
      by_cases c0 : rd row (j : Int) = tg
      · refine Evt.succ (g := fun k => tautochronelaw18_want.l5 k x0 ws x11 tg true x47 x48 x49 x95 x96 x97 row (row.length : Int) ((j + 1 : Nat) : Int)) (fun k => ?_) ?_
        · rw [tautochronelaw18_want.l5, if_pos l1, if_pos l0, if_pos l1, if_pos rfl, if_pos c0, hw]
        · have e : clash ws tg (rd row (j : Int)) = false := by simp [clash, c0]
          rw [e, Bool.false_or]
          exact ih
      · by_cases c1 : rd ws (rd row (j : Int)) = rd ws tg
        · refine Evt.succ (g := fun _ => some false) (fun k => ?_) (Evt.const (fun _ => ?_))
          · rw [tautochronelaw18_want.l5, if_pos l1, if_pos l0, if_pos l1, if_pos rfl, if_neg c0, if_pos hm.1, if_pos hm.2, if_pos h0, if_pos h1, if_pos c1]
          · have e : clash ws tg (rd row (j : Int)) = true := by simp [clash, c0, c1]
            rw [e]
            simp
        · refine Evt.succ (g := fun k => tautochronelaw18_want.l5 k x0 ws x11 tg true x47 x48 x49 x95 x96 x97 row (row.length : Int) ((j + 1 : Nat) : Int)) (fun k => ?_) ?_
          · rw [tautochronelaw18_want.l5, if_pos l1, if_pos l0, if_pos l1, if_pos rfl, if_neg c0, if_pos hm.1, if_pos hm.2, if_pos h0, if_pos h1, if_neg c1, hw]
          · have e : clash ws tg (rd row (j : Int)) = false := by simp [clash, c1]
            rw [e, Bool.false_or]
            exact ih
theorem any_and (ok : Bool) (a b : Bool) : (ok && (a || b)) = ((ok && a) || (ok && b)) := by cases ok <;> simp
theorem want4 (x0 : List S37) (ws : List Int) (x11 : List (List Int)) (tg : Int) (ok : Bool) (x47 : List S37) (x48 x49 : Int) (x95 : List Int) (r : Bool) (h0 : ok = true → 0 ≤ tg) (h1 : ok = true → tg < (ws.length : Int)) (hR : InR ws x11) (hn : ∀ m ∈ x95, 0 ≤ m ∧ m < (x11.length : Int)) (hl : x95.length ≤ 1000000000)
    (hK : Evt (fun k => tautochronelaw18_want.l1 k x0 ws x11 x47 x48 (wrap64 (x49 + 1))) r) :
    ∀ (d j : Nat), j + d = x95.length → Evt (fun k => tautochronelaw18_want.l4 k x0 ws x11 tg ok x47 x48 x49 x95 (x95.length : Int) (j : Int)) (!(ok && (x95.drop j).any (fun m => (rd_L3 x11 m).any (clash ws tg))) && r)
  | 0, j, hj => by
    obtain rfl : j = x95.length := by omega
    rw [List.drop_length]
    refine Evt.succ (g := fun k => tautochronelaw18_want.l1 k x0 ws x11 x47 x48 (wrap64 (x49 + 1))) (fun k => ?_) (by simpa using hK)
    rw [tautochronelaw18_want.l4, if_neg (by omega)]
  | d + 1, j, hj => by
    have hlt : j < x95.length := by omega
    have ih := want4 x0 ws x11 tg ok x47 x48 x49 x95 r h0 h1 hR hn hl hK d (j + 1) (by omega)
    have hw : wrap64 ((j : Int) + 1) = ((j + 1 : Nat) : Int) := by rw [w64 (by omega) (by omega)]; omega
    have hm := hn (rd x95 (j : Int)) (by rw [rd_at x95 j hlt]; exact List.getElem_mem _)
    rw [rd_drop x95 j hlt, List.any_cons]
    have l1 : (j : Int) < (x95.length : Int) := by omega
    have l0 : 0 ≤ (j : Int) := by omega
    have hrow := hR _ (rdL3_mem hm.1 hm.2)
    rw [← hw] at ih
    have h3 := want5 x0 ws x11 tg ok x47 x48 x49 x95 (x95.length : Int) (j : Int) (rd_L3 x11 (rd x95 (j : Int))) _ h0 h1 hrow.2 (by omega) ih _ 0 (Nat.zero_add _)
    refine Evt.succ (fun k => ?_) (by rw [any_and, Bool.not_or, Bool.and_assoc]; exact h3)
    rw [tautochronelaw18_want.l4, if_pos l1, if_pos l0, if_pos l1, if_pos hm.1, if_pos hm.2]
    rfl
theorem want3 (x0 : List S37) (ws : List Int) (x11 : List (List Int)) (x12 v : Int) (x47 : List S37) (x48 x49 : Int) (x57 : List Int) (x58 x59 : Int) (ys : List Int) (c : S37) (r : Bool) (h0 : 0 ≤ v) (h1 : v < (ws.length : Int)) (hys : ∀ v ∈ ys, 0 ≤ v ∧ v < (ws.length : Int)) (hl : ys.length ≤ 1000000000)
    (hK : Evt (fun k => tautochronelaw18_want.l2 k x0 ws x11 x12 x47 x48 x49 x57 x58 (wrap64 (x59 + 1)) c.f0 c.f1 c.f2 c.f3 c.f4 c.f5 c.f6 c.f7) r) :
    ∀ (d j : Nat), j + d = ys.length → Evt (fun k => tautochronelaw18_want.l3 k x0 ws x11 x12 v x47 x48 x49 x57 x58 x59 ys (ys.length : Int) (j : Int) c.f0 c.f1 c.f2 c.f3 c.f4 c.f5 c.f6 c.f7) (!(ys.drop j).any (fun u => decide (rd ws v = rd ws u)) && r)
  | 0, j, hj => by
    obtain rfl : j = ys.length := by omega
    rw [List.drop_length]
    refine Evt.succ (g := fun k => tautochronelaw18_want.l2 k x0 ws x11 x12 x47 x48 x49 x57 x58 (wrap64 (x59 + 1)) c.f0 c.f1 c.f2 c.f3 c.f4 c.f5 c.f6 c.f7) (fun k => ?_) (by simpa using hK)
    rw [tautochronelaw18_want.l3, if_neg (by omega)]
  | d + 1, j, hj => by
    have hlt : j < ys.length := by omega
    have ih := want3 x0 ws x11 x12 v x47 x48 x49 x57 x58 x59 ys c r h0 h1 hys hl hK d (j + 1) (by omega)
    have hw : wrap64 ((j : Int) + 1) = ((j + 1 : Nat) : Int) := by rw [w64 (by omega) (by omega)]; omega
    have hm := hys (rd ys (j : Int)) (by rw [rd_at ys j hlt]; exact List.getElem_mem _)
    rw [rd_drop ys j hlt, List.any_cons]
    have l1 : (j : Int) < (ys.length : Int) := by omega
    have l0 : 0 ≤ (j : Int) := by omega
    by_cases c1 : rd ws v = rd ws (rd ys (j : Int))
    · refine Evt.succ (g := fun _ => some false) (fun k => ?_) (Evt.const (fun _ => by simp [c1]))
      rw [tautochronelaw18_want.l3, if_pos l1, if_pos l0, if_pos l1, if_pos h0, if_pos h1, if_pos hm.1, if_pos hm.2, if_pos c1]
    · refine Evt.succ (g := fun k => tautochronelaw18_want.l3 k x0 ws x11 x12 v x47 x48 x49 x57 x58 x59 ys (ys.length : Int) ((j + 1 : Nat) : Int) c.f0 c.f1 c.f2 c.f3 c.f4 c.f5 c.f6 c.f7) (fun k => ?_) (by rw [decide_eq_false c1, Bool.false_or]; exact ih)
      rw [tautochronelaw18_want.l3, if_pos l1, if_pos l0, if_pos l1, if_pos h0, if_pos h1, if_pos hm.1, if_pos hm.2, if_neg c1, hw]
/-- No two places of a row from j on are one. -/
def pairsOk (ws row : List Int) (j : Nat) : Bool := !(row.take j).any (fun u => decide (rd ws (rd row (j : Int)) = rd ws u))
theorem want2 (x0 : List S37) (ws : List Int) (x11 : List (List Int)) (x47 : List S37) (x48 : Int) (i : Int) (row : List Int) (c : S37) (r : Bool) (hi0 : 0 ≤ i) (hi1 : i < (x11.length : Int)) (he : rd_L3 x11 i = row) (hrow : ∀ v ∈ row, 0 ≤ v ∧ v < (ws.length : Int)) (hl : row.length ≤ 1000000000)
    (hK : Evt (fun k => (code_Defines.f c.f0 c.f1 c.f2 c.f3 c.f4 c.f5 c.f6 c.f7).bind fun bt212 => ((code_Next.f k c.f0 c.f1 c.f2 c.f3 c.f4 c.f5 c.f6 c.f7 i (x0.length : Int)).bind fun t214 => (tautochronelaw18_want.l4 k x0 ws x11 bt212.1 bt212.2 x47 x48 i t214 (t214.length : Int) 0))) r) :
    ∀ (d j : Nat), j + d = row.length → Evt (fun k => tautochronelaw18_want.l2 k x0 ws x11 i x47 x48 i row (row.length : Int) (j : Int) c.f0 c.f1 c.f2 c.f3 c.f4 c.f5 c.f6 c.f7) ((List.range' j d).all (pairsOk ws row) && r)
  | 0, j, hj => by
    obtain rfl : j = row.length := by omega
    refine Evt.succ (fun k => ?_) (by simpa using hK)
    rw [tautochronelaw18_want.l2, if_neg (by omega)]
  | d + 1, j, hj => by
    have hlt : j < row.length := by omega
    have ih := want2 x0 ws x11 x47 x48 i row c r hi0 hi1 he hrow hl hK d (j + 1) (by omega)
    have hw : wrap64 ((j : Int) + 1) = ((j + 1 : Nat) : Int) := by rw [w64 (by omega) (by omega)]; omega
    have hm := hrow (rd row (j : Int)) (by rw [rd_at row j hlt]; exact List.getElem_mem _)
    have l1 : (j : Int) < (row.length : Int) := by omega
    have l0 : 0 ≤ (j : Int) := by omega
    have l2 : (j : Int) ≤ ((rd_L3 x11 i).length : Int) := by rw [he]; omega
    rw [← hw] at ih
    have h3 := want3 x0 ws x11 i (rd row (j : Int)) x47 x48 i row (row.length : Int) (j : Int) (row.take j) c _ hm.1 hm.2 (fun v hv => hrow v (List.mem_of_mem_take hv)) (by rw [List.length_take]; omega) ih _ 0 (Nat.zero_add _)
    rw [List.range'_succ, List.all_cons, Bool.and_assoc]
    refine Evt.succ (fun k => ?_) h3
    rw [tautochronelaw18_want.l2, if_pos l1, if_pos l0, if_pos l1, if_pos hi0, if_pos hi1, if_pos l2, he, Option.bind_some, Int.toNat_natCast]
    rfl
/-- What want asks of place i. -/
def wantAt (x0 : List S37) (ws : List Int) (x11 : List (List Int)) (i : Nat) : Bool :=
  (List.range (rd_L3 x11 (i : Int)).length).all (pairsOk ws (rd_L3 x11 (i : Int))) && !(db (rd_T37 x0 (i : Int)) && (nextOf (rd_T37 x0 (i : Int)) (i : Int) (x0.length : Int)).any (fun m => (rd_L3 x11 m).any (clash ws (dv (rd_T37 x0 (i : Int))))))
theorem want1 (x0 : List S37) (ws : List Int) (x11 : List (List Int)) (h : GFit x0 ws x11) :
    ∀ (d j : Nat), j + d = x0.length → Evt (fun k => tautochronelaw18_want.l1 k x0 ws x11 x0 (x0.length : Int) (j : Int)) ((List.range' j d).all (wantAt x0 ws x11))
  | 0, j, hj => by
    obtain rfl : j = x0.length := by omega
    refine Evt.succ (g := fun k => some true) (fun k => ?_) (Evt.const fun _ => rfl)
    rw [tautochronelaw18_want.l1, if_neg (by omega)]
  | d + 1, j, hj => by
    have hlt : j < x0.length := by omega
    have hfew := h.few
    have hlen := h.len
    have ih := want1 x0 ws x11 h d (j + 1) (by omega)
    have hw : wrap64 ((j : Int) + 1) = ((j + 1 : Nat) : Int) := by rw [w64 (by omega) (by omega)]; omega
    have l1 : (j : Int) < (x0.length : Int) := by omega
    have l0 : 0 ≤ (j : Int) := by omega
    have l2 : (j : Int) < (x11.length : Int) := by omega
    have hrow := h.rows _ (rdL3_mem l0 l2)
    have hc : rd_T37 x0 (j : Int) ∈ x0 := by rw [rdT_at x0 j hlt]; exact List.getElem_mem _
    rw [List.range'_succ, List.all_cons, wantAt]
    generalize hcc : rd_T37 x0 (j : Int) = c at hc ⊢
    rw [← hw] at ih
    have h4 := want4 x0 ws x11 (dv c) (db c) x0 (x0.length : Int) (j : Int) (nextOf c (j : Int) (x0.length : Int)) _ (fun hb => (h.defs c hc hb).1) (fun hb => (h.defs c hc hb).2) h.rows (by rw [hlen]; exact next_range c _ _ l0) (next_few _ _ _) ih _ 0 (Nat.zero_add _)
    have hK := Evt.bind (Next_eq c (j : Int) (x0.length : Int) l0 (by omega)) (f := fun nx k => tautochronelaw18_want.l4 k x0 ws x11 (dv c) (db c) x0 (x0.length : Int) (j : Int) nx (nx.length : Int) 0) h4
    have h2 := want2 x0 ws x11 x0 (x0.length : Int) (j : Int) _ c _ l0 l2 rfl hrow.2 (by omega) (by simpa only [Defines_eq, Option.bind_some] using hK) _ 0 (Nat.zero_add _)
    rw [← List.range_eq_range'] at h2
    rw [Bool.and_assoc]
    refine Evt.succ (fun k => ?_) h2
    rw [tautochronelaw18_want.l1, if_pos l1, if_pos l0, if_pos l1, if_pos l2, hcc]
    rfl
theorem want0 (x0 : List S37) (ws : List Int) (reg sl : Int) (r : Bool) (hl : ws.length ≤ 1000000000)
    (hK : Evt (fun k => (live_Of.f k x0).bind fun t197 => tautochronelaw18_want.l1 k x0 ws t197 x0 (x0.length : Int) 0) r) :
    ∀ (d j : Nat), j + d = ws.length → Evt (fun k => tautochronelaw18_want.l0 k x0 ws reg sl ws (ws.length : Int) (j : Int)) ((ws.drop j).all (inW reg sl) && r)
  | 0, j, hj => by
    obtain rfl : j = ws.length := by omega
    rw [List.drop_length]
    refine Evt.succ (fun k => ?_) (by simpa using hK)
    rw [tautochronelaw18_want.l0, if_neg (by omega)]
  | d + 1, j, hj => by
    have hlt : j < ws.length := by omega
    have ih := want0 x0 ws reg sl r hl hK d (j + 1) (by omega)
    have hw : wrap64 ((j : Int) + 1) = ((j + 1 : Nat) : Int) := by rw [w64 (by omega) (by omega)]; omega
    rw [rd_drop ws j hlt, List.all_cons]
    have l1 : (j : Int) < (ws.length : Int) := by omega
    have l0 : 0 ≤ (j : Int) := by omega
    by_cases c0 : rd ws (j : Int) ≥ reg
    · refine Evt.succ (g := fun k => some false) (fun k => ?_) (Evt.const fun _ => by simp [inW, c0])
      rw [tautochronelaw18_want.l0, if_pos l1, if_pos l0, if_pos l1, if_pos c0]
    · by_cases c1 : rd ws (j : Int) < wrap64 (-sl)
      · refine Evt.succ (g := fun k => some false) (fun k => ?_) (Evt.const fun _ => by simp [inW, c1])
        rw [tautochronelaw18_want.l0, if_pos l1, if_pos l0, if_pos l1, if_neg c0, if_pos c1]
      · have e : inW reg sl (rd ws (j : Int)) = true := by unfold inW; rw [decide_eq_false c0, decide_eq_false c1]; rfl
        rw [e, Bool.true_and]
        refine Evt.succ (g := fun k => tautochronelaw18_want.l0 k x0 ws reg sl ws (ws.length : Int) ((j + 1 : Nat) : Int)) (fun k => ?_) ih
        rw [tautochronelaw18_want.l0, if_pos l1, if_pos l0, if_pos l1, if_neg c0, if_neg c1, hw]
/-- want's answer. -/
theorem want_evt (x0 : List S37) (ws : List Int) (x11 : List (List Int)) (reg sl : Int) (hl : ws.length ≤ 1000000000) (hv : Evt (fun k => code_Values.f k x0) (ws.length : Int)) (hf : OfFit x0) (hr : IsRows x0 x11) (h : GFit x0 ws x11) :
    Evt (fun k => tautochronelaw18_want.f k x0 ws reg sl) (ws.all (inW reg sl) && (List.range x0.length).all (wantAt x0 ws x11)) := by
  have h1 := want1 x0 ws x11 h x0.length 0 (Nat.zero_add _)
  have h0 := want0 x0 ws reg sl ((List.range x0.length).all (wantAt x0 ws x11)) hl (Evt.bind (g := fun k => live_Of.f k x0) (f := fun t k => tautochronelaw18_want.l1 k x0 ws t x0 (x0.length : Int) 0) (Evt.const fun k => live_Of.eq k hf hr) (by rw [List.range_eq_range']; exact h1)) ws.length 0 (Nat.zero_add _)
  refine Evt.bind (g := fun k => code_Values.f k x0) (f := fun t k => if (ws.length : Int) = t then tautochronelaw18_want.l0 k x0 ws reg sl ws (ws.length : Int) 0 else some false) hv ?_
  simp only [if_true]
  exact h0
/-- .. where the number of places is another one. -/
theorem want_not (x0 : List S37) (ws : List Int) (n : Int) (reg sl : Int) (hv : Evt (fun k => code_Values.f k x0) n) (hn : (ws.length : Int) ≠ n) : Evt (fun k => tautochronelaw18_want.f k x0 ws reg sl) false := by
  refine Evt.bind (g := fun k => code_Values.f k x0) (f := fun t k => if (ws.length : Int) = t then tautochronelaw18_want.l0 k x0 ws reg sl ws (ws.length : Int) 0 else some false) hv (Evt.const fun k => ?_)
  rw [if_neg hn]
#print axioms want_evt
end Go.Proofs.Ytepgpapljoelhaa.PA
