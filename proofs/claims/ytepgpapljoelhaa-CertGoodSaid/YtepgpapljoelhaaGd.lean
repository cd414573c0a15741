/- What cert.Good answers, in plain words. -/
import Derived.Test.YtepgpapljoelhaaPAx5
import Derived.Test.YtepgpapljoelhaaExi
namespace Go.Proofs.Ytepgpapljoelhaa.PA
open Go.RowKit Go.Proofs.YtepgpapljoelhaaW.PrintWords
set_option linter.unusedVariables false
set_option linter.unusedSimpArgs false

/-- Two that are one. -/
def clash (ws : List Int) (tg v : Int) : Bool := decide (v ≠ tg) && decide (rd ws v = rd ws tg)
theorem rd_drop (xs : List Int) (j : Nat) (h : j < xs.length) : xs.drop j = rd xs (j : Int) :: xs.drop (j + 1) := by
  rw [rd_at xs j h]
  exact List.drop_eq_getElem_cons h
theorem good3 (x0 : List S37) (ws : List Int) (x11 : List (List Int)) (tg : Int) (x43 : List S37) (x44 x45 : Int) (x68 : List Int) (x69 x70 : Int) (row : List Int) (r : Bool) (h0 : 0 ≤ tg) (h1 : tg < (ws.length : Int)) (hrow : ∀ v ∈ row, 0 ≤ v ∧ v < (ws.length : Int)) (hl : row.length ≤ 1000000000)
    (hK : Evt (fun k => cert_Good.l2 k x0 ws x11 tg x43 x44 x45 x68 x69 (wrap64 (x70 + 1))) r) :
    ∀ (d j : Nat), j + d = row.length → Evt (fun k => cert_Good.l3 k x0 ws x11 tg x43 x44 x45 x68 x69 x70 row (row.length : Int) (j : Int)) (!(row.drop j).any (clash ws tg) && r)
  | 0, j, hj => by
    obtain rfl : j = row.length := by omega
    rw [List.drop_length]
    refine Evt.succ (g := fun k => cert_Good.l2 k x0 ws x11 tg x43 x44 x45 x68 x69 (wrap64 (x70 + 1))) (fun k => ?_) (by simpa using hK)
    simp only [cert_Good.l3]
    rw [if_neg (by omega)]
  | d + 1, j, hj => by
    have hlt : j < row.length := by omega
    have ih := good3 x0 ws x11 tg x43 x44 x45 x68 x69 x70 row r h0 h1 hrow hl hK d (j + 1) (by omega)
    have hw : wrap64 ((j : Int) + 1) = ((j + 1 : Nat) : Int) := by rw [w64 (by omega) (by omega)]; omega
    have hm := hrow (rd row (j : Int)) (by rw [rd_at row j hlt]; exact List.getElem_mem _)
    rw [rd_drop row j hlt, List.any_cons]
    have l1 : (j : Int) < (row.length : Int) := by omega
    have l0 : 0 ≤ (j : Int) := by omega
    by_cases c0 : rd row (j : Int) = tg
    · refine Evt.succ (g := fun k => cert_Good.l3 k x0 ws x11 tg x43 x44 x45 x68 x69 x70 row (row.length : Int) ((j + 1 : Nat) : Int)) (fun k => ?_) ?_
      · rw [cert_Good.l3, if_pos l1, if_pos l0, if_pos l1, if_pos c0, hw]
      · have e : clash ws tg (rd row (j : Int)) = false := by simp [clash, c0]
        rw [e, Bool.false_or]
        exact ih
    · by_cases c1 : rd ws (rd row (j : Int)) = rd ws tg
      · refine Evt.succ (g := fun _ => some false) (fun k => ?_) (Evt.const (fun _ => ?_))
        · rw [cert_Good.l3, if_pos l1, if_pos l0, if_pos l1, if_neg c0, if_pos hm.1, if_pos hm.2, if_pos h0, if_pos h1, if_pos c1]
        · have e : clash ws tg (rd row (j : Int)) = true := by simp [clash, c0, c1]
          rw [e]
          simp
      · refine Evt.succ (g := fun k => cert_Good.l3 k x0 ws x11 tg x43 x44 x45 x68 x69 x70 row (row.length : Int) ((j + 1 : Nat) : Int)) (fun k => ?_) ?_
        · rw [cert_Good.l3, if_pos l1, if_pos l0, if_pos l1, if_neg c0, if_pos hm.1, if_pos hm.2, if_pos h0, if_pos h1, if_neg c1, hw]
        · have e : clash ws tg (rd row (j : Int)) = false := by simp [clash, c1]
          rw [e, Bool.false_or]
          exact ih
/-- A row is of places. -/
def InR (ws : List Int) (x11 : List (List Int)) : Prop := ∀ row ∈ x11, row.length ≤ 100000 ∧ ∀ v ∈ row, 0 ≤ v ∧ v < (ws.length : Int)
theorem rdL3_mem {x11 : List (List Int)} {m : Int} (h0 : 0 ≤ m) (h1 : m < (x11.length : Int)) : rd_L3 x11 m ∈ x11 := by
  obtain ⟨i, rfl⟩ := Int.eq_ofNat_of_zero_le h0
  have hi : i < x11.length := by omega
  have e : rd_L3 x11 (i : Int) = x11[i] := by simp [rd_L3, hi]
  rw [e]
  exact List.getElem_mem _
theorem good2 (x0 : List S37) (ws : List Int) (x11 : List (List Int)) (tg : Int) (x43 : List S37) (x44 x45 : Int) (x68 : List Int) (r : Bool) (h0 : 0 ≤ tg) (h1 : tg < (ws.length : Int)) (hR : InR ws x11) (hn : ∀ m ∈ x68, 0 ≤ m ∧ m < (x11.length : Int)) (hl : x68.length ≤ 1000000000)
    (hK : Evt (fun k => cert_Good.l1 k x0 ws x11 x43 x44 (wrap64 (x45 + 1))) r) :
    ∀ (d j : Nat), j + d = x68.length → Evt (fun k => cert_Good.l2 k x0 ws x11 tg x43 x44 x45 x68 (x68.length : Int) (j : Int)) (!(x68.drop j).any (fun m => (rd_L3 x11 m).any (clash ws tg)) && r)
  | 0, j, hj => by
    obtain rfl : j = x68.length := by omega
    rw [List.drop_length]
    refine Evt.succ (g := fun k => cert_Good.l1 k x0 ws x11 x43 x44 (wrap64 (x45 + 1))) (fun k => ?_) (by simpa using hK)
    rw [cert_Good.l2, if_neg (by omega)]
  | d + 1, j, hj => by
    have hlt : j < x68.length := by omega
    have ih := good2 x0 ws x11 tg x43 x44 x45 x68 r h0 h1 hR hn hl hK d (j + 1) (by omega)
    have hw : wrap64 ((j : Int) + 1) = ((j + 1 : Nat) : Int) := by rw [w64 (by omega) (by omega)]; omega
    have hm := hn (rd x68 (j : Int)) (by rw [rd_at x68 j hlt]; exact List.getElem_mem _)
    rw [rd_drop x68 j hlt, List.any_cons]
    have l1 : (j : Int) < (x68.length : Int) := by omega
    have l0 : 0 ≤ (j : Int) := by omega
    have hrow := hR _ (rdL3_mem hm.1 hm.2)
    rw [← hw] at ih
    have h3 := good3 x0 ws x11 tg x43 x44 x45 x68 (x68.length : Int) (j : Int) (rd_L3 x11 (rd x68 (j : Int))) _ h0 h1 hrow.2 (by omega) ih _ 0 (Nat.zero_add _)
    refine Evt.succ (fun k => ?_) (by rw [Bool.not_or, Bool.and_assoc]; exact h3)
    rw [cert_Good.l2, if_pos l1, if_pos l0, if_pos l1, if_pos hm.1, if_pos hm.2]
    rfl
/-- What cert.Good asks of place at. -/
def okAt (x0 : List S37) (ws : List Int) (x11 : List (List Int)) (i : Nat) : Bool :=
  decide (plc ws (rd_L3 x11 (i : Int)) (rd_L3 x11 (i : Int)).length).Nodup && (!db (rd_T37 x0 (i : Int)) || !(nextOf (rd_T37 x0 (i : Int)) (i : Int) (x0.length : Int)).any (fun m => (rd_L3 x11 m).any (clash ws (dv (rd_T37 x0 (i : Int))))))
structure GFit (x0 : List S37) (ws : List Int) (x11 : List (List Int)) : Prop where
  rows : InR ws x11
  len : x11.length = x0.length
  few : x0.length ≤ 1000
  wf : ∀ v : Int, 0 ≤ v → v < (ws.length : Int) → (Lit.int .i64 (rd ws v)).wf = true
  defs : ∀ c ∈ x0, db c = true → 0 ≤ dv c ∧ dv c < (ws.length : Int)
theorem next_few (c : S37) (a n : Int) : (nextOf c a n).length ≤ 1000000000 := Nat.le_trans (next_len c a n) (by omega)
theorem good1 (x0 : List S37) (ws : List Int) (x11 : List (List Int)) (h : GFit x0 ws x11) :
    ∀ (d j : Nat), j + d = x0.length → Evt (fun k => cert_Good.l1 k x0 ws x11 x0 (x0.length : Int) (j : Int)) ((List.range' j d).all (okAt x0 ws x11))
  | 0, j, hj => by
    obtain rfl : j = x0.length := by omega
    refine Evt.succ (g := fun k => some true) (fun k => ?_) (Evt.const fun _ => rfl)
    rw [cert_Good.l1, if_neg (by omega)]
  | d + 1, j, hj => by
    have hlt : j < x0.length := by omega
    have hfew := h.few
    have hlen := h.len
    have ih := good1 x0 ws x11 h d (j + 1) (by omega)
    have hw : wrap64 ((j : Int) + 1) = ((j + 1 : Nat) : Int) := by rw [w64 (by omega) (by omega)]; omega
    have l1 : (j : Int) < (x0.length : Int) := by omega
    have l0 : 0 ≤ (j : Int) := by omega
    have l2 : (j : Int) < (x11.length : Int) := by omega
    have hrow := h.rows _ (rdL3_mem l0 l2)
    have hap : ApFit (rd_L3 x11 (j : Int)) ws := ⟨hrow.1, hrow.2, fun v hv => h.wf v (hrow.2 v hv).1 (hrow.2 v hv).2⟩
    have hc : rd_T37 x0 (j : Int) ∈ x0 := by rw [rdT_at x0 j hlt]; exact List.getElem_mem _
    rw [List.range'_succ, List.all_cons, okAt]
    generalize hcc : rd_T37 x0 (j : Int) = c at hc ⊢
    by_cases c0 : (plc ws (rd_L3 x11 (j : Int)) (rd_L3 x11 (j : Int)).length).Nodup
    · by_cases c1 : db c = true
      · have hd := h.defs c hc c1
        rw [← hw] at ih
        have h2 := good2 x0 ws x11 (dv c) x0 (x0.length : Int) (j : Int) (nextOf c (j : Int) (x0.length : Int)) _ hd.1 hd.2 h.rows (by rw [hlen]; exact next_range c _ _ l0) (next_few _ _ _) ih _ 0 (Nat.zero_add _)
        refine Evt.succ (fun k => ?_) (Evt.bind (Next_eq c (j : Int) (x0.length : Int) l0 (by omega)) (r := (decide (plc ws (rd_L3 x11 (j : Int)) (rd_L3 x11 (j : Int)).length).Nodup && (!db c || !(nextOf c (j : Int) (x0.length : Int)).any (fun m => (rd_L3 x11 m).any (clash ws (dv c))))) && (List.range' (j + 1) d).all (okAt x0 ws x11)) (f := fun nx k => cert_Good.l2 k x0 ws x11 (dv c) x0 (x0.length : Int) (j : Int) nx (nx.length : Int) 0) (by simpa [c0, c1] using h2))
        rw [cert_Good.l1, if_pos l1, if_pos l0, if_pos l1, if_pos l2, cert_apart.eq hap, hcc]
        simp only [Option.bind_some, decide_eq_true c0, if_true, Defines_eq, c1]
      · refine Evt.succ (g := fun k => cert_Good.l1 k x0 ws x11 x0 (x0.length : Int) ((j + 1 : Nat) : Int)) (fun k => ?_) (by simpa [c0, c1] using ih)
        rw [cert_Good.l1, if_pos l1, if_pos l0, if_pos l1, if_pos l2, cert_apart.eq hap, hcc, hw]
        simp [c0, c1, Defines_eq]
    · refine Evt.succ (g := fun k => some false) (fun k => ?_) (Evt.const fun _ => by simp [c0])
      rw [cert_Good.l1, if_pos l1, if_pos l0, if_pos l1, if_pos l2, cert_apart.eq hap]
      simp [c0]
/-- A place is there. -/
def inW (reg sl w : Int) : Bool := !decide (w ≥ reg) && !decide (w < wrap64 (-sl))
theorem good0 (x0 : List S37) (ws : List Int) (reg sl : Int) (r : Bool) (hl : ws.length ≤ 1000000000)
    (hK : Evt (fun k => (live_Of.f k x0).bind fun t178 => cert_Good.l1 k x0 ws t178 x0 (x0.length : Int) 0) r) :
    ∀ (d j : Nat), j + d = ws.length → Evt (fun k => cert_Good.l0 k x0 ws reg sl ws (ws.length : Int) (j : Int)) ((ws.drop j).all (inW reg sl) && r)
  | 0, j, hj => by
    obtain rfl : j = ws.length := by omega
    rw [List.drop_length]
    refine Evt.succ (fun k => ?_) (by simpa using hK)
    rw [cert_Good.l0, if_neg (by omega)]
  | d + 1, j, hj => by
    have hlt : j < ws.length := by omega
    have ih := good0 x0 ws reg sl r hl hK d (j + 1) (by omega)
    have hw : wrap64 ((j : Int) + 1) = ((j + 1 : Nat) : Int) := by rw [w64 (by omega) (by omega)]; omega
    rw [rd_drop ws j hlt, List.all_cons]
    have l1 : (j : Int) < (ws.length : Int) := by omega
    have l0 : 0 ≤ (j : Int) := by omega
    by_cases c0 : rd ws (j : Int) ≥ reg
    · refine Evt.succ (g := fun k => some false) (fun k => ?_) (Evt.const fun _ => by simp [inW, c0])
      rw [cert_Good.l0, if_pos l1, if_pos l0, if_pos l1, if_pos c0]
    · by_cases c1 : rd ws (j : Int) < wrap64 (-sl)
      · refine Evt.succ (g := fun k => some false) (fun k => ?_) (Evt.const fun _ => by simp [inW, c1])
        rw [cert_Good.l0, if_pos l1, if_pos l0, if_pos l1, if_neg c0, if_pos c1]
      · have e : inW reg sl (rd ws (j : Int)) = true := by unfold inW; rw [decide_eq_false c0, decide_eq_false c1]; rfl
        rw [e, Bool.true_and]
        refine Evt.succ (g := fun k => cert_Good.l0 k x0 ws reg sl ws (ws.length : Int) ((j + 1 : Nat) : Int)) (fun k => ?_) ih
        rw [cert_Good.l0, if_pos l1, if_pos l0, if_pos l1, if_neg c0, if_neg c1, hw]
/-- cert.Good's answer. -/
theorem good_evt (x0 : List S37) (ws : List Int) (x11 : List (List Int)) (reg sl : Int) (hl : ws.length ≤ 1000000000) (hv : Evt (fun k => code_Values.f k x0) (ws.length : Int)) (hf : OfFit x0) (hr : IsRows x0 x11) (h : GFit x0 ws x11) :
    Evt (fun k => cert_Good.f k x0 ws reg sl) (ws.all (inW reg sl) && (List.range x0.length).all (okAt x0 ws x11)) := by
  have h1 := good1 x0 ws x11 h x0.length 0 (Nat.zero_add _)
  have h0 := good0 x0 ws reg sl ((List.range x0.length).all (okAt x0 ws x11)) hl (Evt.bind (g := fun k => live_Of.f k x0) (f := fun t k => cert_Good.l1 k x0 ws t x0 (x0.length : Int) 0) (Evt.const fun k => live_Of.eq k hf hr) (by rw [List.range_eq_range']; exact h1)) ws.length 0 (Nat.zero_add _)
  refine Evt.bind (g := fun k => code_Values.f k x0) (f := fun t k => if (ws.length : Int) = t then cert_Good.l0 k x0 ws reg sl ws (ws.length : Int) 0 else some false) hv ?_
  simp only [if_true]
  exact h0
/-- .. where the number of places is another one. -/
theorem good_not (x0 : List S37) (ws : List Int) (n : Int) (reg sl : Int) (hv : Evt (fun k => code_Values.f k x0) n) (hn : (ws.length : Int) ≠ n) : Evt (fun k => cert_Good.f k x0 ws reg sl) false := by
  refine Evt.bind (g := fun k => code_Values.f k x0) (f := fun t k => if (ws.length : Int) = t then cert_Good.l0 k x0 ws reg sl ws (ws.length : Int) 0 else some false) hv (Evt.const fun k => ?_)
  rw [if_neg hn]
#print axioms good_evt
end Go.Proofs.Ytepgpapljoelhaa.PA
