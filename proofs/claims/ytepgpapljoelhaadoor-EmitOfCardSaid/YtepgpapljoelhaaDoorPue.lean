/- law19's codes in plain words: good, Equal. -/
import Derived.Test.YtepgpapljoelhaaDoorGde
import Derived.Test.YtepgpapljoelhaaDoorSml
import Derived.Test.YtepgpapljoelhaaDoorEmf
import Derived.Test.YtepgpapljoelhaaDoorPEx7
namespace Go.Proofs.YtepgpapljoelhaaDoor.PE
open Go.RowKit Go.Proofs.YtepgpapljoelhaaDoorW.PrintWords
set_option linter.unusedVariables false
set_option linter.unusedSimpArgs false

def mapTo (f : S37 → S37) (l : List S37) (j : Nat) : List S37 := (l.take j).map f ++ l.drop j
theorem mapTo_len (f : S37 → S37) (l : List S37) (j : Nat) (hj : j ≤ l.length) : (mapTo f l j).length = l.length := by simp [mapTo]; omega
theorem mapTo_rd (f : S37 → S37) (l : List S37) (j : Nat) (hj : j < l.length) : rd_T37 (mapTo f l j) (j : Int) = l[j] := by
  rw [rdT_at _ j (by simp [mapTo]; omega)]
  unfold mapTo
  rw [List.getElem_append_right (by simp; omega)]
  simp [Nat.min_eq_left (Nat.le_of_lt hj)]
theorem mapTo_succ (f : S37 → S37) (l : List S37) (j : Nat) (hj : j < l.length) : mapTo f l (j + 1) = (mapTo f l j).set j (f l[j]) := by
  unfold mapTo
  rw [List.take_succ_eq_append_getElem hj, List.set_append_right _ _ (by simp; omega)]
  have e : j - ((l.take j).map f).length = 0 := by simp; omega
  rw [e, List.drop_eq_getElem_cons hj, List.set_cons_zero, List.map_append]
  simp
theorem mapTo_end (f : S37 → S37) (l : List S37) : mapTo f l l.length = l.map f := by simp [mapTo]
/-- A code whose target is among n. -/
def gm (n : Int) (c : S37) : S37 := tgt c (Int.tmod c.f7 n)
def goodOf (raw : List S37) : List S37 := (smallOf raw).map (gm ((smallOf raw).length : Int))
theorem good19_l0 (l : List S37) (h0 : 1 ≤ l.length) (hl : l.length ≤ 1000) : ∀ (d j : Nat), j + d = l.length → Evt (fun k => tautochronelaw19_good.l0 k (mapTo (gm (l.length : Int)) l j) (l.length : Int) (j : Int)) (l.map (gm (l.length : Int)))
  | 0, j, hj => by
    obtain rfl : j = l.length := by omega
    refine Evt.succ (g := fun _ => some (mapTo (gm (l.length : Int)) l l.length)) (fun k => ?_) (Evt.const fun _ => by rw [mapTo_end])
    rw [tautochronelaw19_good.l0, if_neg (by omega)]
  | d + 1, j, hj => by
    have hlt : j < l.length := by omega
    have hw : wrap64 ((j : Int) + 1) = ((j + 1 : Nat) : Int) := by rw [w64 (by omega) (by omega)]; omega
    refine Evt.succ (fun k => ?_) (good19_l0 l h0 hl d (j + 1) (by omega))
    have hlen := mapTo_len (gm (l.length : Int)) l j (by omega)
    rw [tautochronelaw19_good.l0, if_pos (by omega), if_pos (by omega), if_pos (by omega), if_neg (by omega), hw, hlen, mapTo_rd _ l j hlt, mapTo_succ _ l j hlt, Int.toNat_natCast]
    rfl
theorem good19_evt (raw : List S37) : Evt (fun k => tautochronelaw19_good.f k raw) (goodOf raw) := by
  have hl := smallOf_len raw
  have h := good19_l0 (smallOf raw) hl.2 (by omega) (smallOf raw).length 0 (by omega)
  have e : mapTo (gm ((smallOf raw).length : Int)) (smallOf raw) 0 = smallOf raw := by simp [mapTo]
  rw [e] at h
  exact Evt.bind (f := fun t k => tautochronelaw19_good.l0 k t (t.length : Int) 0) (small_eq raw) h
theorem small_more (raw : List S37) : ∀ c ∈ smallOf raw, (0 ≤ c.f1 ∧ c.f1 < 10) ∧ 0 ≤ c.f7 := by
  intro c hc
  unfold smallOf at hc
  rcases List.mem_append.1 hc with hc | hc
  · obtain ⟨d, _, rfl⟩ := List.mem_map.1 hc
    have hm : 0 ≤ mn (raw.length : Int) 30 ∧ mn (raw.length : Int) 30 ≤ 30 := by unfold mn; split <;> omega
    have hw : wrap64 (mn (raw.length : Int) 30 + 1) = mn (raw.length : Int) 30 + 1 := w64 (by omega) (by omega)
    have h1 := rs_range d.f1 10 (by omega) (by omega)
    have h7 := rs_range d.f7 (wrap64 (mn (raw.length : Int) 30 + 1)) (by rw [hw]; omega) (by rw [hw]; omega)
    exact ⟨h1, h7.1⟩
  · rw [List.mem_singleton.1 hc]
    exact ⟨⟨by decide, by decide⟩, by decide⟩
theorem goodOf_len (raw : List S37) : (goodOf raw).length = (smallOf raw).length := by simp [goodOf]
theorem goodOf_few (raw : List S37) : ∀ c ∈ goodOf raw, Few8 c ∧ (0 ≤ c.f1 ∧ c.f1 < 10) ∧ 0 ≤ c.f7 ∧ c.f7 < ((goodOf raw).length : Int) := by
  intro c hc
  obtain ⟨d, hd, rfl⟩ := List.mem_map.1 hc
  have h := smallOf_few raw d hd
  have h2 := small_more raw d hd
  have hl := (smallOf_len raw).2
  refine ⟨h, h2.1, Int.tmod_nonneg _ h2.2, ?_⟩
  rw [goodOf_len]
  exact Int.tmod_lt_of_pos _ (by omega)
theorem few8_dv {c : S37} (h : Few8 c) : 0 ≤ dv c ∧ dv c < 8 := by
  have := h.2.1
  unfold dv
  split <;> omega
theorem goodOf_gc (raw : List S37) : ∀ c ∈ goodOf raw, GC (goodOf raw).length c := by
  intro c hc
  obtain ⟨h, h1, h7⟩ := goodOf_few raw c hc
  have hd := few8_dv h
  exact ⟨⟨h.1.1, by have := h.1.2; omega⟩, fun _ => h1, fun _ => h7, ⟨hd.1, by omega⟩, fun u hu => by have := few8_us h u hu; omega⟩
theorem rdT_last (xs : List S37) (x : S37) : rd_T37 (xs ++ [x]) (((xs ++ [x]).length : Int) - 1) = x := by
  have e : ((xs ++ [x]).length : Int) - 1 = ((xs.length : Nat) : Int) := by rw [List.length_append, List.length_singleton]; omega
  rw [e, rdT_at _ xs.length (by simp)]
  simp
theorem goodOf_yes (raw : List S37) : Evt (fun k => code_Good.f k (goodOf raw)) true := by
  have hl := smallOf_len raw
  refine good_yes _ (by rw [goodOf_len]; omega) (by rw [goodOf_len]; omega) (goodOf_gc raw) ?_
  have e : goodOf raw = ((raw.take 30).map (smC (mn (raw.length : Int) 30))).map (gm ((smallOf raw).length : Int)) ++ [gm ((smallOf raw).length : Int) haltC] := by
    show (smallOf raw).map _ = _
    conv => lhs; arg 2; unfold smallOf
    rw [List.map_append]
    rfl
  rw [e, rdT_last]
  rfl
theorem goodOf_vals (raw : List S37) : ∃ n : Nat, n ≤ 8 ∧ Evt (fun k => code_Values.f k (goodOf raw)) (n : Int) ∧ efit (goodOf raw) n = true := by
  have hl := smallOf_len raw
  have hlen := goodOf_len raw
  have hb := vals_bd (N := 8) (goodOf raw) 0 (by omega) (by omega) (fun c hc => (few8_ok (goodOf_few raw c hc).1).2)
  obtain ⟨q0, q1, _, q3⟩ := hb
  obtain ⟨n, hn⟩ := Int.eq_ofNat_of_zero_le (show 0 ≤ valsOf (goodOf raw) from q0)
  have hv := vals_eq (goodOf raw) (by omega) (fun c hc => (few8_ok (goodOf_few raw c hc).1).1)
  have hn' : (goodOf raw).foldl valC 0 = (n : Int) := hn
  rw [hn] at hv
  rw [hn'] at q1 q3
  refine ⟨n, by omega, hv, efit_mk (by omega) (fun c hc u hu => ?_) (fun c hc hd => ?_) (fun c hc _ => (goodOf_few raw c hc).2.2)⟩
  · have := (q3 c hc).2 u hu
    have := few8_us (goodOf_few raw c hc).1 u hu
    omega
  · have := (q3 c hc).1 hd
    have := few8_dv (goodOf_few raw c hc).1
    omega
theorem equal_l0 (L : List S37) (hl : L.length ≤ 1000000) : ∀ (d j : Nat), j + d = L.length → Evt (fun k => tautochronelaw15_Equal.l0 k L L (L.length : Int) (j : Int)) true
  | 0, j, hj => by
    refine Evt.succ (g := fun _ => some true) (fun k => ?_) (Evt.const fun _ => rfl)
    rw [tautochronelaw15_Equal.l0, if_neg (by omega)]
  | d + 1, j, hj => by
    have hw : wrap64 ((j : Int) + 1) = ((j + 1 : Nat) : Int) := by rw [w64 (by omega) (by omega)]; omega
    refine Evt.succ (fun k => ?_) (equal_l0 L hl d (j + 1) (by omega))
    rw [tautochronelaw15_Equal.l0, if_pos (by omega), if_pos (by omega), if_pos (by omega), if_pos (by omega), if_neg (by simp), hw]
theorem equal_evt (L : List S37) (hl : L.length ≤ 1000000) : Evt (fun k => tautochronelaw15_Equal.f k L L) true := by
  have h := equal_l0 L hl L.length 0 (by omega)
  refine Evt.congr (fun k => ?_) h
  unfold tautochronelaw15_Equal.f
  rw [if_pos rfl]
  rfl
/-- emit.Of's answer at such codes. -/
theorem emit_yes (raw : List S37) {n : Nat} (hv : Evt (fun k => code_Values.f k (goodOf raw)) (n : Int)) (hf : efit (goodOf raw) n = true) (ws : List Int) (hw : ws.length = n) (sl fr : Int) : Evt (fun k => emit_Of.f k (goodOf raw) ws sl fr) (emitL fr ws (goodOf raw), true) := by
  unfold emit_Of.f
  refine Evt.bind (f := fun g k => if g = true then (code_Values.f k (goodOf raw)).bind fun n => if (ws.length : Int) = n then (if efit (goodOf raw) ws.length = true then some (emitL fr ws (goodOf raw), true) else none) else some ([], false) else some ([], false)) (goodOf_yes raw) ?_
  simp only [if_true]
  refine Evt.bind (f := fun n k => if (ws.length : Int) = n then (if efit (goodOf raw) ws.length = true then some (emitL fr ws (goodOf raw), true) else none) else some ([], false)) hv (Evt.const fun k => ?_)
  rw [if_pos (by omega), hw, if_pos hf]
theorem emit_len (raw : List S37) {n : Nat} (hv : Evt (fun k => code_Values.f k (goodOf raw)) (n : Int)) (ws : List Int) (hw : ws.length ≠ n) (sl fr : Int) : Evt (fun k => emit_Of.f k (goodOf raw) ws sl fr) ([], false) := by
  unfold emit_Of.f
  refine Evt.bind (f := fun g k => if g = true then (code_Values.f k (goodOf raw)).bind fun n => if (ws.length : Int) = n then (if efit (goodOf raw) ws.length = true then some (emitL fr ws (goodOf raw), true) else none) else some ([], false) else some ([], false)) (goodOf_yes raw) ?_
  simp only [if_true]
  refine Evt.bind (f := fun n k => if (ws.length : Int) = n then (if efit (goodOf raw) ws.length = true then some (emitL fr ws (goodOf raw), true) else none) else some ([], false)) hv (Evt.const fun k => ?_)
  rw [if_neg (by omega)]
theorem emit_bad (l : List S37) (hg : Evt (fun k => code_Good.f k l) false) (ws : List Int) (sl fr : Int) : Evt (fun k => emit_Of.f k l ws sl fr) ([], false) := by
  unfold emit_Of.f
  exact Evt.bind (f := fun g k => if g = true then (code_Values.f k l).bind fun n => if (ws.length : Int) = n then (if efit l ws.length = true then some (emitL fr ws l, true) else none) else some ([], false) else some ([], false)) hg (Evt.const fun k => by rw [if_neg (by decide)])
end Go.Proofs.YtepgpapljoelhaaDoor.PE
