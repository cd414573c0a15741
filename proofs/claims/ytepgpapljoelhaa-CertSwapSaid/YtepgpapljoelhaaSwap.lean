/- The plain law of CertSwap. -/
import Derived.Test.YtepgpapljoelhaaUps
import Derived.Test.YtepgpapljoelhaaPAx11
namespace Go.Proofs.Ytepgpapljoelhaa.PA
open Go.RowKit Go.Proofs.YtepgpapljoelhaaW.PrintWords
set_option linter.unusedVariables false
set_option linter.unusedSimpArgs false

/-! CertSwap -/
def swp (a b w : Int) : Int := if w = a then b else if w = b then a else w
theorem swp_inj {a b u v : Int} (h : swp a b u = swp a b v) : u = v := by
  unfold swp at h
  by_cases c1 : u = a <;> by_cases c2 : v = a <;> by_cases c3 : u = b <;> by_cases c4 : v = b <;> simp [c1, c2, c3, c4] at h ⊢ <;> omega
theorem pls_ups (wh : List Int) (n : Nat) : plsOf wh n = ups (plOf wh) n := rfl
theorem okAt_swap {l : List S37} {wh : List Int} {rows : List (List Int)} {n : Nat} (a b : Int) (hg : GFit l (ups (plOf wh) n) rows) {i : Nat} (hi : i < l.length) :
    okAt l (ups (fun i => swp a b (plOf wh i)) n) rows i = okAt l (ups (plOf wh) n) rows i := by
  have hlen := hg.len
  have hrd : ∀ v : Int, 0 ≤ v → v < (n : Int) → rd (ups (fun i => swp a b (plOf wh i)) n) v = swp a b (rd (ups (plOf wh) n) v) := fun v h0 h1 => by
    obtain ⟨j, rfl⟩ := Int.eq_ofNat_of_zero_le h0
    rw [rd_ups _ n j (by omega), rd_ups _ n j (by omega)]
  have hR : InR (ups (plOf wh) n) rows := hg.rows
  have hin : ∀ m : Int, 0 ≤ m → m < (l.length : Int) → ∀ v ∈ rd_L3 rows m, 0 ≤ v ∧ v < (n : Int) := fun m h0 h1 v hv => by
    have := (hR _ (rdL3_mem h0 (by omega))).2 v hv
    rw [ups_len] at this
    exact this
  have e1 : decide (plc (ups (fun i => swp a b (plOf wh i)) n) (rd_L3 rows (i : Int)) (rd_L3 rows (i : Int)).length).Nodup = decide (plc (ups (plOf wh) n) (rd_L3 rows (i : Int)) (rd_L3 rows (i : Int)).length).Nodup := by
    rw [Bool.eq_iff_iff, decide_eq_true_eq, decide_eq_true_eq]
    unfold plc
    rw [List.take_length]
    have hm := hin (i : Int) (by omega) (by omega)
    have e : List.map (rd (ups (fun i => swp a b (plOf wh i)) n)) (rd_L3 rows (i : Int)) = (List.map (rd (ups (plOf wh) n)) (rd_L3 rows (i : Int))).map (swp a b) := by
      rw [List.map_map]
      exact List.map_congr_left fun v hv => hrd v (hm v hv).1 (hm v hv).2
    rw [e]
    unfold List.Nodup
    rw [List.pairwise_map]
    constructor
    · exact fun h => h.imp (fun {x y} q e => q (by rw [e]))
    · exact fun h => h.imp (fun {x y} q e => q (swp_inj e))
  unfold okAt
  rw [e1]
  cases hd : db (rd_T37 l (i : Int)) with
  | false => rfl
  | true =>
    have hc' : rd_T37 l (i : Int) ∈ l := by rw [rdT_at l i hi]; exact List.getElem_mem _
    have h1 := hg.defs _ hc' hd
    rw [ups_len] at h1
    have e2 : (nextOf (rd_T37 l (i : Int)) (i : Int) (l.length : Int)).any (fun m => (rd_L3 rows m).any (clash (ups (fun i => swp a b (plOf wh i)) n) (dv (rd_T37 l (i : Int))))) = (nextOf (rd_T37 l (i : Int)) (i : Int) (l.length : Int)).any (fun m => (rd_L3 rows m).any (clash (ups (plOf wh) n) (dv (rd_T37 l (i : Int))))) := by
      refine any_same _ ?_
      intro m hm
      have hmr := next_range (rd_T37 l (i : Int)) (i : Int) (l.length : Int) (by omega) m hm
      refine any_same _ ?_
      intro v hv
      have hv' := hin m hmr.1 hmr.2 v hv
      unfold clash
      rw [hrd v hv'.1 hv'.2, hrd _ h1.1 h1.2]
      congr 1
      rw [Bool.eq_iff_iff, decide_eq_true_eq, decide_eq_true_eq]
      exact ⟨fun e => swp_inj e, fun e => by rw [e]⟩
    rw [e2]
theorem inW_128 {w : Int} (h0 : -128 ≤ w) (h1 : w ≤ 127) : inW 128 128 w = true := by
  unfold inW
  rw [w64 (by omega) (by omega), decide_eq_false (by omega), decide_eq_false (by omega)]
  rfl
theorem swap_l0 (raw : List S37) (wh : List Int) (a b : Int) (hw : ∀ y ∈ wh, (Lit.int .i8 y).wf = true) (h0 : -128 ≤ a) (h1 : a ≤ 127) (h2 : -128 ≤ b) (h3 : b ≤ 127) (n : Nat) (hn : valsOf (smallOf raw) = (n : Int)) :
    ∀ (d j : Nat), j + d = n → Evt (fun k => tautochronelaw18_CertSwap.l0 k wh a b (smallOf raw) (ups (plOf wh) j) (ups (fun i => swp a b (plOf wh i)) j) (j : Int)) true
  | 0, j, hj => by
    obtain rfl : j = n := by omega
    have h8 := vals_le raw
    obtain ⟨rows, hr, _⟩ := live_Of_some (offit_small raw)
    have hbd : ∀ i, i < 8 → -128 ≤ plOf wh i ∧ plOf wh i ≤ 127 := fun i hi => plOf_bd hw hi
    have hbs : ∀ i, i < 8 → -128 ≤ swp a b (plOf wh i) ∧ swp a b (plOf wh i) ≤ 127 := fun i hi => by
      have := hbd i hi
      unfold swp
      split
      · omega
      · split <;> omega
    have hl : ((ups (plOf wh) j).length : Int) = valsOf (smallOf raw) := by rw [ups_len, hn]
    have hl' : ((ups (fun i => swp a b (plOf wh i)) j).length : Int) = valsOf (smallOf raw) := by rw [ups_len, hn]
    have hwf := ups_wf (f := plOf wh) (n := j) (fun i hi => by have := hbd i hi; omega) (by omega)
    have hg := good_small raw (ups (plOf wh) j) hl hwf hr 128 128
    have hg' := good_small raw (ups (fun i => swp a b (plOf wh i)) j) hl' (ups_wf (f := fun i => swp a b (plOf wh i)) (fun i hi => by have := hbs i hi; omega) (by omega)) hr 128 128
    rw [all_ups (p := inW 128 128) (fun i hi => inW_128 (hbd i (by omega)).1 (hbd i (by omega)).2), Bool.true_and] at hg
    rw [all_ups (f := fun i => swp a b (plOf wh i)) (p := inW 128 128) (fun i hi => inW_128 (hbs i (by omega)).1 (hbs i (by omega)).2), Bool.true_and] at hg'
    have e : (List.range (smallOf raw).length).all (okAt (smallOf raw) (ups (fun i => swp a b (plOf wh i)) j) rows) = (List.range (smallOf raw).length).all (okAt (smallOf raw) (ups (plOf wh) j) rows) := by
      refine all_same _ ?_
      intro i hi
      exact okAt_swap a b (gfit_small raw hr hl hwf) (List.mem_range.1 hi)
    rw [e] at hg'
    refine Evt.step3 (vals_small raw) hg hg' fun k hv ha hb => ?_
    rw [tautochronelaw18_CertSwap.l0, hv, Option.bind_some, if_neg (by omega), ha, Option.bind_some, hb, Option.bind_some, beq_self_eq_true]
  | d + 1, j, hj => by
    have h8 := vals_le raw
    have ih := swap_l0 raw wh a b hw h0 h1 h2 h3 n hn d (j + 1) (by omega)
    have hwr : wrap64 ((j : Int) + 1) = ((j + 1 : Nat) : Int) := by rw [w64 (by omega) (by omega)]; omega
    have hj1 : Evt (fun k => tautochronelaw18_CertSwap.j1 k wh a b (smallOf raw) (ups (plOf wh) j) (ups (fun i => swp a b (plOf wh i)) j) (j : Int) (plOf wh j)) true := by
      refine Evt.succ (fun k => ?_) ih
      rw [tautochronelaw18_CertSwap.j1, if_pos (by rw [ups_len]; omega), Option.bind_some, w64 (x := a) (by omega) (by omega), w64 (x := b) (by omega) (by omega), hwr, ups_succ, ups_succ]
      by_cases c1 : plOf wh j = a
      · rw [if_pos c1, if_pos (by rw [ups_len]; omega)]
        simp only [swp, if_pos c1]
      · by_cases c2 : plOf wh j = b
        · rw [if_neg c1, if_pos c2, if_pos (by rw [ups_len]; omega)]
          simp only [swp, if_neg c1, if_pos c2]
        · rw [if_neg c1, if_neg c2, if_pos (by rw [ups_len]; omega)]
          simp only [swp, if_neg c1, if_neg c2]
    refine Evt.step (vals_small raw) hj1 fun k hv => ?_
    rw [tautochronelaw18_CertSwap.l0, hv, Option.bind_some, if_pos (by omega)]
    by_cases c : (j : Int) < (wh.length : Int)
    · have hb := w8 (hw _ (rd_mem (xs := wh) (i := (j : Int)) (by omega) c))
      have e : plOf wh j = wrap64 (rd wh (j : Int)) := by unfold plOf; rw [if_pos (by omega), w64 (by omega) (by omega)]
      rw [if_pos c, if_pos (by omega), e]
    · have e : plOf wh j = (j : Int) := by unfold plOf; rw [if_neg (by omega)]
      rw [if_neg c, e]
theorem certSwap_evt (raw : List S37) (wh : List Int) (a b : Int) (hw : ∀ y ∈ wh, (Lit.int .i8 y).wf = true) (h0 : -128 ≤ a) (h1 : a ≤ 127) (h2 : -128 ≤ b) (h3 : b ≤ 127) : Evt (fun k => tautochronelaw18_CertSwap.f k raw wh a b) true := by
  obtain ⟨n, hn⟩ := vals_nat raw
  have hl := swap_l0 raw wh a b hw h0 h1 h2 h3 n hn n 0 (by omega)
  refine Evt.congr (fun k => ?_) (Evt.bind (f := fun t k => if t = true then ((tautochronelaw13_Small.f k raw).bind fun t275 => (tautochronelaw18_CertSwap.l0 k wh a b t275 ([] : List Int) ([] : List Int) 0)) else (some false)) awake_evt ?_) (r := true)
  · rfl
  · simp only [if_true]
    exact Evt.bind (f := fun t k => tautochronelaw18_CertSwap.l0 k wh a b t ([] : List Int) ([] : List Int) 0) (small_eq raw) hl
end Go.Proofs.Ytepgpapljoelhaa.PA
