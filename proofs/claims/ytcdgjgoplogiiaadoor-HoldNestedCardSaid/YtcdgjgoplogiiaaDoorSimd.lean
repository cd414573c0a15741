/- (*parser).simple: statements that begin with a name. -/
import Derived.Test.YtcdgjgoplogiiaaDoorSimp
namespace Go.Proofs.YtcdgjgoplogiiaaDoor.PT
open Go.RowKit Go.Lib
set_option linter.unusedVariables false
set_option linter.unusedSimpArgs false
theorem newc {w : World} {B : Nat} {g n c : Nat} {xs : List Value} (h : w.ownsRow B TE 6 (.slice (some ⟨g, 0, none⟩) (n + 1) c) (n + 1) (xs ++ ze.cells)) (hl : xs.length = n * 6) :
    (w.cell? ⟨g, n * 6, none⟩ = some (.int .i64 0) ∧ w.frozen? ⟨g, n * 6, none⟩ = false) ∧ (w.cell? ⟨g, n * 6 + 1, none⟩ = some (.int .i64 0) ∧ w.frozen? ⟨g, n * 6 + 1, none⟩ = false) ∧ (w.cell? ⟨g, n * 6 + 2, none⟩ = some (.string ⟨#[]⟩) ∧ w.frozen? ⟨g, n * 6 + 2, none⟩ = false) ∧ (w.cell? ⟨g, n * 6 + 3, none⟩ = some (.int .u64 0) ∧ w.frozen? ⟨g, n * 6 + 3, none⟩ = false) ∧ (w.cell? ⟨g, n * 6 + 4, none⟩ = some (.slice none 0 0) ∧ w.frozen? ⟨g, n * 6 + 4, none⟩ = false) ∧ (w.cell? ⟨g, n * 6 + 5, none⟩ = some (.int .i64 0) ∧ w.frozen? ⟨g, n * 6 + 5, none⟩ = false) := by
  have hrow := Row.own h g c rfl
  obtain ⟨cur, hc⟩ := (own_blk h (r := g) rfl).2
  have at' : ∀ j u, ze.cells[j]? = some u → w.cell? ⟨g, n * 6 + j, none⟩ = some u := fun j u hj => hrow.cell (by rw [List.getElem?_append_right (by omega), hl, show n * 6 + j - n * 6 = j by omega]; exact hj)
  exact ⟨⟨at' 0 _ rfl, blk_frozen hc _⟩, ⟨at' 1 _ rfl, blk_frozen hc _⟩, ⟨at' 2 _ rfl, blk_frozen hc _⟩, ⟨at' 3 _ rfl, blk_frozen hc _⟩, ⟨at' 4 _ rfl, blk_frozen hc _⟩, ⟨at' 5 _ rfl, blk_frozen hc _⟩⟩
set_option maxRecDepth 100000 in
set_option maxHeartbeats 8000000 in
theorem simple_assign (d : Nat) (hr : ExprP d) (b g c : Nat) (ts : List Tok) (q : PS) (dp S : Nat) (p : Int) (w : World) (hdp : dp + d = 40) (hts : Toks ts) (h : PM w b g c ts q dp) (hS : w.heap[S]? = some (.cells (sv0 p).cells.toArray TS (0, 0))) (hi0 : isp ts ⟨#[108, 111, 99, 97, 108]⟩ q = false) (hi1 : isp ts ⟨#[116, 97, 107, 101]⟩ q = false) (hi2 : isp ts ⟨#[103, 105, 118, 101]⟩ q = false) (hi3 : isp ts ⟨#[97, 100, 100]⟩ q = false) (hi4 : isp ts ⟨#[102, 101, 110, 99, 101]⟩ q = false) (hi5 : isp ts ⟨#[111, 117, 116, 112, 117, 116]⟩ q = false) (hib : isp ts ⟨#[91]⟩ (namep ts q).2 = false) :
    Calls Tryd.prog 83 #[.pointer (some ⟨b, 0, none⟩), .pointer (some ⟨S, 0, none⟩)] w (SPost w b g c ts (simplep ts (exprp ts d 0) p q) dp S) := by
  obtain ⟨res, hres⟩ : ∃ res, res = simplep ts (exprp ts d 0) p q := ⟨_, rfl⟩
  have e1 : res = (⟨1, (namep ts q).1, [(exprp ts d 0 (wantp ts ⟨#[61]⟩ (namep ts q).2)).1], 0, .nil, .nil, p⟩, (exprp ts d 0 (wantp ts ⟨#[61]⟩ (namep ts q).2)).2) := by rw [hres]; unfold simplep; rw [if_neg (by rw [hi0]; decide), if_neg (by rw [hi1]; decide), if_neg (by rw [hi2]; decide), if_neg (by rw [hi3]; decide), if_neg (by rw [hi4]; decide), if_neg (by rw [hi5]; decide)]; simp only [hib, if_true, if_false, Bool.false_eq_true]
  rw [← hres]
  have HRES := Lib.hid e1
  have HT0 := Lib.hid (take_no (x := ⟨#[108, 111, 99, 97, 108]⟩) (dp := dp) (b := b) (g := g) (c := c) hts hi0)
  have HT1 := Lib.hid (take_no (x := ⟨#[116, 97, 107, 101]⟩) (dp := dp) (b := b) (g := g) (c := c) hts hi1)
  have HT2 := Lib.hid (take_no (x := ⟨#[103, 105, 118, 101]⟩) (dp := dp) (b := b) (g := g) (c := c) hts hi2)
  have HT3 := Lib.hid (take_no (x := ⟨#[97, 100, 100]⟩) (dp := dp) (b := b) (g := g) (c := c) hts hi3)
  have HT4 := Lib.hid (take_no (x := ⟨#[102, 101, 110, 99, 101]⟩) (dp := dp) (b := b) (g := g) (c := c) hts hi4)
  have HT5 := Lib.hid (take_no (x := ⟨#[111, 117, 116, 112, 117, 116]⟩) (dp := dp) (b := b) (g := g) (c := c) hts hi5)
  have HTB := Lib.hid (take_no (x := ⟨#[91]⟩) (dp := dp) (b := b) (g := g) (c := c) hts hib)
  have HT := Lib.hid hts
  have HREC := Lib.hid hr
  have HI := Lib.hid (SI.start h hS)
  have hSl := lt_heap hS
  clear hts hr h hS e1 hres hib hi0 hi1 hi2 hi3 hi4 hi5
  go_enter Tryd.func83, Tryd.ntmps83
  go_wp2_with fail
  refine (HT0.out _ HI.out.pm).mono ?_
  rintro e w1 ⟨rfl, hp⟩
  have HI1 := Lib.hid (HI.out.go hp)
  clear hp
  go_wp2_with fail
  refine (HT1.out _ HI1.out.pm).mono ?_
  rintro e w2 ⟨rfl, hp⟩
  have HI2 := Lib.hid (HI1.out.go hp)
  clear hp
  go_wp2_with fail
  refine (HT2.out _ HI2.out.pm).mono ?_
  rintro e w3 ⟨rfl, hp⟩
  have HI3 := Lib.hid (HI2.out.go hp)
  clear hp
  go_wp2_with fail
  refine (HT3.out _ HI3.out.pm).mono ?_
  rintro e w4 ⟨rfl, hp⟩
  have HI4 := Lib.hid (HI3.out.go hp)
  clear hp
  go_wp2_with fail
  refine (HT4.out _ HI4.out.pm).mono ?_
  rintro e w5 ⟨rfl, hp⟩
  have HI5 := Lib.hid (HI4.out.go hp)
  clear hp
  go_wp2_with fail
  refine (HT5.out _ HI5.out.pm).mono ?_
  rintro e w6 ⟨rfl, hp⟩
  have HI6 := Lib.hid (HI5.out.go hp)
  clear hp
  go_wp2_with fail
  refine (name_calls b g c ts q dp HT.out _ HI6.out.pm).mono ?_
  rintro e w7 ⟨rfl, hp⟩
  have HI7 := Lib.hid (HI6.out.go hp)
  clear hp
  obtain ⟨y0, y1, y2, y3, y4, y5, y6⟩ := cells7 (x := (sv0 p)) HI7.out.blk
  obtain ⟨m0, m1, m2, m3, m4, m5, m6⟩ := free7 HI7.out.blk
  go_wp2_with fail
  obtain ⟨WA, hWA⟩ : ∃ WA, WA = ((w7.setCell ⟨S, 0, none⟩ (.int .i64 1)).setCell ⟨S, 1, none⟩ (.string (namep ts q).1)) := ⟨_, rfl⟩
  have HIA : Hid (SI w b g c ts dp S { sv0 p with k := 1, s := (namep ts q).1 } [] [] (namep ts q).2 WA) := Lib.hid (by rw [hWA]; exact HI7.out.kn 1 (namep ts q).1)
  show Calls _ _ _ ((w7.setCell ⟨S, 0, none⟩ (.int .i64 1)).setCell ⟨S, 1, none⟩ (.string (namep ts q).1)) _
  rw [← hWA]
  clear hWA
  clear y0 y1 y2 y3 y4 y5 y6 m0 m1 m2 m3 m4 m5 m6
  refine (HTB.out _ HIA.out.pm).mono ?_
  rintro e WB ⟨rfl, hp⟩
  have HIB := Lib.hid (HIA.out.go hp)
  clear hp
  go_wp2_with fail
  refine (want_calls b g c ts (namep ts q).2 dp HT.out ⟨#[61]⟩ WB HIB.out.pm).mono ?_
  rintro e WR ⟨rfl, hp⟩
  have HIW := Lib.hid (HIB.out.go hp)
  clear hp
  go_wp2_with fail
  have HPD : Hid (PM WR.drew b g c ts (wantp ts ⟨#[61]⟩ (namep ts q).2) dp) := Lib.hid (HIW.out.pm.keep fun _ _ => rfl)
  have HPZ : Hid (PM (WR.alloc (.cells z31 TE)).drew b g c ts (wantp ts ⟨#[61]⟩ (namep ts q).2) dp) := Lib.hid ((HIW.out.pm.alloc (.cells z31 TE)).keep fun _ _ => rfl)
  have e4 : WR.cell? ⟨S, 2, none⟩ = some (.slice none 0 0) := (cells7 (x := { sv0 p with k := 1, s := (namep ts q).1 }) HIW.out.blk).2.2.1
  obtain ⟨i0, hi, hz0, hz1, hz2⟩ := info_parts infoTE
  have hwS := HIW.out.gb.size
  have hSl := HIW.out.lt
  have HW2 := Lib.hid (HIW.out)
  clear HIW
  refine wp_region_S [(8, fun w' => w'.cell? ⟨S, 2, none⟩ = some (.slice none 0 0))] (by kernel_rfl) (SL.cons (cell_dr e4) SL.nil) (fun hS => ?_)
  (refine wpAnyS_free 0 (v := ?_) rfl (by kernel_rfl) (by kernel_rfl) (by kernel_rfl) (by simp) (fun _ _ _ h => h) (Or.inl ⟨by rfl, ?_⟩) hS (fun hS => ?_); rotate_left; · ((intro w; go_simp) <;> with_reducible rfl); try simp only [Act.put, List.setIfInBounds_toArray, List.set_cons_zero, List.set_cons_succ])
  (refine wpAnyS_free 1 (v := ?_) rfl (by kernel_rfl) (by kernel_rfl) (by kernel_rfl) (by simp) (fun _ _ _ h => h) (Or.inl ⟨by rfl, ?_⟩) hS (fun hS => ?_); rotate_left; · ((intro w; go_simp) <;> with_reducible rfl); try simp only [Act.put, List.setIfInBounds_toArray, List.set_cons_zero, List.set_cons_succ])
  (refine wpAnyS_free 2 (v := ?_) rfl (by kernel_rfl) (by kernel_rfl) (by kernel_rfl) (by simp) (fun _ _ _ h => h) (Or.inl ⟨by rfl, ?_⟩) hS (fun hS => ?_); rotate_left; · ((intro w; go_simp) <;> with_reducible rfl); try simp only [Act.put, List.setIfInBounds_toArray, List.set_cons_zero, List.set_cons_succ])
  (refine wpAnyS_load 3 8 (v := ?_) (List.mem_singleton.2 rfl) rfl (by kernel_rfl) (by kernel_rfl) (by kernel_rfl) (by kernel_rfl) (by kernel_rfl) (by simp) (fun _ _ _ h => h) (Or.inl ⟨by rfl, ?_⟩) hS (fun hS => ?_); rotate_left; · ((intro w hSw; (try dsimp only at hSw); go_simp) <;> with_reducible rfl); try simp only [Act.put, List.setIfInBounds_toArray, List.set_cons_zero, List.set_cons_succ])
  (refine wpAnyS_free 4 (v := ?_) rfl (by kernel_rfl) (by kernel_rfl) (by kernel_rfl) (by simp) (fun _ _ _ h => h) (Or.inl ⟨by rfl, ?_⟩) hS (fun hS => ?_); rotate_left; · ((intro w; go_simp) <;> with_reducible rfl); try simp only [Act.put, List.setIfInBounds_toArray, List.set_cons_zero, List.set_cons_succ])
  (refine wpAnyS_free 6 (v := ?_) rfl (by kernel_rfl) (by kernel_rfl) (by kernel_rfl) (by simp) (fun _ _ _ h => h) (Or.inl ⟨by rfl, ?_⟩) hS (fun hS => ?_); rotate_left; · ((intro w; go_simp) <;> with_reducible rfl); try simp only [Act.put, List.setIfInBounds_toArray, List.set_cons_zero, List.set_cons_succ])
  refine wpAnyS_two 5 7 rfl rfl (by kernel_rfl) (by rfl) (by rfl) (fun K hK => ?_) (fun K hK => ?_)
  · go_simp
    refine (HREC.out 0 b g c ts (wantp ts ⟨#[61]⟩ (namep ts q).2) dp WR.drew (by decide) (by decide) hdp HT.out HPD.out).mono ?_
    rintro e w9 ⟨y, rfl, hat, hp9⟩
    have HP9 : Hid (PT WR b g c ts (exprp ts d 0 (wantp ts ⟨#[61]⟩ (namep ts q).2)).2 dp w9) := Lib.hid ⟨hp9.1, ⟨hp9.2.os, hp9.2.tape, hp9.2.output, hp9.2.size, hp9.2.block⟩⟩
    have HAT9 : Hid (At (exprp ts d 0 (wantp ts ⟨#[61]⟩ (namep ts q).2)).1 (fun k => WR.heap.size ≤ k) w9 y) := Lib.hid hat
    clear hat hp9
    have HI9 := Lib.hid (HW2.out.go HP9.out)
    have e9 : w9.cell? ⟨S, 2, none⟩ = some (.slice none 0 0) := (cells7 (x := { sv0 p with k := 1, s := (namep ts q).1 }) HI9.out.blk).2.2.1
    refine hK.out _ _ (SL.cons e9 SL.nil) (fun hS => ?_)
    clear hK K
    try simp only [Act.put, List.setIfInBounds_toArray, List.set_cons_zero, List.set_cons_succ]
    (refine wpAnyS_one 7 rfl (by kernel_rfl) (by rfl) (fun K hK => ?_); go_simp)
    refine hK.out _ _ (SL.cons (cell_al e9 _) SL.nil) (fun hS => ?_)
    clear hK K
    try simp only [Act.put, List.setIfInBounds_toArray, List.set_cons_zero, List.set_cons_succ]
    obtain ⟨w8, hw8⟩ : ∃ w8, w8 = w9.alloc (.cells z31 TE) := ⟨_, rfl⟩
    obtain ⟨Z, hZ⟩ : ∃ Z, Z = w9.heap.size := ⟨_, rfl⟩
    have HI8 : Hid (SI w b g c ts dp S { sv0 p with k := 1, s := (namep ts q).1 } [] [] (exprp ts d 0 (wantp ts ⟨#[61]⟩ (namep ts q).2)).2 w8) := Lib.hid (by rw [hw8]; exact ⟨HI9.out.pm.alloc _, HI9.out.gb.alloc _, blk_alloc HI9.out.blk _, HI9.out.own.alloc _, HI9.out.fa.mono (fun _ h _ => h) (fun i _ hi => Below.heap_alloc _ _ _ hi), HI9.out.lt⟩)
    have HZ8 : Hid (w8.heap[Z]? = some (.cells z31 TE (0, 0))) := Lib.hid (by rw [hw8, hZ]; exact blk_new _ _)
    have HA8 : Hid (At (exprp ts d 0 (wantp ts ⟨#[61]⟩ (namep ts q).2)).1 (fun i => w.heap.size ≤ i ∧ (Value.slice none 0 0).ownBlock ≠ some i) w8 y) := Lib.hid (by rw [hw8]; exact (HAT9.out.mono (fun i hi _ => ⟨by omega, fun e => by have := lt_heap (own_blk HW2.out.own e).2.choose_spec; omega⟩) (fun _ _ _ => rfl)).alloc _)
    have e8 : w8.cell? ⟨S, 2, none⟩ = some (.slice none 0 0) := by rw [hw8]; exact cell_al e9 _
    clear e9
    simp only [← hZ] at hS ⊢
    rw [← hw8] at hS ⊢
    clear hw8 hZ
    (refine wpAnyS_one 8 rfl (by kernel_rfl) (by rfl) (fun K hK => ?_); refine wp_append_lies _ (.tmp 30) (.tmp 34) 40 (by rfl) w.heap.size TE i0 (.agg #[.int .i64 0, .int .i64 0, .string ByteArray.empty, .int .u64 0, .slice none 0 0, .int .i64 0]) 6 72 Tryd.underlying40 hi hz0 hz1 hz2 (by rfl) (by decide) (.slice none 0 0) 0 (List.flatMap EV.cells []) (by rfl) HI8.out.own ⟨Z, 0, none⟩ 1 1 ze.cells (by rfl) (by rfl) (World.news_of_block HZ8.out) (ev_one ze) (by decide) (by unfold maxLen; omega) (by omega) HI8.out.gb.size w8.heap.size rfl ?_; intro g' cap' w10 hown hgrow hor hlt)
    have HAPP : Hid (∀ W2, (W2 = (set6o w10 g' (0 * 6) y).setCell ⟨S, 2, none⟩ (.slice (some ⟨g', 0, none⟩) (0 + 1) cap') ∨ W2 = set6o (w10.setCell ⟨S, 2, none⟩ (.slice (some ⟨g', 0, none⟩) (0 + 1) cap')) g' (0 * 6) y) → SI w b g c ts dp S { { sv0 p with k := 1, s := (namep ts q).1 } with eA := some ⟨g', 0, none⟩, en := 0 + 1, ec := cap' } ([] ++ [(exprp ts d 0 (wantp ts ⟨#[61]⟩ (namep ts q).2)).1]) ([] ++ [y]) (exprp ts d 0 (wantp ts ⟨#[61]⟩ (namep ts q).2)).2 W2) := Lib.hid (fun W2 hW => HI8.out.app HA8.out hown hgrow hor hW)
    have hrow : ∀ r, (Value.slice none 0 0).ownBlock = some r → w.heap.size ≤ r := fun r hr => (own_blk HI8.out.own hr).1
    have hSne : some S ≠ (Value.slice none 0 0).ownBlock := fun e => by have := hrow S e.symm; omega
    obtain ⟨k0, k1, k2, k3, k4, k5, k6⟩ := free7 (HI8.out.blk)
    have e10 : w10.cell? ⟨S, 2, none⟩ = some (.slice none 0 0) := (hgrow.cell_far ⟨S, 2, none⟩ (lt_heap HI8.out.blk) hSne).trans e8
    have f10 : w10.frozen? ⟨S, 2, none⟩ = false := (hgrow.frozen_far ⟨S, 2, none⟩ (lt_heap HI8.out.blk) hSne).trans k2
    have hg0 : w.heap.size ≤ g' := by rcases hor with e | e; exact hrow g' e; have := HI8.out.gb.size; omega
    have hgS : g' ≠ S := by omega
    obtain ⟨n0, n1, n2, n3, n4, n5⟩ := newc hown rfl
    refine hK.out _ _ (SL.past (by kernel_rfl) SL.nil) (fun hS => ?_)
    clear hK K
    try simp only [Act.put, List.setIfInBounds_toArray, List.set_cons_zero, List.set_cons_succ]
    clear hown hgrow hor hrow hSne k0 k1 k2 k3 k4 k5 k6 e8
    (refine wpAnyS_free 9 (v := ?_) rfl (by kernel_rfl) (by kernel_rfl) (by kernel_rfl) (by simp) (fun _ _ _ h => h) (Or.inl ⟨by rfl, ?_⟩) hS (fun hS => ?_); rotate_left; · ((intro w; go_simp) <;> with_reducible rfl); try simp only [Act.put, List.setIfInBounds_toArray, List.set_cons_zero, List.set_cons_succ])
    (refine wpAnyS_free 11 (v := ?_) rfl (by kernel_rfl) (by kernel_rfl) (by kernel_rfl) (by simp) (fun _ _ _ h => h) (Or.inl ⟨by rfl, ?_⟩) hS (fun hS => ?_); rotate_left; · ((intro w; go_simp) <;> with_reducible rfl); try simp only [Act.put, List.setIfInBounds_toArray, List.set_cons_zero, List.set_cons_succ])
    (refine wpAnyS_free 12 (v := ?_) rfl (by kernel_rfl) (by kernel_rfl) (by kernel_rfl) (by simp) (fun _ _ _ h => h) (Or.inl ⟨by rfl, ?_⟩) hS (fun hS => ?_); rotate_left; · ((intro w; go_simp) <;> with_reducible rfl); try simp only [Act.put, List.setIfInBounds_toArray, List.set_cons_zero, List.set_cons_succ])
    refine wpAnyS_two 10 13 rfl rfl (by kernel_rfl) (by rfl) (by rfl) (fun K hK => ?_) (fun K hK => ?_)
    · go_simp
      refine hK.out _ _ (SL.past (by kernel_rfl) SL.nil) (fun hS => ?_)
      clear hK K
      try simp only [Act.put, List.setIfInBounds_toArray, List.set_cons_zero, List.set_cons_succ]
      (refine wpAnyS_one 13 rfl (by kernel_rfl) (by rfl) (fun K hK => ?_); go_simp)
      refine hK.out _ _ (SL.past (by kernel_rfl) SL.nil) (fun hS => ?_)
      clear hK K
      try simp only [Act.put, List.setIfInBounds_toArray, List.set_cons_zero, List.set_cons_succ]
      refine wpAnyS_done (by kernel_rfl) ?_ _
      go_wp2
      go_end0
      exact (HAPP.out _ (.inl rfl)).post HRES.out rfl rfl rfl ⟨rfl, rfl, rfl⟩ ⟨rfl, rfl, rfl⟩ rfl
    · go_simp
      refine hK.out _ _ (SL.past (by kernel_rfl) SL.nil) (fun hS => ?_)
      clear hK K
      try simp only [Act.put, List.setIfInBounds_toArray, List.set_cons_zero, List.set_cons_succ]
      (refine wpAnyS_one 10 rfl (by kernel_rfl) (by rfl) (fun K hK => ?_); go_simp)
      refine hK.out _ _ (SL.past (by kernel_rfl) SL.nil) (fun hS => ?_)
      clear hK K
      try simp only [Act.put, List.setIfInBounds_toArray, List.set_cons_zero, List.set_cons_succ]
      refine wpAnyS_done (by kernel_rfl) ?_ _
      go_wp2
      go_end0
      exact (HAPP.out _ (.inr rfl)).post HRES.out rfl rfl rfl ⟨rfl, rfl, rfl⟩ ⟨rfl, rfl, rfl⟩ rfl
  · go_simp
    refine hK.out _ _ (SL.cons (cell_dr (cell_al e4 _)) SL.nil) (fun hS => ?_)
    clear hK K
    try simp only [Act.put, List.setIfInBounds_toArray, List.set_cons_zero, List.set_cons_succ]
    (refine wpAnyS_one 5 rfl (by kernel_rfl) (by rfl) (fun K hK => ?_); go_simp)
    refine (HREC.out 0 b g c ts (wantp ts ⟨#[61]⟩ (namep ts q).2) dp (WR.alloc (.cells z31 TE)).drew (by decide) (by decide) hdp HT.out HPZ.out).mono ?_
    rintro e w8 ⟨y, rfl, hat, hp9⟩
    have HP9 : Hid (PT (WR.alloc (.cells z31 TE)) b g c ts (exprp ts d 0 (wantp ts ⟨#[61]⟩ (namep ts q).2)).2 dp w8) := Lib.hid ⟨hp9.1, ⟨hp9.2.os, hp9.2.tape, hp9.2.output, hp9.2.size, hp9.2.block⟩⟩
    obtain ⟨Z, hZ⟩ : ∃ Z, Z = WR.heap.size := ⟨_, rfl⟩
    have HI7 : Hid (SI w b g c ts dp S { sv0 p with k := 1, s := (namep ts q).1 } [] [] (wantp ts ⟨#[61]⟩ (namep ts q).2) (WR.alloc (.cells z31 TE))) := Lib.hid ⟨HW2.out.pm.alloc _, HW2.out.gb.alloc _, blk_alloc HW2.out.blk _, HW2.out.own.alloc _, HW2.out.fa.mono (fun _ h _ => h) (fun i _ hi => Below.heap_alloc _ _ _ hi), HW2.out.lt⟩
    have HI8 := Lib.hid (HI7.out.go HP9.out)
    have HZ8 : Hid (w8.heap[Z]? = some (.cells z31 TE (0, 0))) := Lib.hid (by rw [hZ]; exact blk_pm (HW2.out.pm.alloc _) HP9.out.2 (blk_new _ _) (by decide))
    have HA8 : Hid (At (exprp ts d 0 (wantp ts ⟨#[61]⟩ (namep ts q).2)).1 (fun i => w.heap.size ≤ i ∧ (Value.slice none 0 0).ownBlock ≠ some i) w8 y) := Lib.hid (hat.mono (fun i hi _ => by have hi' : WR.heap.size + 1 ≤ i := (by simpa using hi); exact ⟨by omega, fun e => by have := lt_heap (own_blk HW2.out.own e).2.choose_spec; omega⟩) (fun _ _ _ => rfl))
    have e8 : w8.cell? ⟨S, 2, none⟩ = some (.slice none 0 0) := (cells7 (x := { sv0 p with k := 1, s := (namep ts q).1 }) HI8.out.blk).2.2.1
    clear hat hp9
    refine hK.out _ _ (SL.cons e8 SL.nil) (fun hS => ?_)
    clear hK K
    try simp only [Act.put, List.setIfInBounds_toArray, List.set_cons_zero, List.set_cons_succ]
    simp only [← hZ]
    clear hZ
    (refine wpAnyS_one 8 rfl (by kernel_rfl) (by rfl) (fun K hK => ?_); refine wp_append_lies _ (.tmp 30) (.tmp 34) 40 (by rfl) w.heap.size TE i0 (.agg #[.int .i64 0, .int .i64 0, .string ByteArray.empty, .int .u64 0, .slice none 0 0, .int .i64 0]) 6 72 Tryd.underlying40 hi hz0 hz1 hz2 (by rfl) (by decide) (.slice none 0 0) 0 (List.flatMap EV.cells []) (by rfl) HI8.out.own ⟨Z, 0, none⟩ 1 1 ze.cells (by rfl) (by rfl) (World.news_of_block HZ8.out) (ev_one ze) (by decide) (by unfold maxLen; omega) (by omega) HI8.out.gb.size w8.heap.size rfl ?_; intro g' cap' w10 hown hgrow hor hlt)
    have HAPP : Hid (∀ W2, (W2 = (set6o w10 g' (0 * 6) y).setCell ⟨S, 2, none⟩ (.slice (some ⟨g', 0, none⟩) (0 + 1) cap') ∨ W2 = set6o (w10.setCell ⟨S, 2, none⟩ (.slice (some ⟨g', 0, none⟩) (0 + 1) cap')) g' (0 * 6) y) → SI w b g c ts dp S { { sv0 p with k := 1, s := (namep ts q).1 } with eA := some ⟨g', 0, none⟩, en := 0 + 1, ec := cap' } ([] ++ [(exprp ts d 0 (wantp ts ⟨#[61]⟩ (namep ts q).2)).1]) ([] ++ [y]) (exprp ts d 0 (wantp ts ⟨#[61]⟩ (namep ts q).2)).2 W2) := Lib.hid (fun W2 hW => HI8.out.app HA8.out hown hgrow hor hW)
    have hrow : ∀ r, (Value.slice none 0 0).ownBlock = some r → w.heap.size ≤ r := fun r hr => (own_blk HI8.out.own hr).1
    have hSne : some S ≠ (Value.slice none 0 0).ownBlock := fun e => by have := hrow S e.symm; omega
    obtain ⟨k0, k1, k2, k3, k4, k5, k6⟩ := free7 (HI8.out.blk)
    have e10 : w10.cell? ⟨S, 2, none⟩ = some (.slice none 0 0) := (hgrow.cell_far ⟨S, 2, none⟩ (lt_heap HI8.out.blk) hSne).trans e8
    have f10 : w10.frozen? ⟨S, 2, none⟩ = false := (hgrow.frozen_far ⟨S, 2, none⟩ (lt_heap HI8.out.blk) hSne).trans k2
    have hg0 : w.heap.size ≤ g' := by rcases hor with e | e; exact hrow g' e; have := HI8.out.gb.size; omega
    have hgS : g' ≠ S := by omega
    obtain ⟨n0, n1, n2, n3, n4, n5⟩ := newc hown rfl
    refine hK.out _ _ (SL.past (by kernel_rfl) SL.nil) (fun hS => ?_)
    clear hK K
    try simp only [Act.put, List.setIfInBounds_toArray, List.set_cons_zero, List.set_cons_succ]
    clear hown hgrow hor hrow hSne k0 k1 k2 k3 k4 k5 k6 e8
    (refine wpAnyS_free 9 (v := ?_) rfl (by kernel_rfl) (by kernel_rfl) (by kernel_rfl) (by simp) (fun _ _ _ h => h) (Or.inl ⟨by rfl, ?_⟩) hS (fun hS => ?_); rotate_left; · ((intro w; go_simp) <;> with_reducible rfl); try simp only [Act.put, List.setIfInBounds_toArray, List.set_cons_zero, List.set_cons_succ])
    (refine wpAnyS_free 11 (v := ?_) rfl (by kernel_rfl) (by kernel_rfl) (by kernel_rfl) (by simp) (fun _ _ _ h => h) (Or.inl ⟨by rfl, ?_⟩) hS (fun hS => ?_); rotate_left; · ((intro w; go_simp) <;> with_reducible rfl); try simp only [Act.put, List.setIfInBounds_toArray, List.set_cons_zero, List.set_cons_succ])
    (refine wpAnyS_free 12 (v := ?_) rfl (by kernel_rfl) (by kernel_rfl) (by kernel_rfl) (by simp) (fun _ _ _ h => h) (Or.inl ⟨by rfl, ?_⟩) hS (fun hS => ?_); rotate_left; · ((intro w; go_simp) <;> with_reducible rfl); try simp only [Act.put, List.setIfInBounds_toArray, List.set_cons_zero, List.set_cons_succ])
    refine wpAnyS_two 10 13 rfl rfl (by kernel_rfl) (by rfl) (by rfl) (fun K hK => ?_) (fun K hK => ?_)
    · go_simp
      refine hK.out _ _ (SL.past (by kernel_rfl) SL.nil) (fun hS => ?_)
      clear hK K
      try simp only [Act.put, List.setIfInBounds_toArray, List.set_cons_zero, List.set_cons_succ]
      (refine wpAnyS_one 13 rfl (by kernel_rfl) (by rfl) (fun K hK => ?_); go_simp)
      refine hK.out _ _ (SL.past (by kernel_rfl) SL.nil) (fun hS => ?_)
      clear hK K
      try simp only [Act.put, List.setIfInBounds_toArray, List.set_cons_zero, List.set_cons_succ]
      refine wpAnyS_done (by kernel_rfl) ?_ _
      go_wp2
      go_end0
      exact (HAPP.out _ (.inl rfl)).post HRES.out rfl rfl rfl ⟨rfl, rfl, rfl⟩ ⟨rfl, rfl, rfl⟩ rfl
    · go_simp
      refine hK.out _ _ (SL.past (by kernel_rfl) SL.nil) (fun hS => ?_)
      clear hK K
      try simp only [Act.put, List.setIfInBounds_toArray, List.set_cons_zero, List.set_cons_succ]
      (refine wpAnyS_one 10 rfl (by kernel_rfl) (by rfl) (fun K hK => ?_); go_simp)
      refine hK.out _ _ (SL.past (by kernel_rfl) SL.nil) (fun hS => ?_)
      clear hK K
      try simp only [Act.put, List.setIfInBounds_toArray, List.set_cons_zero, List.set_cons_succ]
      refine wpAnyS_done (by kernel_rfl) ?_ _
      go_wp2
      go_end0
      exact (HAPP.out _ (.inr rfl)).post HRES.out rfl rfl rfl ⟨rfl, rfl, rfl⟩ ⟨rfl, rfl, rfl⟩ rfl
set_option maxRecDepth 100000 in
set_option maxHeartbeats 8000000 in
theorem simple_store (d : Nat) (hr : ExprP d) (b g c : Nat) (ts : List Tok) (q : PS) (dp S : Nat) (p : Int) (w : World) (hdp : dp + d = 40) (hts : Toks ts) (h : PM w b g c ts q dp) (hS : w.heap[S]? = some (.cells (sv0 p).cells.toArray TS (0, 0))) (hi0 : isp ts ⟨#[108, 111, 99, 97, 108]⟩ q = false) (hi1 : isp ts ⟨#[116, 97, 107, 101]⟩ q = false) (hi2 : isp ts ⟨#[103, 105, 118, 101]⟩ q = false) (hi3 : isp ts ⟨#[97, 100, 100]⟩ q = false) (hi4 : isp ts ⟨#[102, 101, 110, 99, 101]⟩ q = false) (hi5 : isp ts ⟨#[111, 117, 116, 112, 117, 116]⟩ q = false) (hib : isp ts ⟨#[91]⟩ (namep ts q).2 = true) :
    Calls Tryd.prog 83 #[.pointer (some ⟨b, 0, none⟩), .pointer (some ⟨S, 0, none⟩)] w (SPost w b g c ts (simplep ts (exprp ts d 0) p q) dp S) := by
  obtain ⟨res, hres⟩ : ∃ res, res = simplep ts (exprp ts d 0) p q := ⟨_, rfl⟩
  have e1 : res = (⟨2, (namep ts q).1, [(exprp ts d 0 (adv (namep ts q).2)).1, (exprp ts d 0 (wantp ts ⟨#[61]⟩ (wantp ts ⟨#[93]⟩ (exprp ts d 0 (adv (namep ts q).2)).2))).1], 0, .nil, .nil, p⟩, (exprp ts d 0 (wantp ts ⟨#[61]⟩ (wantp ts ⟨#[93]⟩ (exprp ts d 0 (adv (namep ts q).2)).2))).2) := by rw [hres]; unfold simplep; rw [if_neg (by rw [hi0]; decide), if_neg (by rw [hi1]; decide), if_neg (by rw [hi2]; decide), if_neg (by rw [hi3]; decide), if_neg (by rw [hi4]; decide), if_neg (by rw [hi5]; decide)]; simp only [hib, if_true, if_false, Bool.false_eq_true]
  rw [← hres]
  have HRES := Lib.hid e1
  have HT0 := Lib.hid (take_no (x := ⟨#[108, 111, 99, 97, 108]⟩) (dp := dp) (b := b) (g := g) (c := c) hts hi0)
  have HT1 := Lib.hid (take_no (x := ⟨#[116, 97, 107, 101]⟩) (dp := dp) (b := b) (g := g) (c := c) hts hi1)
  have HT2 := Lib.hid (take_no (x := ⟨#[103, 105, 118, 101]⟩) (dp := dp) (b := b) (g := g) (c := c) hts hi2)
  have HT3 := Lib.hid (take_no (x := ⟨#[97, 100, 100]⟩) (dp := dp) (b := b) (g := g) (c := c) hts hi3)
  have HT4 := Lib.hid (take_no (x := ⟨#[102, 101, 110, 99, 101]⟩) (dp := dp) (b := b) (g := g) (c := c) hts hi4)
  have HT5 := Lib.hid (take_no (x := ⟨#[111, 117, 116, 112, 117, 116]⟩) (dp := dp) (b := b) (g := g) (c := c) hts hi5)
  have HTB := Lib.hid (take_yes (x := ⟨#[91]⟩) (dp := dp) (b := b) (g := g) (c := c) hts hib)
  have HT := Lib.hid hts
  have HREC := Lib.hid hr
  have HI := Lib.hid (SI.start h hS)
  have hSl := lt_heap hS
  clear hts hr h hS e1 hres hib hi0 hi1 hi2 hi3 hi4 hi5
  go_enter Tryd.func83, Tryd.ntmps83
  go_wp2_with fail
  refine (HT0.out _ HI.out.pm).mono ?_
  rintro e w1 ⟨rfl, hp⟩
  have HI1 := Lib.hid (HI.out.go hp)
  clear hp
  go_wp2_with fail
  refine (HT1.out _ HI1.out.pm).mono ?_
  rintro e w2 ⟨rfl, hp⟩
  have HI2 := Lib.hid (HI1.out.go hp)
  clear hp
  go_wp2_with fail
  refine (HT2.out _ HI2.out.pm).mono ?_
  rintro e w3 ⟨rfl, hp⟩
  have HI3 := Lib.hid (HI2.out.go hp)
  clear hp
  go_wp2_with fail
  refine (HT3.out _ HI3.out.pm).mono ?_
  rintro e w4 ⟨rfl, hp⟩
  have HI4 := Lib.hid (HI3.out.go hp)
  clear hp
  go_wp2_with fail
  refine (HT4.out _ HI4.out.pm).mono ?_
  rintro e w5 ⟨rfl, hp⟩
  have HI5 := Lib.hid (HI4.out.go hp)
  clear hp
  go_wp2_with fail
  refine (HT5.out _ HI5.out.pm).mono ?_
  rintro e w6 ⟨rfl, hp⟩
  have HI6 := Lib.hid (HI5.out.go hp)
  clear hp
  go_wp2_with fail
  refine (name_calls b g c ts q dp HT.out _ HI6.out.pm).mono ?_
  rintro e w7 ⟨rfl, hp⟩
  have HI7 := Lib.hid (HI6.out.go hp)
  clear hp
  obtain ⟨y0, y1, y2, y3, y4, y5, y6⟩ := cells7 (x := (sv0 p)) HI7.out.blk
  obtain ⟨m0, m1, m2, m3, m4, m5, m6⟩ := free7 HI7.out.blk
  go_wp2_with fail
  obtain ⟨WA, hWA⟩ : ∃ WA, WA = ((w7.setCell ⟨S, 0, none⟩ (.int .i64 1)).setCell ⟨S, 1, none⟩ (.string (namep ts q).1)) := ⟨_, rfl⟩
  have HIA : Hid (SI w b g c ts dp S { sv0 p with k := 1, s := (namep ts q).1 } [] [] (namep ts q).2 WA) := Lib.hid (by rw [hWA]; exact HI7.out.kn 1 (namep ts q).1)
  show Calls _ _ _ ((w7.setCell ⟨S, 0, none⟩ (.int .i64 1)).setCell ⟨S, 1, none⟩ (.string (namep ts q).1)) _
  rw [← hWA]
  clear hWA
  clear y0 y1 y2 y3 y4 y5 y6 m0 m1 m2 m3 m4 m5 m6
  refine (HTB.out _ HIA.out.pm).mono ?_
  rintro e WB ⟨rfl, hp⟩
  have HIB := Lib.hid (HIA.out.go hp)
  clear hp
  obtain ⟨y0, y1, y2, y3, y4, y5, y6⟩ := cells7 (x := { sv0 p with k := 1, s := (namep ts q).1 }) HIB.out.blk
  obtain ⟨m0, m1, m2, m3, m4, m5, m6⟩ := free7 HIB.out.blk
  go_wp2_with fail
  obtain ⟨WC, hWC⟩ : ∃ WC, WC = (WB.setCell ⟨S, 0, none⟩ (.int .i64 2)) := ⟨_, rfl⟩
  have HIC : Hid (SI w b g c ts dp S { sv0 p with k := 2, s := (namep ts q).1 } [] [] (adv (namep ts q).2) WC) := Lib.hid (by rw [hWC]; exact HIB.out.k1 2)
  show Calls _ _ _ (WB.setCell ⟨S, 0, none⟩ (.int .i64 2)) _
  rw [← hWC]
  clear hWC
  clear y0 y1 y2 y3 y4 y5 y6 m0 m1 m2 m3 m4 m5 m6
  refine (HREC.out 0 b g c ts (adv (namep ts q).2) dp WC (by decide) (by decide) hdp HT.out HIC.out.pm).mono ?_
  rintro e WD ⟨yy, rfl, hat, hp⟩
  have HIE := Lib.hid (HIC.out.ex hp hat)
  have HIG := Lib.hid (HIC.out.go hp)
  clear hat hp
  obtain ⟨y0, y1, y2, y3, y4, y5, y6⟩ := cells7 (x := { sv0 p with k := 2, s := (namep ts q).1 }) HIG.out.blk
  obtain ⟨m0, m1, m2, m3, m4, m5, m6⟩ := free7 HIG.out.blk
  have hl := lt_heap HIG.out.blk
  go_wp2_with fail
  obtain ⟨WE, hWE⟩ : ∃ WE, WE = ((WD.setCell ⟨S, 2, none⟩ (.slice (some ⟨WD.heap.size, 0, none⟩) 1 1)).alloc (.cells yy.cells.toArray TE)) := ⟨_, rfl⟩
  rw [← hWE] at HIE
  show Calls _ _ _ ((WD.setCell ⟨S, 2, none⟩ (.slice (some ⟨WD.heap.size, 0, none⟩) 1 1)).alloc (.cells yy.cells.toArray TE)) _
  rw [← hWE]
  obtain ⟨G, hG⟩ : ∃ G, G = WD.heap.size := ⟨_, rfl⟩
  rw [← hG] at HIE
  clear hWE hG HIG hl
  clear y0 y1 y2 y3 y4 y5 y6 m0 m1 m2 m3 m4 m5 m6
  refine (want_calls b g c ts (exprp ts d 0 (adv (namep ts q).2)).2 dp HT.out ⟨#[93]⟩ WE HIE.out.pm).mono ?_
  rintro e WF ⟨rfl, hp⟩
  have HIF := Lib.hid (HIE.out.go hp)
  clear hp
  go_wp2_with fail
  refine (want_calls b g c ts (wantp ts ⟨#[93]⟩ (exprp ts d 0 (adv (namep ts q).2)).2) dp HT.out ⟨#[61]⟩ WF HIF.out.pm).mono ?_
  rintro e WR ⟨rfl, hp⟩
  have HIW := Lib.hid (HIF.out.go hp)
  clear hp
  go_wp2_with fail
  have HPD : Hid (PM WR.drew b g c ts (wantp ts ⟨#[61]⟩ (wantp ts ⟨#[93]⟩ (exprp ts d 0 (adv (namep ts q).2)).2)) dp) := Lib.hid (HIW.out.pm.keep fun _ _ => rfl)
  have HPZ : Hid (PM (WR.alloc (.cells z31 TE)).drew b g c ts (wantp ts ⟨#[61]⟩ (wantp ts ⟨#[93]⟩ (exprp ts d 0 (adv (namep ts q).2)).2)) dp) := Lib.hid ((HIW.out.pm.alloc (.cells z31 TE)).keep fun _ _ => rfl)
  have e4 : WR.cell? ⟨S, 2, none⟩ = some (.slice (some ⟨G, 0, none⟩) 1 1) := (cells7 (x := { sv0 p with k := 2, s := (namep ts q).1, eA := some ⟨G, 0, none⟩, en := 1, ec := 1 }) HIW.out.blk).2.2.1
  obtain ⟨i0, hi, hz0, hz1, hz2⟩ := info_parts infoTE
  have hwS := HIW.out.gb.size
  have hSl := HIW.out.lt
  have HW2 := Lib.hid (HIW.out)
  clear HIW
  refine wp_region_S [(8, fun w' => w'.cell? ⟨S, 2, none⟩ = some (.slice (some ⟨G, 0, none⟩) 1 1))] (by kernel_rfl) (SL.cons (cell_dr e4) SL.nil) (fun hS => ?_)
  (refine wpAnyS_free 0 (v := ?_) rfl (by kernel_rfl) (by kernel_rfl) (by kernel_rfl) (by simp) (fun _ _ _ h => h) (Or.inl ⟨by rfl, ?_⟩) hS (fun hS => ?_); rotate_left; · ((intro w; go_simp) <;> with_reducible rfl); try simp only [Act.put, List.setIfInBounds_toArray, List.set_cons_zero, List.set_cons_succ])
  (refine wpAnyS_free 1 (v := ?_) rfl (by kernel_rfl) (by kernel_rfl) (by kernel_rfl) (by simp) (fun _ _ _ h => h) (Or.inl ⟨by rfl, ?_⟩) hS (fun hS => ?_); rotate_left; · ((intro w; go_simp) <;> with_reducible rfl); try simp only [Act.put, List.setIfInBounds_toArray, List.set_cons_zero, List.set_cons_succ])
  (refine wpAnyS_free 2 (v := ?_) rfl (by kernel_rfl) (by kernel_rfl) (by kernel_rfl) (by simp) (fun _ _ _ h => h) (Or.inl ⟨by rfl, ?_⟩) hS (fun hS => ?_); rotate_left; · ((intro w; go_simp) <;> with_reducible rfl); try simp only [Act.put, List.setIfInBounds_toArray, List.set_cons_zero, List.set_cons_succ])
  (refine wpAnyS_load 3 8 (v := ?_) (List.mem_singleton.2 rfl) rfl (by kernel_rfl) (by kernel_rfl) (by kernel_rfl) (by kernel_rfl) (by kernel_rfl) (by simp) (fun _ _ _ h => h) (Or.inl ⟨by rfl, ?_⟩) hS (fun hS => ?_); rotate_left; · ((intro w hSw; (try dsimp only at hSw); go_simp) <;> with_reducible rfl); try simp only [Act.put, List.setIfInBounds_toArray, List.set_cons_zero, List.set_cons_succ])
  (refine wpAnyS_free 4 (v := ?_) rfl (by kernel_rfl) (by kernel_rfl) (by kernel_rfl) (by simp) (fun _ _ _ h => h) (Or.inl ⟨by rfl, ?_⟩) hS (fun hS => ?_); rotate_left; · ((intro w; go_simp) <;> with_reducible rfl); try simp only [Act.put, List.setIfInBounds_toArray, List.set_cons_zero, List.set_cons_succ])
  (refine wpAnyS_free 6 (v := ?_) rfl (by kernel_rfl) (by kernel_rfl) (by kernel_rfl) (by simp) (fun _ _ _ h => h) (Or.inl ⟨by rfl, ?_⟩) hS (fun hS => ?_); rotate_left; · ((intro w; go_simp) <;> with_reducible rfl); try simp only [Act.put, List.setIfInBounds_toArray, List.set_cons_zero, List.set_cons_succ])
  refine wpAnyS_two 5 7 rfl rfl (by kernel_rfl) (by rfl) (by rfl) (fun K hK => ?_) (fun K hK => ?_)
  · go_simp
    refine (HREC.out 0 b g c ts (wantp ts ⟨#[61]⟩ (wantp ts ⟨#[93]⟩ (exprp ts d 0 (adv (namep ts q).2)).2)) dp WR.drew (by decide) (by decide) hdp HT.out HPD.out).mono ?_
    rintro e w9 ⟨y, rfl, hat, hp9⟩
    have HP9 : Hid (PT WR b g c ts (exprp ts d 0 (wantp ts ⟨#[61]⟩ (wantp ts ⟨#[93]⟩ (exprp ts d 0 (adv (namep ts q).2)).2))).2 dp w9) := Lib.hid ⟨hp9.1, ⟨hp9.2.os, hp9.2.tape, hp9.2.output, hp9.2.size, hp9.2.block⟩⟩
    have HAT9 : Hid (At (exprp ts d 0 (wantp ts ⟨#[61]⟩ (wantp ts ⟨#[93]⟩ (exprp ts d 0 (adv (namep ts q).2)).2))).1 (fun k => WR.heap.size ≤ k) w9 y) := Lib.hid hat
    clear hat hp9
    have HI9 := Lib.hid (HW2.out.go HP9.out)
    have e9 : w9.cell? ⟨S, 2, none⟩ = some (.slice (some ⟨G, 0, none⟩) 1 1) := (cells7 (x := { sv0 p with k := 2, s := (namep ts q).1, eA := some ⟨G, 0, none⟩, en := 1, ec := 1 }) HI9.out.blk).2.2.1
    refine hK.out _ _ (SL.cons e9 SL.nil) (fun hS => ?_)
    clear hK K
    try simp only [Act.put, List.setIfInBounds_toArray, List.set_cons_zero, List.set_cons_succ]
    (refine wpAnyS_one 7 rfl (by kernel_rfl) (by rfl) (fun K hK => ?_); go_simp)
    refine hK.out _ _ (SL.cons (cell_al e9 _) SL.nil) (fun hS => ?_)
    clear hK K
    try simp only [Act.put, List.setIfInBounds_toArray, List.set_cons_zero, List.set_cons_succ]
    obtain ⟨w8, hw8⟩ : ∃ w8, w8 = w9.alloc (.cells z31 TE) := ⟨_, rfl⟩
    obtain ⟨Z, hZ⟩ : ∃ Z, Z = w9.heap.size := ⟨_, rfl⟩
    have HI8 : Hid (SI w b g c ts dp S { sv0 p with k := 2, s := (namep ts q).1, eA := some ⟨G, 0, none⟩, en := 1, ec := 1 } [(exprp ts d 0 (adv (namep ts q).2)).1] [yy] (exprp ts d 0 (wantp ts ⟨#[61]⟩ (wantp ts ⟨#[93]⟩ (exprp ts d 0 (adv (namep ts q).2)).2))).2 w8) := Lib.hid (by rw [hw8]; exact ⟨HI9.out.pm.alloc _, HI9.out.gb.alloc _, blk_alloc HI9.out.blk _, HI9.out.own.alloc _, HI9.out.fa.mono (fun _ h _ => h) (fun i _ hi => Below.heap_alloc _ _ _ hi), HI9.out.lt⟩)
    have HZ8 : Hid (w8.heap[Z]? = some (.cells z31 TE (0, 0))) := Lib.hid (by rw [hw8, hZ]; exact blk_new _ _)
    have HA8 : Hid (At (exprp ts d 0 (wantp ts ⟨#[61]⟩ (wantp ts ⟨#[93]⟩ (exprp ts d 0 (adv (namep ts q).2)).2))).1 (fun i => w.heap.size ≤ i ∧ (Value.slice (some ⟨G, 0, none⟩) 1 1).ownBlock ≠ some i) w8 y) := Lib.hid (by rw [hw8]; exact (HAT9.out.mono (fun i hi _ => ⟨by omega, fun e => by have := lt_heap (own_blk HW2.out.own e).2.choose_spec; omega⟩) (fun _ _ _ => rfl)).alloc _)
    have e8 : w8.cell? ⟨S, 2, none⟩ = some (.slice (some ⟨G, 0, none⟩) 1 1) := by rw [hw8]; exact cell_al e9 _
    clear e9
    simp only [← hZ] at hS ⊢
    rw [← hw8] at hS ⊢
    clear hw8 hZ
    (refine wpAnyS_one 8 rfl (by kernel_rfl) (by rfl) (fun K hK => ?_); refine wp_append_lies _ (.tmp 30) (.tmp 34) 40 (by rfl) w.heap.size TE i0 (.agg #[.int .i64 0, .int .i64 0, .string ByteArray.empty, .int .u64 0, .slice none 0 0, .int .i64 0]) 6 72 Tryd.underlying40 hi hz0 hz1 hz2 (by rfl) (by decide) (.slice (some ⟨G, 0, none⟩) 1 1) 1 (List.flatMap EV.cells [yy]) (by rfl) HI8.out.own ⟨Z, 0, none⟩ 1 1 ze.cells (by rfl) (by rfl) (World.news_of_block HZ8.out) (ev_one ze) (by decide) (by unfold maxLen; omega) (by omega) HI8.out.gb.size w8.heap.size rfl ?_; intro g' cap' w10 hown hgrow hor hlt)
    have HAPP : Hid (∀ W2, (W2 = (set6o w10 g' (1 * 6) y).setCell ⟨S, 2, none⟩ (.slice (some ⟨g', 0, none⟩) (1 + 1) cap') ∨ W2 = set6o (w10.setCell ⟨S, 2, none⟩ (.slice (some ⟨g', 0, none⟩) (1 + 1) cap')) g' (1 * 6) y) → SI w b g c ts dp S { { sv0 p with k := 2, s := (namep ts q).1, eA := some ⟨G, 0, none⟩, en := 1, ec := 1 } with eA := some ⟨g', 0, none⟩, en := 1 + 1, ec := cap' } ([(exprp ts d 0 (adv (namep ts q).2)).1] ++ [(exprp ts d 0 (wantp ts ⟨#[61]⟩ (wantp ts ⟨#[93]⟩ (exprp ts d 0 (adv (namep ts q).2)).2))).1]) ([yy] ++ [y]) (exprp ts d 0 (wantp ts ⟨#[61]⟩ (wantp ts ⟨#[93]⟩ (exprp ts d 0 (adv (namep ts q).2)).2))).2 W2) := Lib.hid (fun W2 hW => HI8.out.app HA8.out hown hgrow hor hW)
    have hrow : ∀ r, (Value.slice (some ⟨G, 0, none⟩) 1 1).ownBlock = some r → w.heap.size ≤ r := fun r hr => (own_blk HI8.out.own hr).1
    have hSne : some S ≠ (Value.slice (some ⟨G, 0, none⟩) 1 1).ownBlock := fun e => by have := hrow S e.symm; omega
    obtain ⟨k0, k1, k2, k3, k4, k5, k6⟩ := free7 (HI8.out.blk)
    have e10 : w10.cell? ⟨S, 2, none⟩ = some (.slice (some ⟨G, 0, none⟩) 1 1) := (hgrow.cell_far ⟨S, 2, none⟩ (lt_heap HI8.out.blk) hSne).trans e8
    have f10 : w10.frozen? ⟨S, 2, none⟩ = false := (hgrow.frozen_far ⟨S, 2, none⟩ (lt_heap HI8.out.blk) hSne).trans k2
    have hg0 : w.heap.size ≤ g' := by rcases hor with e | e; exact hrow g' e; have := HI8.out.gb.size; omega
    have hgS : g' ≠ S := by omega
    obtain ⟨n0, n1, n2, n3, n4, n5⟩ := newc hown rfl
    refine hK.out _ _ (SL.past (by kernel_rfl) SL.nil) (fun hS => ?_)
    clear hK K
    try simp only [Act.put, List.setIfInBounds_toArray, List.set_cons_zero, List.set_cons_succ]
    clear hown hgrow hor hrow hSne k0 k1 k2 k3 k4 k5 k6 e8
    (refine wpAnyS_free 9 (v := ?_) rfl (by kernel_rfl) (by kernel_rfl) (by kernel_rfl) (by simp) (fun _ _ _ h => h) (Or.inl ⟨by rfl, ?_⟩) hS (fun hS => ?_); rotate_left; · ((intro w; go_simp) <;> with_reducible rfl); try simp only [Act.put, List.setIfInBounds_toArray, List.set_cons_zero, List.set_cons_succ])
    (refine wpAnyS_free 11 (v := ?_) rfl (by kernel_rfl) (by kernel_rfl) (by kernel_rfl) (by simp) (fun _ _ _ h => h) (Or.inl ⟨by rfl, ?_⟩) hS (fun hS => ?_); rotate_left; · ((intro w; go_simp) <;> with_reducible rfl); try simp only [Act.put, List.setIfInBounds_toArray, List.set_cons_zero, List.set_cons_succ])
    (refine wpAnyS_free 12 (v := ?_) rfl (by kernel_rfl) (by kernel_rfl) (by kernel_rfl) (by simp) (fun _ _ _ h => h) (Or.inl ⟨by rfl, ?_⟩) hS (fun hS => ?_); rotate_left; · ((intro w; go_simp) <;> with_reducible rfl); try simp only [Act.put, List.setIfInBounds_toArray, List.set_cons_zero, List.set_cons_succ])
    refine wpAnyS_two 10 13 rfl rfl (by kernel_rfl) (by rfl) (by rfl) (fun K hK => ?_) (fun K hK => ?_)
    · go_simp
      refine hK.out _ _ (SL.past (by kernel_rfl) SL.nil) (fun hS => ?_)
      clear hK K
      try simp only [Act.put, List.setIfInBounds_toArray, List.set_cons_zero, List.set_cons_succ]
      (refine wpAnyS_one 13 rfl (by kernel_rfl) (by rfl) (fun K hK => ?_); go_simp)
      refine hK.out _ _ (SL.past (by kernel_rfl) SL.nil) (fun hS => ?_)
      clear hK K
      try simp only [Act.put, List.setIfInBounds_toArray, List.set_cons_zero, List.set_cons_succ]
      refine wpAnyS_done (by kernel_rfl) ?_ _
      go_wp2
      go_end0
      exact (HAPP.out _ (.inl rfl)).post HRES.out rfl rfl rfl ⟨rfl, rfl, rfl⟩ ⟨rfl, rfl, rfl⟩ rfl
    · go_simp
      refine hK.out _ _ (SL.past (by kernel_rfl) SL.nil) (fun hS => ?_)
      clear hK K
      try simp only [Act.put, List.setIfInBounds_toArray, List.set_cons_zero, List.set_cons_succ]
      (refine wpAnyS_one 10 rfl (by kernel_rfl) (by rfl) (fun K hK => ?_); go_simp)
      refine hK.out _ _ (SL.past (by kernel_rfl) SL.nil) (fun hS => ?_)
      clear hK K
      try simp only [Act.put, List.setIfInBounds_toArray, List.set_cons_zero, List.set_cons_succ]
      refine wpAnyS_done (by kernel_rfl) ?_ _
      go_wp2
      go_end0
      exact (HAPP.out _ (.inr rfl)).post HRES.out rfl rfl rfl ⟨rfl, rfl, rfl⟩ ⟨rfl, rfl, rfl⟩ rfl
  · go_simp
    refine hK.out _ _ (SL.cons (cell_dr (cell_al e4 _)) SL.nil) (fun hS => ?_)
    clear hK K
    try simp only [Act.put, List.setIfInBounds_toArray, List.set_cons_zero, List.set_cons_succ]
    (refine wpAnyS_one 5 rfl (by kernel_rfl) (by rfl) (fun K hK => ?_); go_simp)
    refine (HREC.out 0 b g c ts (wantp ts ⟨#[61]⟩ (wantp ts ⟨#[93]⟩ (exprp ts d 0 (adv (namep ts q).2)).2)) dp (WR.alloc (.cells z31 TE)).drew (by decide) (by decide) hdp HT.out HPZ.out).mono ?_
    rintro e w8 ⟨y, rfl, hat, hp9⟩
    have HP9 : Hid (PT (WR.alloc (.cells z31 TE)) b g c ts (exprp ts d 0 (wantp ts ⟨#[61]⟩ (wantp ts ⟨#[93]⟩ (exprp ts d 0 (adv (namep ts q).2)).2))).2 dp w8) := Lib.hid ⟨hp9.1, ⟨hp9.2.os, hp9.2.tape, hp9.2.output, hp9.2.size, hp9.2.block⟩⟩
    obtain ⟨Z, hZ⟩ : ∃ Z, Z = WR.heap.size := ⟨_, rfl⟩
    have HI7 : Hid (SI w b g c ts dp S { sv0 p with k := 2, s := (namep ts q).1, eA := some ⟨G, 0, none⟩, en := 1, ec := 1 } [(exprp ts d 0 (adv (namep ts q).2)).1] [yy] (wantp ts ⟨#[61]⟩ (wantp ts ⟨#[93]⟩ (exprp ts d 0 (adv (namep ts q).2)).2)) (WR.alloc (.cells z31 TE))) := Lib.hid ⟨HW2.out.pm.alloc _, HW2.out.gb.alloc _, blk_alloc HW2.out.blk _, HW2.out.own.alloc _, HW2.out.fa.mono (fun _ h _ => h) (fun i _ hi => Below.heap_alloc _ _ _ hi), HW2.out.lt⟩
    have HI8 := Lib.hid (HI7.out.go HP9.out)
    have HZ8 : Hid (w8.heap[Z]? = some (.cells z31 TE (0, 0))) := Lib.hid (by rw [hZ]; exact blk_pm (HW2.out.pm.alloc _) HP9.out.2 (blk_new _ _) (by decide))
    have HA8 : Hid (At (exprp ts d 0 (wantp ts ⟨#[61]⟩ (wantp ts ⟨#[93]⟩ (exprp ts d 0 (adv (namep ts q).2)).2))).1 (fun i => w.heap.size ≤ i ∧ (Value.slice (some ⟨G, 0, none⟩) 1 1).ownBlock ≠ some i) w8 y) := Lib.hid (hat.mono (fun i hi _ => by have hi' : WR.heap.size + 1 ≤ i := (by simpa using hi); exact ⟨by omega, fun e => by have := lt_heap (own_blk HW2.out.own e).2.choose_spec; omega⟩) (fun _ _ _ => rfl))
    have e8 : w8.cell? ⟨S, 2, none⟩ = some (.slice (some ⟨G, 0, none⟩) 1 1) := (cells7 (x := { sv0 p with k := 2, s := (namep ts q).1, eA := some ⟨G, 0, none⟩, en := 1, ec := 1 }) HI8.out.blk).2.2.1
    clear hat hp9
    refine hK.out _ _ (SL.cons e8 SL.nil) (fun hS => ?_)
    clear hK K
    try simp only [Act.put, List.setIfInBounds_toArray, List.set_cons_zero, List.set_cons_succ]
    simp only [← hZ]
    clear hZ
    (refine wpAnyS_one 8 rfl (by kernel_rfl) (by rfl) (fun K hK => ?_); refine wp_append_lies _ (.tmp 30) (.tmp 34) 40 (by rfl) w.heap.size TE i0 (.agg #[.int .i64 0, .int .i64 0, .string ByteArray.empty, .int .u64 0, .slice none 0 0, .int .i64 0]) 6 72 Tryd.underlying40 hi hz0 hz1 hz2 (by rfl) (by decide) (.slice (some ⟨G, 0, none⟩) 1 1) 1 (List.flatMap EV.cells [yy]) (by rfl) HI8.out.own ⟨Z, 0, none⟩ 1 1 ze.cells (by rfl) (by rfl) (World.news_of_block HZ8.out) (ev_one ze) (by decide) (by unfold maxLen; omega) (by omega) HI8.out.gb.size w8.heap.size rfl ?_; intro g' cap' w10 hown hgrow hor hlt)
    have HAPP : Hid (∀ W2, (W2 = (set6o w10 g' (1 * 6) y).setCell ⟨S, 2, none⟩ (.slice (some ⟨g', 0, none⟩) (1 + 1) cap') ∨ W2 = set6o (w10.setCell ⟨S, 2, none⟩ (.slice (some ⟨g', 0, none⟩) (1 + 1) cap')) g' (1 * 6) y) → SI w b g c ts dp S { { sv0 p with k := 2, s := (namep ts q).1, eA := some ⟨G, 0, none⟩, en := 1, ec := 1 } with eA := some ⟨g', 0, none⟩, en := 1 + 1, ec := cap' } ([(exprp ts d 0 (adv (namep ts q).2)).1] ++ [(exprp ts d 0 (wantp ts ⟨#[61]⟩ (wantp ts ⟨#[93]⟩ (exprp ts d 0 (adv (namep ts q).2)).2))).1]) ([yy] ++ [y]) (exprp ts d 0 (wantp ts ⟨#[61]⟩ (wantp ts ⟨#[93]⟩ (exprp ts d 0 (adv (namep ts q).2)).2))).2 W2) := Lib.hid (fun W2 hW => HI8.out.app HA8.out hown hgrow hor hW)
    have hrow : ∀ r, (Value.slice (some ⟨G, 0, none⟩) 1 1).ownBlock = some r → w.heap.size ≤ r := fun r hr => (own_blk HI8.out.own hr).1
    have hSne : some S ≠ (Value.slice (some ⟨G, 0, none⟩) 1 1).ownBlock := fun e => by have := hrow S e.symm; omega
    obtain ⟨k0, k1, k2, k3, k4, k5, k6⟩ := free7 (HI8.out.blk)
    have e10 : w10.cell? ⟨S, 2, none⟩ = some (.slice (some ⟨G, 0, none⟩) 1 1) := (hgrow.cell_far ⟨S, 2, none⟩ (lt_heap HI8.out.blk) hSne).trans e8
    have f10 : w10.frozen? ⟨S, 2, none⟩ = false := (hgrow.frozen_far ⟨S, 2, none⟩ (lt_heap HI8.out.blk) hSne).trans k2
    have hg0 : w.heap.size ≤ g' := by rcases hor with e | e; exact hrow g' e; have := HI8.out.gb.size; omega
    have hgS : g' ≠ S := by omega
    obtain ⟨n0, n1, n2, n3, n4, n5⟩ := newc hown rfl
    refine hK.out _ _ (SL.past (by kernel_rfl) SL.nil) (fun hS => ?_)
    clear hK K
    try simp only [Act.put, List.setIfInBounds_toArray, List.set_cons_zero, List.set_cons_succ]
    clear hown hgrow hor hrow hSne k0 k1 k2 k3 k4 k5 k6 e8
    (refine wpAnyS_free 9 (v := ?_) rfl (by kernel_rfl) (by kernel_rfl) (by kernel_rfl) (by simp) (fun _ _ _ h => h) (Or.inl ⟨by rfl, ?_⟩) hS (fun hS => ?_); rotate_left; · ((intro w; go_simp) <;> with_reducible rfl); try simp only [Act.put, List.setIfInBounds_toArray, List.set_cons_zero, List.set_cons_succ])
    (refine wpAnyS_free 11 (v := ?_) rfl (by kernel_rfl) (by kernel_rfl) (by kernel_rfl) (by simp) (fun _ _ _ h => h) (Or.inl ⟨by rfl, ?_⟩) hS (fun hS => ?_); rotate_left; · ((intro w; go_simp) <;> with_reducible rfl); try simp only [Act.put, List.setIfInBounds_toArray, List.set_cons_zero, List.set_cons_succ])
    (refine wpAnyS_free 12 (v := ?_) rfl (by kernel_rfl) (by kernel_rfl) (by kernel_rfl) (by simp) (fun _ _ _ h => h) (Or.inl ⟨by rfl, ?_⟩) hS (fun hS => ?_); rotate_left; · ((intro w; go_simp) <;> with_reducible rfl); try simp only [Act.put, List.setIfInBounds_toArray, List.set_cons_zero, List.set_cons_succ])
    refine wpAnyS_two 10 13 rfl rfl (by kernel_rfl) (by rfl) (by rfl) (fun K hK => ?_) (fun K hK => ?_)
    · go_simp
      refine hK.out _ _ (SL.past (by kernel_rfl) SL.nil) (fun hS => ?_)
      clear hK K
      try simp only [Act.put, List.setIfInBounds_toArray, List.set_cons_zero, List.set_cons_succ]
      (refine wpAnyS_one 13 rfl (by kernel_rfl) (by rfl) (fun K hK => ?_); go_simp)
      refine hK.out _ _ (SL.past (by kernel_rfl) SL.nil) (fun hS => ?_)
      clear hK K
      try simp only [Act.put, List.setIfInBounds_toArray, List.set_cons_zero, List.set_cons_succ]
      refine wpAnyS_done (by kernel_rfl) ?_ _
      go_wp2
      go_end0
      exact (HAPP.out _ (.inl rfl)).post HRES.out rfl rfl rfl ⟨rfl, rfl, rfl⟩ ⟨rfl, rfl, rfl⟩ rfl
    · go_simp
      refine hK.out _ _ (SL.past (by kernel_rfl) SL.nil) (fun hS => ?_)
      clear hK K
      try simp only [Act.put, List.setIfInBounds_toArray, List.set_cons_zero, List.set_cons_succ]
      (refine wpAnyS_one 10 rfl (by kernel_rfl) (by rfl) (fun K hK => ?_); go_simp)
      refine hK.out _ _ (SL.past (by kernel_rfl) SL.nil) (fun hS => ?_)
      clear hK K
      try simp only [Act.put, List.setIfInBounds_toArray, List.set_cons_zero, List.set_cons_succ]
      refine wpAnyS_done (by kernel_rfl) ?_ _
      go_wp2
      go_end0
      exact (HAPP.out _ (.inr rfl)).post HRES.out rfl rfl rfl ⟨rfl, rfl, rfl⟩ ⟨rfl, rfl, rfl⟩ rfl
end Go.Proofs.YtcdgjgoplogiiaaDoor.PT
