/- (*parser).stmt. -/
import Derived.Test.YtcdgjgoplogiiaaDoorSte
namespace Go.Proofs.YtcdgjgoplogiiaaDoor.PT
open Go.RowKit Go.Lib
set_option linter.unusedVariables false
set_option linter.unusedSimpArgs false
theorem tok_place (t : Tok) (w : World) : (Instr.field TK (tokV t) 3).run Tryd.prog w = .ok (.int .i64 t.p) w := by kernel_rfl
theorem tok_kind (t : Tok) (w : World) : (Instr.field TK (tokV t) 0).run Tryd.prog w = .ok (.int .i64 t.k) w := by kernel_rfl
set_option maxRecDepth 100000 in
set_option maxHeartbeats 8000000 in
theorem stmt_zero (b g c : Nat) (ts : List Tok) (q : PS) (dp : Nat) (w : World) (hdp : dp ≤ 40) (hts : Toks ts) (h : PM w b g c ts q dp) (hz : (entp ts q dp).e.isNone = false) :
    Calls Tryd.prog 58 #[.pointer (some ⟨b, 0, none⟩)] w (TPost w b g c ts ((st0 (nxt ts q).p, entp ts q dp)) dp) := by
  obtain ⟨res, hres⟩ : ∃ res, res = (st0 (nxt ts q).p, entp ts q dp) := ⟨_, rfl⟩
  have e1 : res = (st0 (nxt ts q).p, entp ts q dp) := hres
  obtain ⟨t, ht⟩ : ∃ t, t = nxt ts q := ⟨_, rfl⟩
  rw [← hres]
  rw [← ht] at e1
  obtain ⟨w0, hw0⟩ : ∃ w0, w0 = (w.alloc (.cells #[.pointer (some ⟨b, 0, none⟩)] TPp)).alloc (.cells svz.cells.toArray TS) := ⟨_, rfl⟩
  have hp0 : PT w b g c ts q dp w0 := by rw [hw0]; exact (PT.alloc ⟨h, gb_refl _ _⟩ _).alloc _
  have hX : w0.heap[w.heap.size]? = some (.cells #[.pointer (some ⟨b, 0, none⟩)] TPp (0, 0)) := by rw [hw0]; exact blk_alloc (blk_new _ _) _
  have hR : w0.heap[w.heap.size + 1]? = some (.cells svz.cells.toArray TS (0, 0)) := by
    rw [hw0]
    have := blk_new (w.alloc (.cells #[.pointer (some ⟨b, 0, none⟩)] TPp)) (.cells svz.cells.toArray TS)
    simpa using this
  have hn := next_calls b g c ts q dp hts w0 hp0.1
  rw [← ht] at hn
  have HRES := Lib.hid e1
  have HN := Lib.hid hn
  have HW := Lib.hid hw0
  have HP0 := Lib.hid hp0
  have HX := Lib.hid hX
  have HR := Lib.hid hR
  have HT := Lib.hid hts
  have c0 : w0.cell? ⟨w.heap.size, 0, none⟩ = some (.pointer (some ⟨b, 0, none⟩)) := (blk_cell hX 0).trans rfl
  have HZ := Lib.hid hz
  clear hn hw0 hp0 hX hR hts h e1 hres ht hz
  go_enter_defers Tryd.func58, Tryd.ntmps58
  go_wp2_with fail
  show Calls _ _ _ ((w.alloc (.cells #[.pointer (some ⟨b, 0, none⟩)] TPp)).alloc (.cells svz.cells.toArray TS)) _
  rw [← HW.out]
  refine HN.out.mono ?_
  rintro e w1 ⟨rfl, hb1⟩
  have HX1 := Lib.hid (blk_below HX.out hb1)
  have HR1 := Lib.hid (blk_below HR.out hb1)
  have HP1 := Lib.hid (HP0.out.trans (PT.of HP0.out.1 hb1))
  have hlR := lt_heap HR1.out
  have hlX := lt_heap HX1.out
  clear hb1 c0
  obtain ⟨S, hS⟩ : ∃ S, S = w1.heap.size := ⟨_, rfl⟩
  obtain ⟨W2, hW2⟩ : ∃ W2, W2 = w1.alloc (.cells (sv0 t.p).cells.toArray TS) := ⟨_, rfl⟩
  have HP2 : Hid (PT w b g c ts q dp W2) := Lib.hid (by rw [hW2]; exact HP1.out.alloc _)
  have HX2 : Hid (W2.heap[w.heap.size]? = some (.cells #[.pointer (some ⟨b, 0, none⟩)] TPp (0, 0))) := Lib.hid (by rw [hW2]; exact blk_alloc HX1.out _)
  have HR2 : Hid (W2.heap[w.heap.size + 1]? = some (.cells svz.cells.toArray TS (0, 0))) := Lib.hid (by rw [hW2]; exact blk_alloc HR1.out _)
  have HS2 : Hid (W2.heap[S]? = some (.cells (sv0 t.p).cells.toArray TS (0, 0))) := Lib.hid (by rw [hW2, hS]; exact blk_new _ _)
  have hSl : w.heap.size + 1 < S := by omega
  have hfd := tok_place t
  have x1 : w1.cell? ⟨w.heap.size, 0, none⟩ = some (.pointer (some ⟨b, 0, none⟩)) := (blk_cell HX1.out 0).trans rfl
  go_wp2_with fail
  rw [← hS]
  show Calls _ _ _ (w1.alloc (.cells (sv0 t.p).cells.toArray TS)) _
  rw [← hW2]
  clear hW2 hS x1 hlR hlX hfd
  have hen2 := enter_calls b g c ts q dp hdp HT.out W2 HP2.out.1
  rw [HZ.out] at hen2
  refine hen2.mono ?_
  clear hen2
  rintro e w3 ⟨rfl, hp3⟩
  have HF3 : Hid (FI w b g c ts dp S (st0 t.p) (sv0 t.p) (entp ts q dp) w3) := Lib.hid ⟨HP2.out.trans hp3, blk_pm HP2.out.1 hp3.2 HX2.out (by decide), blk_pm HP2.out.1 hp3.2 HR2.out (by decide), blk_pm HP2.out.1 hp3.2 HS2.out (by decide), hSl, SA_iff.2 ⟨rfl, rfl, rfl, rfl, ⟨rfl, [], rfl, .inl ⟨rfl, rfl, rfl, rfl⟩⟩, ⟨rfl, [], rfl, .inl ⟨rfl, rfl, rfl, rfl⟩⟩, ⟨rfl, [], rfl, .inl ⟨rfl, rfl, rfl, rfl⟩⟩⟩⟩
  clear hp3
  have x3 : w3.cell? ⟨w.heap.size, 0, none⟩ = some (.pointer (some ⟨b, 0, none⟩)) := (blk_cell HF3.out.X 0).trans rfl
  obtain ⟨y0, y1, y2, y3, y4, y5, y6⟩ := cells7 (x := (sv0 t.p)) HF3.out.blk
  obtain ⟨z0, z1, z2, z3, z4, z5, z6⟩ := cells7 (x := svz) HF3.out.R
  obtain ⟨l0, l1, l2, l3, l4, l5, l6⟩ := free7 HF3.out.R
  go_wp2
  refine HF3.out.ret (by omega) HRES.out ?_
  rfl
set_option maxRecDepth 100000 in
set_option maxHeartbeats 8000000 in
theorem stmt_if (d : Nat) (b g c : Nat) (ts : List Tok) (q : PS) (dp : Nat) (w : World) (hst : StmtP d) (hdp : dp + (d + 1) = 40) (hts : Toks ts) (h : PM w b g c ts q dp) (he : ¬ q.e.isSome = true) (hi0 : isp ts ⟨#[105, 102]⟩ q = true) (hi2 : isp ts ⟨#[101, 108, 115, 101]⟩ (blockp ts (stmtp ts d) (wantp ts ⟨#[41]⟩ (exprp ts d 0 (wantp ts ⟨#[40]⟩ (adv q))).2)).2 = false) :
    Calls Tryd.prog 58 #[.pointer (some ⟨b, 0, none⟩)] w (TPost w b g c ts (stmtp ts (d + 1) q) dp) := by
  obtain ⟨res, hres⟩ : ∃ res, res = stmtp ts (d + 1) q := ⟨_, rfl⟩
  have e1 : res = (⟨3, ⟨#[]⟩, [(exprp ts d 0 (wantp ts ⟨#[40]⟩ (adv q))).1], 0, (blockp ts (stmtp ts d) (wantp ts ⟨#[41]⟩ (exprp ts d 0 (wantp ts ⟨#[40]⟩ (adv q))).2)).1, .nil, (nxt ts q).p⟩, (blockp ts (stmtp ts d) (wantp ts ⟨#[41]⟩ (exprp ts d 0 (wantp ts ⟨#[40]⟩ (adv q))).2)).2) := by rw [hres]; unfold stmtp; rw [if_neg he, if_pos hi0]; simp only [hi2, if_false, Bool.false_eq_true]
  have hen : entp ts q dp = q := by unfold entp; rw [if_neg (by omega)]
  obtain ⟨t, ht⟩ : ∃ t, t = nxt ts q := ⟨_, rfl⟩
  rw [← hres]
  rw [← ht] at e1
  obtain ⟨w0, hw0⟩ : ∃ w0, w0 = (w.alloc (.cells #[.pointer (some ⟨b, 0, none⟩)] TPp)).alloc (.cells svz.cells.toArray TS) := ⟨_, rfl⟩
  have hp0 : PT w b g c ts q dp w0 := by rw [hw0]; exact (PT.alloc ⟨h, gb_refl _ _⟩ _).alloc _
  have hX : w0.heap[w.heap.size]? = some (.cells #[.pointer (some ⟨b, 0, none⟩)] TPp (0, 0)) := by rw [hw0]; exact blk_alloc (blk_new _ _) _
  have hR : w0.heap[w.heap.size + 1]? = some (.cells svz.cells.toArray TS (0, 0)) := by
    rw [hw0]
    have := blk_new (w.alloc (.cells #[.pointer (some ⟨b, 0, none⟩)] TPp)) (.cells svz.cells.toArray TS)
    simpa using this
  have hn := next_calls b g c ts q dp hts w0 hp0.1
  rw [← ht] at hn
  have HRES := Lib.hid e1
  have HN := Lib.hid hn
  have HW := Lib.hid hw0
  have HP0 := Lib.hid hp0
  have HX := Lib.hid hX
  have HR := Lib.hid hR
  have HT := Lib.hid hts
  have c0 : w0.cell? ⟨w.heap.size, 0, none⟩ = some (.pointer (some ⟨b, 0, none⟩)) := (blk_cell hX 0).trans rfl
  have HE : Hid (q.e.isNone = true) := Lib.hid (by cases hq : q.e <;> simp_all)
  have HEN := Lib.hid hen
  have HST := Lib.hid hst
  have HREC := Lib.hid (expr_any d)
  have HI0 := Lib.hid (take_yes (x := ⟨#[105, 102]⟩) (dp := dp + 1) (b := b) (g := g) (c := c) hts hi0)
  have HI2 := Lib.hid (take_no (x := ⟨#[101, 108, 115, 101]⟩) (dp := dp + 1) (b := b) (g := g) (c := c) hts hi2)
  clear hn hw0 hp0 hX hR hts h e1 hres ht he hen hst hi0 hi2
  go_enter_defers Tryd.func58, Tryd.ntmps58
  go_wp2_with fail
  show Calls _ _ _ ((w.alloc (.cells #[.pointer (some ⟨b, 0, none⟩)] TPp)).alloc (.cells svz.cells.toArray TS)) _
  rw [← HW.out]
  refine HN.out.mono ?_
  rintro e w1 ⟨rfl, hb1⟩
  have HX1 := Lib.hid (blk_below HX.out hb1)
  have HR1 := Lib.hid (blk_below HR.out hb1)
  have HP1 := Lib.hid (HP0.out.trans (PT.of HP0.out.1 hb1))
  have hlR := lt_heap HR1.out
  have hlX := lt_heap HX1.out
  clear hb1 c0
  obtain ⟨S, hS⟩ : ∃ S, S = w1.heap.size := ⟨_, rfl⟩
  obtain ⟨W2, hW2⟩ : ∃ W2, W2 = w1.alloc (.cells (sv0 t.p).cells.toArray TS) := ⟨_, rfl⟩
  have HP2 : Hid (PT w b g c ts q dp W2) := Lib.hid (by rw [hW2]; exact HP1.out.alloc _)
  have HX2 : Hid (W2.heap[w.heap.size]? = some (.cells #[.pointer (some ⟨b, 0, none⟩)] TPp (0, 0))) := Lib.hid (by rw [hW2]; exact blk_alloc HX1.out _)
  have HR2 : Hid (W2.heap[w.heap.size + 1]? = some (.cells svz.cells.toArray TS (0, 0))) := Lib.hid (by rw [hW2]; exact blk_alloc HR1.out _)
  have HS2 : Hid (W2.heap[S]? = some (.cells (sv0 t.p).cells.toArray TS (0, 0))) := Lib.hid (by rw [hW2, hS]; exact blk_new _ _)
  have hSl : w.heap.size + 1 < S := by omega
  have hfd := tok_place t
  have x1 : w1.cell? ⟨w.heap.size, 0, none⟩ = some (.pointer (some ⟨b, 0, none⟩)) := (blk_cell HX1.out 0).trans rfl
  go_wp2_with fail
  rw [← hS]
  show Calls _ _ _ (w1.alloc (.cells (sv0 t.p).cells.toArray TS)) _
  rw [← hW2]
  clear hW2 hS x1 hlR hlX hfd
  have hen2 := enter_calls b g c ts q dp (by omega) HT.out W2 HP2.out.1
  rw [HEN.out, HE.out] at hen2
  refine hen2.mono ?_
  clear hen2
  rintro e w3 ⟨rfl, hp3⟩
  have HF3 : Hid (FI w b g c ts dp S (st0 t.p) (sv0 t.p) q w3) := Lib.hid ⟨HP2.out.trans hp3, blk_pm HP2.out.1 hp3.2 HX2.out (by decide), blk_pm HP2.out.1 hp3.2 HR2.out (by decide), blk_pm HP2.out.1 hp3.2 HS2.out (by decide), hSl, SA_iff.2 ⟨rfl, rfl, rfl, rfl, ⟨rfl, [], rfl, .inl ⟨rfl, rfl, rfl, rfl⟩⟩, ⟨rfl, [], rfl, .inl ⟨rfl, rfl, rfl, rfl⟩⟩, ⟨rfl, [], rfl, .inl ⟨rfl, rfl, rfl, rfl⟩⟩⟩⟩
  clear hp3
  have x3 : w3.cell? ⟨w.heap.size, 0, none⟩ = some (.pointer (some ⟨b, 0, none⟩)) := (blk_cell HF3.out.X 0).trans rfl
  go_wp2_with fail
  refine (HI0.out w3 HF3.out.pt.1).mono ?_
  rintro e w4 ⟨rfl, hp⟩
  have HF4 := Lib.hid (HF3.out.go hp)
  clear hp x3
  have x4 : w4.cell? ⟨w.heap.size, 0, none⟩ = some (.pointer (some ⟨b, 0, none⟩)) := (blk_cell HF4.out.X 0).trans rfl
  obtain ⟨y0, y1, y2, y3, y4, y5, y6⟩ := cells7 (x := (sv0 t.p)) HF4.out.blk
  obtain ⟨m0, m1, m2, m3, m4, m5, m6⟩ := free7 HF4.out.blk
  have hl := lt_heap HF4.out.blk
  have hx := lt_heap HF4.out.X
  go_wp2_with fail
  obtain ⟨w5, hw⟩ : ∃ W, W = (w4.setCell ⟨S, 0, none⟩ (.int .i64 3)) := ⟨_, rfl⟩
  have HF5 := Lib.hid (HF4.out.kind 3 3 rfl)
  rw [← hw] at HF5
  show Calls _ _ _ (w4.setCell ⟨S, 0, none⟩ (.int .i64 3)) _
  rw [← hw]
  clear hw hl hx y0 y1 y2 y3 y4 y5 y6 m0 m1 m2 m3 m4 m5 m6 x4
  have x5 : w5.cell? ⟨w.heap.size, 0, none⟩ = some (.pointer (some ⟨b, 0, none⟩)) := (blk_cell HF5.out.X 0).trans rfl
  refine (want_calls b g c ts (adv q) (dp + 1) HT.out ⟨#[40]⟩ w5 HF5.out.pt.1).mono ?_
  rintro e w6 ⟨rfl, hp⟩
  have HF6 := Lib.hid (HF5.out.go hp)
  clear hp x5
  have x6 : w6.cell? ⟨w.heap.size, 0, none⟩ = some (.pointer (some ⟨b, 0, none⟩)) := (blk_cell HF6.out.X 0).trans rfl
  go_wp2_with fail
  refine (HREC.out 0 b g c ts (wantp ts ⟨#[40]⟩ (adv q)) (dp + 1) w6 (by decide) (by decide) (by omega) HT.out HF6.out.pt.1).mono ?_
  rintro e w7 ⟨y, rfl, hat, hp⟩
  have HFX := Lib.hid (HF6.out.ex hp hat)
  have HF7 := Lib.hid (HF6.out.go hp)
  clear hat hp x6
  have x7 : w7.cell? ⟨w.heap.size, 0, none⟩ = some (.pointer (some ⟨b, 0, none⟩)) := (blk_cell HF7.out.X 0).trans rfl
  obtain ⟨y0, y1, y2, y3, y4, y5, y6⟩ := cells7 (x := { sv0 t.p with k := 3 }) HF7.out.blk
  obtain ⟨m0, m1, m2, m3, m4, m5, m6⟩ := free7 HF7.out.blk
  have hl := lt_heap HF7.out.blk
  have hx := lt_heap HF7.out.X
  go_wp2_with fail
  obtain ⟨w8, hw⟩ : ∃ W, W = ((w7.setCell ⟨S, 2, none⟩ (.slice (some ⟨w7.heap.size, 0, none⟩) 1 1)).alloc (.cells y.cells.toArray TE)) := ⟨_, rfl⟩
  have HF8 := Lib.hid (HFX.out)
  rw [← hw] at HF8
  show Calls _ _ _ ((w7.setCell ⟨S, 2, none⟩ (.slice (some ⟨w7.heap.size, 0, none⟩) 1 1)).alloc (.cells y.cells.toArray TE)) _
  rw [← hw]
  clear hw hl hx y0 y1 y2 y3 y4 y5 y6 m0 m1 m2 m3 m4 m5 m6 x7
  have x8 : w8.cell? ⟨w.heap.size, 0, none⟩ = some (.pointer (some ⟨b, 0, none⟩)) := (blk_cell HF8.out.X 0).trans rfl
  refine (want_calls b g c ts (exprp ts d 0 (wantp ts ⟨#[40]⟩ (adv q))).2 (dp + 1) HT.out ⟨#[41]⟩ w8 HF8.out.pt.1).mono ?_
  rintro e w9 ⟨rfl, hp⟩
  have HF9 := Lib.hid (HF8.out.go hp)
  clear hp x8
  have x9 : w9.cell? ⟨w.heap.size, 0, none⟩ = some (.pointer (some ⟨b, 0, none⟩)) := (blk_cell HF9.out.X 0).trans rfl
  go_wp2_with fail
  refine (block_calls d HST.out b g c ts (wantp ts ⟨#[41]⟩ (exprp ts d 0 (wantp ts ⟨#[40]⟩ (adv q))).2) (dp + 1) w9 (by omega) HT.out HF9.out.pt.1).mono ?_
  rintro e w10 ⟨A9, n9, c9, rfl, hbs, hp⟩
  have HF10 := Lib.hid (HF9.out.go hp)
  have HBS := Lib.hid (HF9.out.new hbs)
  clear hbs hp x9
  have x10 : w10.cell? ⟨w.heap.size, 0, none⟩ = some (.pointer (some ⟨b, 0, none⟩)) := (blk_cell HF10.out.X 0).trans rfl
  obtain ⟨y0, y1, y2, y3, y4, y5, y6⟩ := cells7 (x := { sv0 t.p with k := 3, eA := some ⟨w7.heap.size, 0, none⟩, en := 1, ec := 1 }) HF10.out.blk
  obtain ⟨m0, m1, m2, m3, m4, m5, m6⟩ := free7 HF10.out.blk
  have hl := lt_heap HF10.out.blk
  have hx := lt_heap HF10.out.X
  go_wp2_with fail
  obtain ⟨w11, hw⟩ : ∃ W, W = (w10.setCell ⟨S, 4, none⟩ (.slice A9 n9 c9)) := ⟨_, rfl⟩
  have HF11 := Lib.hid (HF10.out.body HBS.out)
  rw [← hw] at HF11
  show Calls _ _ _ (w10.setCell ⟨S, 4, none⟩ (.slice A9 n9 c9)) _
  rw [← hw]
  clear hw hl hx y0 y1 y2 y3 y4 y5 y6 m0 m1 m2 m3 m4 m5 m6 x10
  have x11 : w11.cell? ⟨w.heap.size, 0, none⟩ = some (.pointer (some ⟨b, 0, none⟩)) := (blk_cell HF11.out.X 0).trans rfl
  clear HBS
  refine (HI2.out w11 HF11.out.pt.1).mono ?_
  rintro e w12 ⟨rfl, hp⟩
  have HF12 := Lib.hid (HF11.out.go hp)
  clear hp x11
  have x12 : w12.cell? ⟨w.heap.size, 0, none⟩ = some (.pointer (some ⟨b, 0, none⟩)) := (blk_cell HF12.out.X 0).trans rfl
  obtain ⟨y0, y1, y2, y3, y4, y5, y6⟩ := cells7 (x := { sv0 t.p with k := 3, eA := some ⟨w7.heap.size, 0, none⟩, en := 1, ec := 1, bA := A9, bn := n9, bc := c9 }) HF12.out.blk
  obtain ⟨z0, z1, z2, z3, z4, z5, z6⟩ := cells7 (x := svz) HF12.out.R
  obtain ⟨l0, l1, l2, l3, l4, l5, l6⟩ := free7 HF12.out.R
  go_wp2
  refine HF12.out.ret (by omega) HRES.out ?_
  rfl
set_option maxRecDepth 100000 in
set_option maxHeartbeats 8000000 in
theorem stmt_else (d : Nat) (b g c : Nat) (ts : List Tok) (q : PS) (dp : Nat) (w : World) (hst : StmtP d) (hdp : dp + (d + 1) = 40) (hts : Toks ts) (h : PM w b g c ts q dp) (he : ¬ q.e.isSome = true) (hi0 : isp ts ⟨#[105, 102]⟩ q = true) (hi2 : isp ts ⟨#[101, 108, 115, 101]⟩ (blockp ts (stmtp ts d) (wantp ts ⟨#[41]⟩ (exprp ts d 0 (wantp ts ⟨#[40]⟩ (adv q))).2)).2 = true) :
    Calls Tryd.prog 58 #[.pointer (some ⟨b, 0, none⟩)] w (TPost w b g c ts (stmtp ts (d + 1) q) dp) := by
  obtain ⟨res, hres⟩ : ∃ res, res = stmtp ts (d + 1) q := ⟨_, rfl⟩
  have e1 : res = (⟨3, ⟨#[]⟩, [(exprp ts d 0 (wantp ts ⟨#[40]⟩ (adv q))).1], 0, (blockp ts (stmtp ts d) (wantp ts ⟨#[41]⟩ (exprp ts d 0 (wantp ts ⟨#[40]⟩ (adv q))).2)).1, (blockp ts (stmtp ts d) (adv (blockp ts (stmtp ts d) (wantp ts ⟨#[41]⟩ (exprp ts d 0 (wantp ts ⟨#[40]⟩ (adv q))).2)).2)).1, (nxt ts q).p⟩, (blockp ts (stmtp ts d) (adv (blockp ts (stmtp ts d) (wantp ts ⟨#[41]⟩ (exprp ts d 0 (wantp ts ⟨#[40]⟩ (adv q))).2)).2)).2) := by rw [hres]; unfold stmtp; rw [if_neg he, if_pos hi0]; simp only [hi2, if_true]
  have hen : entp ts q dp = q := by unfold entp; rw [if_neg (by omega)]
  obtain ⟨t, ht⟩ : ∃ t, t = nxt ts q := ⟨_, rfl⟩
  rw [← hres]
  rw [← ht] at e1
  obtain ⟨w0, hw0⟩ : ∃ w0, w0 = (w.alloc (.cells #[.pointer (some ⟨b, 0, none⟩)] TPp)).alloc (.cells svz.cells.toArray TS) := ⟨_, rfl⟩
  have hp0 : PT w b g c ts q dp w0 := by rw [hw0]; exact (PT.alloc ⟨h, gb_refl _ _⟩ _).alloc _
  have hX : w0.heap[w.heap.size]? = some (.cells #[.pointer (some ⟨b, 0, none⟩)] TPp (0, 0)) := by rw [hw0]; exact blk_alloc (blk_new _ _) _
  have hR : w0.heap[w.heap.size + 1]? = some (.cells svz.cells.toArray TS (0, 0)) := by
    rw [hw0]
    have := blk_new (w.alloc (.cells #[.pointer (some ⟨b, 0, none⟩)] TPp)) (.cells svz.cells.toArray TS)
    simpa using this
  have hn := next_calls b g c ts q dp hts w0 hp0.1
  rw [← ht] at hn
  have HRES := Lib.hid e1
  have HN := Lib.hid hn
  have HW := Lib.hid hw0
  have HP0 := Lib.hid hp0
  have HX := Lib.hid hX
  have HR := Lib.hid hR
  have HT := Lib.hid hts
  have c0 : w0.cell? ⟨w.heap.size, 0, none⟩ = some (.pointer (some ⟨b, 0, none⟩)) := (blk_cell hX 0).trans rfl
  have HE : Hid (q.e.isNone = true) := Lib.hid (by cases hq : q.e <;> simp_all)
  have HEN := Lib.hid hen
  have HST := Lib.hid hst
  have HREC := Lib.hid (expr_any d)
  have HI0 := Lib.hid (take_yes (x := ⟨#[105, 102]⟩) (dp := dp + 1) (b := b) (g := g) (c := c) hts hi0)
  have HI2 := Lib.hid (take_yes (x := ⟨#[101, 108, 115, 101]⟩) (dp := dp + 1) (b := b) (g := g) (c := c) hts hi2)
  clear hn hw0 hp0 hX hR hts h e1 hres ht he hen hst hi0 hi2
  go_enter_defers Tryd.func58, Tryd.ntmps58
  go_wp2_with fail
  show Calls _ _ _ ((w.alloc (.cells #[.pointer (some ⟨b, 0, none⟩)] TPp)).alloc (.cells svz.cells.toArray TS)) _
  rw [← HW.out]
  refine HN.out.mono ?_
  rintro e w1 ⟨rfl, hb1⟩
  have HX1 := Lib.hid (blk_below HX.out hb1)
  have HR1 := Lib.hid (blk_below HR.out hb1)
  have HP1 := Lib.hid (HP0.out.trans (PT.of HP0.out.1 hb1))
  have hlR := lt_heap HR1.out
  have hlX := lt_heap HX1.out
  clear hb1 c0
  obtain ⟨S, hS⟩ : ∃ S, S = w1.heap.size := ⟨_, rfl⟩
  obtain ⟨W2, hW2⟩ : ∃ W2, W2 = w1.alloc (.cells (sv0 t.p).cells.toArray TS) := ⟨_, rfl⟩
  have HP2 : Hid (PT w b g c ts q dp W2) := Lib.hid (by rw [hW2]; exact HP1.out.alloc _)
  have HX2 : Hid (W2.heap[w.heap.size]? = some (.cells #[.pointer (some ⟨b, 0, none⟩)] TPp (0, 0))) := Lib.hid (by rw [hW2]; exact blk_alloc HX1.out _)
  have HR2 : Hid (W2.heap[w.heap.size + 1]? = some (.cells svz.cells.toArray TS (0, 0))) := Lib.hid (by rw [hW2]; exact blk_alloc HR1.out _)
  have HS2 : Hid (W2.heap[S]? = some (.cells (sv0 t.p).cells.toArray TS (0, 0))) := Lib.hid (by rw [hW2, hS]; exact blk_new _ _)
  have hSl : w.heap.size + 1 < S := by omega
  have hfd := tok_place t
  have x1 : w1.cell? ⟨w.heap.size, 0, none⟩ = some (.pointer (some ⟨b, 0, none⟩)) := (blk_cell HX1.out 0).trans rfl
  go_wp2_with fail
  rw [← hS]
  show Calls _ _ _ (w1.alloc (.cells (sv0 t.p).cells.toArray TS)) _
  rw [← hW2]
  clear hW2 hS x1 hlR hlX hfd
  have hen2 := enter_calls b g c ts q dp (by omega) HT.out W2 HP2.out.1
  rw [HEN.out, HE.out] at hen2
  refine hen2.mono ?_
  clear hen2
  rintro e w3 ⟨rfl, hp3⟩
  have HF3 : Hid (FI w b g c ts dp S (st0 t.p) (sv0 t.p) q w3) := Lib.hid ⟨HP2.out.trans hp3, blk_pm HP2.out.1 hp3.2 HX2.out (by decide), blk_pm HP2.out.1 hp3.2 HR2.out (by decide), blk_pm HP2.out.1 hp3.2 HS2.out (by decide), hSl, SA_iff.2 ⟨rfl, rfl, rfl, rfl, ⟨rfl, [], rfl, .inl ⟨rfl, rfl, rfl, rfl⟩⟩, ⟨rfl, [], rfl, .inl ⟨rfl, rfl, rfl, rfl⟩⟩, ⟨rfl, [], rfl, .inl ⟨rfl, rfl, rfl, rfl⟩⟩⟩⟩
  clear hp3
  have x3 : w3.cell? ⟨w.heap.size, 0, none⟩ = some (.pointer (some ⟨b, 0, none⟩)) := (blk_cell HF3.out.X 0).trans rfl
  go_wp2_with fail
  refine (HI0.out w3 HF3.out.pt.1).mono ?_
  rintro e w4 ⟨rfl, hp⟩
  have HF4 := Lib.hid (HF3.out.go hp)
  clear hp x3
  have x4 : w4.cell? ⟨w.heap.size, 0, none⟩ = some (.pointer (some ⟨b, 0, none⟩)) := (blk_cell HF4.out.X 0).trans rfl
  obtain ⟨y0, y1, y2, y3, y4, y5, y6⟩ := cells7 (x := (sv0 t.p)) HF4.out.blk
  obtain ⟨m0, m1, m2, m3, m4, m5, m6⟩ := free7 HF4.out.blk
  have hl := lt_heap HF4.out.blk
  have hx := lt_heap HF4.out.X
  go_wp2_with fail
  obtain ⟨w5, hw⟩ : ∃ W, W = (w4.setCell ⟨S, 0, none⟩ (.int .i64 3)) := ⟨_, rfl⟩
  have HF5 := Lib.hid (HF4.out.kind 3 3 rfl)
  rw [← hw] at HF5
  show Calls _ _ _ (w4.setCell ⟨S, 0, none⟩ (.int .i64 3)) _
  rw [← hw]
  clear hw hl hx y0 y1 y2 y3 y4 y5 y6 m0 m1 m2 m3 m4 m5 m6 x4
  have x5 : w5.cell? ⟨w.heap.size, 0, none⟩ = some (.pointer (some ⟨b, 0, none⟩)) := (blk_cell HF5.out.X 0).trans rfl
  refine (want_calls b g c ts (adv q) (dp + 1) HT.out ⟨#[40]⟩ w5 HF5.out.pt.1).mono ?_
  rintro e w6 ⟨rfl, hp⟩
  have HF6 := Lib.hid (HF5.out.go hp)
  clear hp x5
  have x6 : w6.cell? ⟨w.heap.size, 0, none⟩ = some (.pointer (some ⟨b, 0, none⟩)) := (blk_cell HF6.out.X 0).trans rfl
  go_wp2_with fail
  refine (HREC.out 0 b g c ts (wantp ts ⟨#[40]⟩ (adv q)) (dp + 1) w6 (by decide) (by decide) (by omega) HT.out HF6.out.pt.1).mono ?_
  rintro e w7 ⟨y, rfl, hat, hp⟩
  have HFX := Lib.hid (HF6.out.ex hp hat)
  have HF7 := Lib.hid (HF6.out.go hp)
  clear hat hp x6
  have x7 : w7.cell? ⟨w.heap.size, 0, none⟩ = some (.pointer (some ⟨b, 0, none⟩)) := (blk_cell HF7.out.X 0).trans rfl
  obtain ⟨y0, y1, y2, y3, y4, y5, y6⟩ := cells7 (x := { sv0 t.p with k := 3 }) HF7.out.blk
  obtain ⟨m0, m1, m2, m3, m4, m5, m6⟩ := free7 HF7.out.blk
  have hl := lt_heap HF7.out.blk
  have hx := lt_heap HF7.out.X
  go_wp2_with fail
  obtain ⟨w8, hw⟩ : ∃ W, W = ((w7.setCell ⟨S, 2, none⟩ (.slice (some ⟨w7.heap.size, 0, none⟩) 1 1)).alloc (.cells y.cells.toArray TE)) := ⟨_, rfl⟩
  have HF8 := Lib.hid (HFX.out)
  rw [← hw] at HF8
  show Calls _ _ _ ((w7.setCell ⟨S, 2, none⟩ (.slice (some ⟨w7.heap.size, 0, none⟩) 1 1)).alloc (.cells y.cells.toArray TE)) _
  rw [← hw]
  clear hw hl hx y0 y1 y2 y3 y4 y5 y6 m0 m1 m2 m3 m4 m5 m6 x7
  have x8 : w8.cell? ⟨w.heap.size, 0, none⟩ = some (.pointer (some ⟨b, 0, none⟩)) := (blk_cell HF8.out.X 0).trans rfl
  refine (want_calls b g c ts (exprp ts d 0 (wantp ts ⟨#[40]⟩ (adv q))).2 (dp + 1) HT.out ⟨#[41]⟩ w8 HF8.out.pt.1).mono ?_
  rintro e w9 ⟨rfl, hp⟩
  have HF9 := Lib.hid (HF8.out.go hp)
  clear hp x8
  have x9 : w9.cell? ⟨w.heap.size, 0, none⟩ = some (.pointer (some ⟨b, 0, none⟩)) := (blk_cell HF9.out.X 0).trans rfl
  go_wp2_with fail
  refine (block_calls d HST.out b g c ts (wantp ts ⟨#[41]⟩ (exprp ts d 0 (wantp ts ⟨#[40]⟩ (adv q))).2) (dp + 1) w9 (by omega) HT.out HF9.out.pt.1).mono ?_
  rintro e w10 ⟨A9, n9, c9, rfl, hbs, hp⟩
  have HF10 := Lib.hid (HF9.out.go hp)
  have HBS := Lib.hid (HF9.out.new hbs)
  clear hbs hp x9
  have x10 : w10.cell? ⟨w.heap.size, 0, none⟩ = some (.pointer (some ⟨b, 0, none⟩)) := (blk_cell HF10.out.X 0).trans rfl
  obtain ⟨y0, y1, y2, y3, y4, y5, y6⟩ := cells7 (x := { sv0 t.p with k := 3, eA := some ⟨w7.heap.size, 0, none⟩, en := 1, ec := 1 }) HF10.out.blk
  obtain ⟨m0, m1, m2, m3, m4, m5, m6⟩ := free7 HF10.out.blk
  have hl := lt_heap HF10.out.blk
  have hx := lt_heap HF10.out.X
  go_wp2_with fail
  obtain ⟨w11, hw⟩ : ∃ W, W = (w10.setCell ⟨S, 4, none⟩ (.slice A9 n9 c9)) := ⟨_, rfl⟩
  have HF11 := Lib.hid (HF10.out.body HBS.out)
  rw [← hw] at HF11
  show Calls _ _ _ (w10.setCell ⟨S, 4, none⟩ (.slice A9 n9 c9)) _
  rw [← hw]
  clear hw hl hx y0 y1 y2 y3 y4 y5 y6 m0 m1 m2 m3 m4 m5 m6 x10
  have x11 : w11.cell? ⟨w.heap.size, 0, none⟩ = some (.pointer (some ⟨b, 0, none⟩)) := (blk_cell HF11.out.X 0).trans rfl
  clear HBS
  refine (HI2.out w11 HF11.out.pt.1).mono ?_
  rintro e w12 ⟨rfl, hp⟩
  have HF12 := Lib.hid (HF11.out.go hp)
  clear hp x11
  have x12 : w12.cell? ⟨w.heap.size, 0, none⟩ = some (.pointer (some ⟨b, 0, none⟩)) := (blk_cell HF12.out.X 0).trans rfl
  go_wp2_with fail
  refine (block_calls d HST.out b g c ts (adv (blockp ts (stmtp ts d) (wantp ts ⟨#[41]⟩ (exprp ts d 0 (wantp ts ⟨#[40]⟩ (adv q))).2)).2) (dp + 1) w12 (by omega) HT.out HF12.out.pt.1).mono ?_
  rintro e w13 ⟨A12, n12, c12, rfl, hbs, hp⟩
  have HF13 := Lib.hid (HF12.out.go hp)
  have HBS := Lib.hid (HF12.out.new hbs)
  clear hbs hp x12
  have x13 : w13.cell? ⟨w.heap.size, 0, none⟩ = some (.pointer (some ⟨b, 0, none⟩)) := (blk_cell HF13.out.X 0).trans rfl
  obtain ⟨y0, y1, y2, y3, y4, y5, y6⟩ := cells7 (x := { sv0 t.p with k := 3, eA := some ⟨w7.heap.size, 0, none⟩, en := 1, ec := 1, bA := A9, bn := n9, bc := c9 }) HF13.out.blk
  obtain ⟨m0, m1, m2, m3, m4, m5, m6⟩ := free7 HF13.out.blk
  obtain ⟨z0, z1, z2, z3, z4, z5, z6⟩ := cells7 (x := svz) HF13.out.R
  obtain ⟨l0, l1, l2, l3, l4, l5, l6⟩ := free7 HF13.out.R
  have HFN := Lib.hid (HF13.out.els HBS.out)
  have hne : w.heap.size + 1 ≠ S := by omega
  go_wp2
  refine HFN.out.ret (by omega) HRES.out ?_
  rfl
set_option maxRecDepth 100000 in
set_option maxHeartbeats 8000000 in
theorem stmt_loop (d : Nat) (b g c : Nat) (ts : List Tok) (q : PS) (dp : Nat) (w : World) (hst : StmtP d) (hdp : dp + (d + 1) = 40) (hts : Toks ts) (h : PM w b g c ts q dp) (he : ¬ q.e.isSome = true) (hi0 : isp ts ⟨#[105, 102]⟩ q = false) (hi1 : isp ts ⟨#[108, 111, 111, 112]⟩ q = true) :
    Calls Tryd.prog 58 #[.pointer (some ⟨b, 0, none⟩)] w (TPost w b g c ts (stmtp ts (d + 1) q) dp) := by
  obtain ⟨res, hres⟩ : ∃ res, res = stmtp ts (d + 1) q := ⟨_, rfl⟩
  have e1 : res = (⟨4, (namep ts (adv q)).1, [], (numberp ts 1 256 (namep ts (adv q)).2).1, (blockp ts (stmtp ts d) (numberp ts 1 256 (namep ts (adv q)).2).2).1, .nil, (nxt ts q).p⟩, (blockp ts (stmtp ts d) (numberp ts 1 256 (namep ts (adv q)).2).2).2) := by rw [hres]; unfold stmtp; rw [if_neg he, if_neg (by rw [hi0]; decide), if_pos hi1]
  have hen : entp ts q dp = q := by unfold entp; rw [if_neg (by omega)]
  obtain ⟨t, ht⟩ : ∃ t, t = nxt ts q := ⟨_, rfl⟩
  rw [← hres]
  rw [← ht] at e1
  obtain ⟨w0, hw0⟩ : ∃ w0, w0 = (w.alloc (.cells #[.pointer (some ⟨b, 0, none⟩)] TPp)).alloc (.cells svz.cells.toArray TS) := ⟨_, rfl⟩
  have hp0 : PT w b g c ts q dp w0 := by rw [hw0]; exact (PT.alloc ⟨h, gb_refl _ _⟩ _).alloc _
  have hX : w0.heap[w.heap.size]? = some (.cells #[.pointer (some ⟨b, 0, none⟩)] TPp (0, 0)) := by rw [hw0]; exact blk_alloc (blk_new _ _) _
  have hR : w0.heap[w.heap.size + 1]? = some (.cells svz.cells.toArray TS (0, 0)) := by
    rw [hw0]
    have := blk_new (w.alloc (.cells #[.pointer (some ⟨b, 0, none⟩)] TPp)) (.cells svz.cells.toArray TS)
    simpa using this
  have hn := next_calls b g c ts q dp hts w0 hp0.1
  rw [← ht] at hn
  have HRES := Lib.hid e1
  have HN := Lib.hid hn
  have HW := Lib.hid hw0
  have HP0 := Lib.hid hp0
  have HX := Lib.hid hX
  have HR := Lib.hid hR
  have HT := Lib.hid hts
  have c0 : w0.cell? ⟨w.heap.size, 0, none⟩ = some (.pointer (some ⟨b, 0, none⟩)) := (blk_cell hX 0).trans rfl
  have HE : Hid (q.e.isNone = true) := Lib.hid (by cases hq : q.e <;> simp_all)
  have HEN := Lib.hid hen
  have HST := Lib.hid hst
  have HREC := Lib.hid (expr_any d)
  have HI0 := Lib.hid (take_no (x := ⟨#[105, 102]⟩) (dp := dp + 1) (b := b) (g := g) (c := c) hts hi0)
  have HI1 := Lib.hid (take_yes (x := ⟨#[108, 111, 111, 112]⟩) (dp := dp + 1) (b := b) (g := g) (c := c) hts hi1)
  clear hn hw0 hp0 hX hR hts h e1 hres ht he hen hst hi0 hi1
  go_enter_defers Tryd.func58, Tryd.ntmps58
  go_wp2_with fail
  show Calls _ _ _ ((w.alloc (.cells #[.pointer (some ⟨b, 0, none⟩)] TPp)).alloc (.cells svz.cells.toArray TS)) _
  rw [← HW.out]
  refine HN.out.mono ?_
  rintro e w1 ⟨rfl, hb1⟩
  have HX1 := Lib.hid (blk_below HX.out hb1)
  have HR1 := Lib.hid (blk_below HR.out hb1)
  have HP1 := Lib.hid (HP0.out.trans (PT.of HP0.out.1 hb1))
  have hlR := lt_heap HR1.out
  have hlX := lt_heap HX1.out
  clear hb1 c0
  obtain ⟨S, hS⟩ : ∃ S, S = w1.heap.size := ⟨_, rfl⟩
  obtain ⟨W2, hW2⟩ : ∃ W2, W2 = w1.alloc (.cells (sv0 t.p).cells.toArray TS) := ⟨_, rfl⟩
  have HP2 : Hid (PT w b g c ts q dp W2) := Lib.hid (by rw [hW2]; exact HP1.out.alloc _)
  have HX2 : Hid (W2.heap[w.heap.size]? = some (.cells #[.pointer (some ⟨b, 0, none⟩)] TPp (0, 0))) := Lib.hid (by rw [hW2]; exact blk_alloc HX1.out _)
  have HR2 : Hid (W2.heap[w.heap.size + 1]? = some (.cells svz.cells.toArray TS (0, 0))) := Lib.hid (by rw [hW2]; exact blk_alloc HR1.out _)
  have HS2 : Hid (W2.heap[S]? = some (.cells (sv0 t.p).cells.toArray TS (0, 0))) := Lib.hid (by rw [hW2, hS]; exact blk_new _ _)
  have hSl : w.heap.size + 1 < S := by omega
  have hfd := tok_place t
  have x1 : w1.cell? ⟨w.heap.size, 0, none⟩ = some (.pointer (some ⟨b, 0, none⟩)) := (blk_cell HX1.out 0).trans rfl
  go_wp2_with fail
  rw [← hS]
  show Calls _ _ _ (w1.alloc (.cells (sv0 t.p).cells.toArray TS)) _
  rw [← hW2]
  clear hW2 hS x1 hlR hlX hfd
  have hen2 := enter_calls b g c ts q dp (by omega) HT.out W2 HP2.out.1
  rw [HEN.out, HE.out] at hen2
  refine hen2.mono ?_
  clear hen2
  rintro e w3 ⟨rfl, hp3⟩
  have HF3 : Hid (FI w b g c ts dp S (st0 t.p) (sv0 t.p) q w3) := Lib.hid ⟨HP2.out.trans hp3, blk_pm HP2.out.1 hp3.2 HX2.out (by decide), blk_pm HP2.out.1 hp3.2 HR2.out (by decide), blk_pm HP2.out.1 hp3.2 HS2.out (by decide), hSl, SA_iff.2 ⟨rfl, rfl, rfl, rfl, ⟨rfl, [], rfl, .inl ⟨rfl, rfl, rfl, rfl⟩⟩, ⟨rfl, [], rfl, .inl ⟨rfl, rfl, rfl, rfl⟩⟩, ⟨rfl, [], rfl, .inl ⟨rfl, rfl, rfl, rfl⟩⟩⟩⟩
  clear hp3
  have x3 : w3.cell? ⟨w.heap.size, 0, none⟩ = some (.pointer (some ⟨b, 0, none⟩)) := (blk_cell HF3.out.X 0).trans rfl
  go_wp2_with fail
  refine (HI0.out w3 HF3.out.pt.1).mono ?_
  rintro e w4 ⟨rfl, hp⟩
  have HF4 := Lib.hid (HF3.out.go hp)
  clear hp x3
  have x4 : w4.cell? ⟨w.heap.size, 0, none⟩ = some (.pointer (some ⟨b, 0, none⟩)) := (blk_cell HF4.out.X 0).trans rfl
  go_wp2_with fail
  refine (HI1.out w4 HF4.out.pt.1).mono ?_
  rintro e w5 ⟨rfl, hp⟩
  have HF5 := Lib.hid (HF4.out.go hp)
  clear hp x4
  have x5 : w5.cell? ⟨w.heap.size, 0, none⟩ = some (.pointer (some ⟨b, 0, none⟩)) := (blk_cell HF5.out.X 0).trans rfl
  go_wp2_with fail
  refine (name_calls b g c ts (adv q) (dp + 1) HT.out w5 HF5.out.pt.1).mono ?_
  rintro e w6 ⟨rfl, hp⟩
  have HF6 := Lib.hid (HF5.out.go hp)
  clear hp x5
  have x6 : w6.cell? ⟨w.heap.size, 0, none⟩ = some (.pointer (some ⟨b, 0, none⟩)) := (blk_cell HF6.out.X 0).trans rfl
  obtain ⟨y0, y1, y2, y3, y4, y5, y6⟩ := cells7 (x := (sv0 t.p)) HF6.out.blk
  obtain ⟨m0, m1, m2, m3, m4, m5, m6⟩ := free7 HF6.out.blk
  have hl := lt_heap HF6.out.blk
  have hx := lt_heap HF6.out.X
  go_wp2_with fail
  obtain ⟨w7, hw⟩ : ∃ W, W = ((w6.setCell ⟨S, 0, none⟩ (.int .i64 4)).setCell ⟨S, 1, none⟩ (.string (namep ts (adv q)).1)) := ⟨_, rfl⟩
  have HF7 := Lib.hid ((HF6.out.kind 4 4 rfl).name (namep ts (adv q)).1)
  rw [← hw] at HF7
  show Calls _ _ _ ((w6.setCell ⟨S, 0, none⟩ (.int .i64 4)).setCell ⟨S, 1, none⟩ (.string (namep ts (adv q)).1)) _
  rw [← hw]
  clear hw hl hx y0 y1 y2 y3 y4 y5 y6 m0 m1 m2 m3 m4 m5 m6 x6
  have x7 : w7.cell? ⟨w.heap.size, 0, none⟩ = some (.pointer (some ⟨b, 0, none⟩)) := (blk_cell HF7.out.X 0).trans rfl
  refine (numberp_calls b g c ts (namep ts (adv q)).2 (dp + 1) 256 (.inl rfl) HT.out w7 HF7.out.pt.1).mono ?_
  rintro e w8 ⟨rfl, hp⟩
  have HF8 := Lib.hid (HF7.out.go hp)
  clear hp x7
  have x8 : w8.cell? ⟨w.heap.size, 0, none⟩ = some (.pointer (some ⟨b, 0, none⟩)) := (blk_cell HF8.out.X 0).trans rfl
  obtain ⟨y0, y1, y2, y3, y4, y5, y6⟩ := cells7 (x := { sv0 t.p with k := 4, s := (namep ts (adv q)).1 }) HF8.out.blk
  obtain ⟨m0, m1, m2, m3, m4, m5, m6⟩ := free7 HF8.out.blk
  have hl := lt_heap HF8.out.blk
  have hx := lt_heap HF8.out.X
  go_wp2_with fail
  obtain ⟨w9, hw⟩ : ∃ W, W = (w8.setCell ⟨S, 3, none⟩ (.int .i64 (numberp ts 1 256 (namep ts (adv q)).2).1)) := ⟨_, rfl⟩
  have HF9 := Lib.hid (HF8.out.count (numberp ts 1 256 (namep ts (adv q)).2).1)
  rw [← hw] at HF9
  show Calls _ _ _ (w8.setCell ⟨S, 3, none⟩ (.int .i64 (numberp ts 1 256 (namep ts (adv q)).2).1)) _
  rw [← hw]
  clear hw hl hx y0 y1 y2 y3 y4 y5 y6 m0 m1 m2 m3 m4 m5 m6 x8
  have x9 : w9.cell? ⟨w.heap.size, 0, none⟩ = some (.pointer (some ⟨b, 0, none⟩)) := (blk_cell HF9.out.X 0).trans rfl
  refine (block_calls d HST.out b g c ts (numberp ts 1 256 (namep ts (adv q)).2).2 (dp + 1) w9 (by omega) HT.out HF9.out.pt.1).mono ?_
  rintro e w10 ⟨A9, n9, c9, rfl, hbs, hp⟩
  have HF10 := Lib.hid (HF9.out.go hp)
  have HBS := Lib.hid (HF9.out.new hbs)
  clear hbs hp x9
  obtain ⟨y0, y1, y2, y3, y4, y5, y6⟩ := cells7 (x := { sv0 t.p with k := 4, s := (namep ts (adv q)).1, n := (numberp ts 1 256 (namep ts (adv q)).2).1 }) HF10.out.blk
  obtain ⟨m0, m1, m2, m3, m4, m5, m6⟩ := free7 HF10.out.blk
  obtain ⟨z0, z1, z2, z3, z4, z5, z6⟩ := cells7 (x := svz) HF10.out.R
  obtain ⟨l0, l1, l2, l3, l4, l5, l6⟩ := free7 HF10.out.R
  have HFN := Lib.hid (HF10.out.body HBS.out)
  have hne : w.heap.size + 1 ≠ S := by omega
  go_wp2
  refine HFN.out.ret (by omega) HRES.out ?_
  rfl
set_option maxRecDepth 100000 in
set_option maxHeartbeats 8000000 in
theorem stmt_simple (d : Nat) (b g c : Nat) (ts : List Tok) (q : PS) (dp : Nat) (w : World) (hst : StmtP d) (hdp : dp + (d + 1) = 40) (hts : Toks ts) (h : PM w b g c ts q dp) (he : ¬ q.e.isSome = true) (hi0 : isp ts ⟨#[105, 102]⟩ q = false) (hi1 : isp ts ⟨#[108, 111, 111, 112]⟩ q = false) :
    Calls Tryd.prog 58 #[.pointer (some ⟨b, 0, none⟩)] w (TPost w b g c ts (stmtp ts (d + 1) q) dp) := by
  obtain ⟨res, hres⟩ : ∃ res, res = stmtp ts (d + 1) q := ⟨_, rfl⟩
  have e1 : res = ((simplep ts (exprp ts d 0) (nxt ts q).p q).1, wantp ts ⟨#[59]⟩ (simplep ts (exprp ts d 0) (nxt ts q).p q).2) := by rw [hres]; unfold stmtp; rw [if_neg he, if_neg (by rw [hi0]; decide), if_neg (by rw [hi1]; decide)]
  have hen : entp ts q dp = q := by unfold entp; rw [if_neg (by omega)]
  obtain ⟨t, ht⟩ : ∃ t, t = nxt ts q := ⟨_, rfl⟩
  rw [← hres]
  rw [← ht] at e1
  obtain ⟨w0, hw0⟩ : ∃ w0, w0 = (w.alloc (.cells #[.pointer (some ⟨b, 0, none⟩)] TPp)).alloc (.cells svz.cells.toArray TS) := ⟨_, rfl⟩
  have hp0 : PT w b g c ts q dp w0 := by rw [hw0]; exact (PT.alloc ⟨h, gb_refl _ _⟩ _).alloc _
  have hX : w0.heap[w.heap.size]? = some (.cells #[.pointer (some ⟨b, 0, none⟩)] TPp (0, 0)) := by rw [hw0]; exact blk_alloc (blk_new _ _) _
  have hR : w0.heap[w.heap.size + 1]? = some (.cells svz.cells.toArray TS (0, 0)) := by
    rw [hw0]
    have := blk_new (w.alloc (.cells #[.pointer (some ⟨b, 0, none⟩)] TPp)) (.cells svz.cells.toArray TS)
    simpa using this
  have hn := next_calls b g c ts q dp hts w0 hp0.1
  rw [← ht] at hn
  have HRES := Lib.hid e1
  have HN := Lib.hid hn
  have HW := Lib.hid hw0
  have HP0 := Lib.hid hp0
  have HX := Lib.hid hX
  have HR := Lib.hid hR
  have HT := Lib.hid hts
  have c0 : w0.cell? ⟨w.heap.size, 0, none⟩ = some (.pointer (some ⟨b, 0, none⟩)) := (blk_cell hX 0).trans rfl
  have HE : Hid (q.e.isNone = true) := Lib.hid (by cases hq : q.e <;> simp_all)
  have HEN := Lib.hid hen
  have HST := Lib.hid hst
  have HREC := Lib.hid (expr_any d)
  have HI0 := Lib.hid (take_no (x := ⟨#[105, 102]⟩) (dp := dp + 1) (b := b) (g := g) (c := c) hts hi0)
  have HI1 := Lib.hid (take_no (x := ⟨#[108, 111, 111, 112]⟩) (dp := dp + 1) (b := b) (g := g) (c := c) hts hi1)
  clear hn hw0 hp0 hX hR hts h e1 hres ht he hen hst hi0 hi1
  go_enter_defers Tryd.func58, Tryd.ntmps58
  go_wp2_with fail
  show Calls _ _ _ ((w.alloc (.cells #[.pointer (some ⟨b, 0, none⟩)] TPp)).alloc (.cells svz.cells.toArray TS)) _
  rw [← HW.out]
  refine HN.out.mono ?_
  rintro e w1 ⟨rfl, hb1⟩
  have HX1 := Lib.hid (blk_below HX.out hb1)
  have HR1 := Lib.hid (blk_below HR.out hb1)
  have HP1 := Lib.hid (HP0.out.trans (PT.of HP0.out.1 hb1))
  have hlR := lt_heap HR1.out
  have hlX := lt_heap HX1.out
  clear hb1 c0
  obtain ⟨S, hS⟩ : ∃ S, S = w1.heap.size := ⟨_, rfl⟩
  obtain ⟨W2, hW2⟩ : ∃ W2, W2 = w1.alloc (.cells (sv0 t.p).cells.toArray TS) := ⟨_, rfl⟩
  have HP2 : Hid (PT w b g c ts q dp W2) := Lib.hid (by rw [hW2]; exact HP1.out.alloc _)
  have HX2 : Hid (W2.heap[w.heap.size]? = some (.cells #[.pointer (some ⟨b, 0, none⟩)] TPp (0, 0))) := Lib.hid (by rw [hW2]; exact blk_alloc HX1.out _)
  have HR2 : Hid (W2.heap[w.heap.size + 1]? = some (.cells svz.cells.toArray TS (0, 0))) := Lib.hid (by rw [hW2]; exact blk_alloc HR1.out _)
  have HS2 : Hid (W2.heap[S]? = some (.cells (sv0 t.p).cells.toArray TS (0, 0))) := Lib.hid (by rw [hW2, hS]; exact blk_new _ _)
  have hSl : w.heap.size + 1 < S := by omega
  have hfd := tok_place t
  have x1 : w1.cell? ⟨w.heap.size, 0, none⟩ = some (.pointer (some ⟨b, 0, none⟩)) := (blk_cell HX1.out 0).trans rfl
  go_wp2_with fail
  rw [← hS]
  show Calls _ _ _ (w1.alloc (.cells (sv0 t.p).cells.toArray TS)) _
  rw [← hW2]
  clear hW2 hS x1 hlR hlX hfd
  have hen2 := enter_calls b g c ts q dp (by omega) HT.out W2 HP2.out.1
  rw [HEN.out, HE.out] at hen2
  refine hen2.mono ?_
  clear hen2
  rintro e w3 ⟨rfl, hp3⟩
  have HF3 : Hid (FI w b g c ts dp S (st0 t.p) (sv0 t.p) q w3) := Lib.hid ⟨HP2.out.trans hp3, blk_pm HP2.out.1 hp3.2 HX2.out (by decide), blk_pm HP2.out.1 hp3.2 HR2.out (by decide), blk_pm HP2.out.1 hp3.2 HS2.out (by decide), hSl, SA_iff.2 ⟨rfl, rfl, rfl, rfl, ⟨rfl, [], rfl, .inl ⟨rfl, rfl, rfl, rfl⟩⟩, ⟨rfl, [], rfl, .inl ⟨rfl, rfl, rfl, rfl⟩⟩, ⟨rfl, [], rfl, .inl ⟨rfl, rfl, rfl, rfl⟩⟩⟩⟩
  clear hp3
  have x3 : w3.cell? ⟨w.heap.size, 0, none⟩ = some (.pointer (some ⟨b, 0, none⟩)) := (blk_cell HF3.out.X 0).trans rfl
  go_wp2_with fail
  refine (HI0.out w3 HF3.out.pt.1).mono ?_
  rintro e w4 ⟨rfl, hp⟩
  have HF4 := Lib.hid (HF3.out.go hp)
  clear hp x3
  have x4 : w4.cell? ⟨w.heap.size, 0, none⟩ = some (.pointer (some ⟨b, 0, none⟩)) := (blk_cell HF4.out.X 0).trans rfl
  go_wp2_with fail
  refine (HI1.out w4 HF4.out.pt.1).mono ?_
  rintro e w5 ⟨rfl, hp⟩
  have HF5 := Lib.hid (HF4.out.go hp)
  clear hp x4
  have x5 : w5.cell? ⟨w.heap.size, 0, none⟩ = some (.pointer (some ⟨b, 0, none⟩)) := (blk_cell HF5.out.X 0).trans rfl
  go_wp2_with fail
  refine (simple_any d b g c ts q (dp + 1) S t.p w5 (by omega) HT.out HF5.out.pt.1 HF5.out.blk).mono ?_
  rintro e w6 ⟨rfl, x, hS, hsa, hm, hg⟩
  have HF6 := Lib.hid (HF5.out.simple hS hsa hm hg)
  clear hS hsa hm hg x5
  have x6 : w6.cell? ⟨w.heap.size, 0, none⟩ = some (.pointer (some ⟨b, 0, none⟩)) := (blk_cell HF6.out.X 0).trans rfl
  go_wp2_with fail
  refine (want_calls b g c ts (simplep ts (exprp ts d 0) t.p q).2 (dp + 1) HT.out ⟨#[59]⟩ w6 HF6.out.pt.1).mono ?_
  rintro e w7 ⟨rfl, hp⟩
  have HF7 := Lib.hid (HF6.out.go hp)
  clear hp x6
  have x7 : w7.cell? ⟨w.heap.size, 0, none⟩ = some (.pointer (some ⟨b, 0, none⟩)) := (blk_cell HF7.out.X 0).trans rfl
  obtain ⟨y0, y1, y2, y3, y4, y5, y6⟩ := cells7 (x := x) HF7.out.blk
  obtain ⟨z0, z1, z2, z3, z4, z5, z6⟩ := cells7 (x := svz) HF7.out.R
  obtain ⟨l0, l1, l2, l3, l4, l5, l6⟩ := free7 HF7.out.R
  go_wp2
  refine HF7.out.ret (by omega) HRES.out ?_
  rfl
end Go.Proofs.YtcdgjgoplogiiaaDoor.PT
