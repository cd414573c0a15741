/- (*parser).simple: all statements but those that begin with a name. -/
import Derived.Test.YtcdgjgoplogiiaaDoorSim
namespace Go.Proofs.YtcdgjgoplogiiaaDoor.PT
open Go.RowKit Go.Lib
set_option linter.unusedVariables false
set_option linter.unusedSimpArgs false
set_option maxRecDepth 100000 in
set_option maxHeartbeats 8000000 in
theorem simple_local (d : Nat) (hr : ExprP d) (b g c : Nat) (ts : List Tok) (q : PS) (dp S : Nat) (p : Int) (w : World) (hdp : dp + d = 40) (hts : Toks ts) (h : PM w b g c ts q dp) (hS : w.heap[S]? = some (.cells (sv0 p).cells.toArray TS (0, 0))) (hi0 : isp ts ⟨#[108, 111, 99, 97, 108]⟩ q = true) :
    Calls Tryd.prog 83 #[.pointer (some ⟨b, 0, none⟩), .pointer (some ⟨S, 0, none⟩)] w (SPost w b g c ts (simplep ts (exprp ts d 0) p q) dp S) := by
  obtain ⟨res, hres⟩ : ∃ res, res = simplep ts (exprp ts d 0) p q := ⟨_, rfl⟩
  have e1 : res = (⟨0, (namep ts (adv q)).1, [(exprp ts d 0 (wantp ts ⟨#[61]⟩ (namep ts (adv q)).2)).1], 0, .nil, .nil, p⟩, (exprp ts d 0 (wantp ts ⟨#[61]⟩ (namep ts (adv q)).2)).2) := by rw [hres]; unfold simplep; rw [if_pos hi0]
  rw [← hres]
  have HRES := Lib.hid e1
  have HT0 := Lib.hid (take_yes (x := ⟨#[108, 111, 99, 97, 108]⟩) (dp := dp) (b := b) (g := g) (c := c) hts hi0)
  have HT := Lib.hid hts
  have HREC := Lib.hid hr
  have HI := Lib.hid (SI.start h hS)
  have hSl := lt_heap hS
  clear hts hr h hS e1 hres hi0
  go_enter Tryd.func83, Tryd.ntmps83
  go_wp2_with fail
  refine (HT0.out _ HI.out.pm).mono ?_
  rintro e w1 ⟨rfl, hp⟩
  have HI1 := Lib.hid (HI.out.go hp)
  clear hp
  go_wp2_with fail
  refine (name_calls b g c ts (adv q) dp HT.out _ HI1.out.pm).mono ?_
  rintro e w2 ⟨rfl, hp⟩
  have HI2 := Lib.hid (HI1.out.go hp)
  clear hp
  obtain ⟨y0, y1, y2, y3, y4, y5, y6⟩ := cells7 (x := (sv0 p)) HI2.out.blk
  obtain ⟨m0, m1, m2, m3, m4, m5, m6⟩ := free7 HI2.out.blk
  go_wp2_with fail
  obtain ⟨WA, hWA⟩ : ∃ WA, WA = ((w2.setCell ⟨S, 0, none⟩ (.int .i64 0)).setCell ⟨S, 1, none⟩ (.string (namep ts (adv q)).1)) := ⟨_, rfl⟩
  have HIA : Hid (SI w b g c ts dp S { sv0 p with k := 0, s := (namep ts (adv q)).1 } [] [] (namep ts (adv q)).2 WA) := Lib.hid (by rw [hWA]; exact HI2.out.kn 0 (namep ts (adv q)).1)
  show Calls _ _ _ ((w2.setCell ⟨S, 0, none⟩ (.int .i64 0)).setCell ⟨S, 1, none⟩ (.string (namep ts (adv q)).1)) _
  rw [← hWA]
  clear hWA
  clear y0 y1 y2 y3 y4 y5 y6 m0 m1 m2 m3 m4 m5 m6
  refine (want_calls b g c ts (namep ts (adv q)).2 dp HT.out ⟨#[61]⟩ WA HIA.out.pm).mono ?_
  rintro e WB ⟨rfl, hp⟩
  have HIB := Lib.hid (HIA.out.go hp)
  clear hp
  go_wp2_with fail
  refine (HREC.out 0 b g c ts (wantp ts ⟨#[61]⟩ (namep ts (adv q)).2) dp WB (by decide) (by decide) hdp HT.out HIB.out.pm).mono ?_
  rintro e WC ⟨y, rfl, hat, hp⟩
  have HIC := Lib.hid (HIB.out.ex hp hat)
  have HIG := Lib.hid (HIB.out.go hp)
  clear hat hp
  obtain ⟨y0, y1, y2, y3, y4, y5, y6⟩ := cells7 (x := { sv0 p with k := 0, s := (namep ts (adv q)).1 }) HIG.out.blk
  obtain ⟨m0, m1, m2, m3, m4, m5, m6⟩ := free7 HIG.out.blk
  have hl := lt_heap HIG.out.blk
  go_wp2
  go_end0
  exact HIC.out.post HRES.out rfl rfl rfl ⟨rfl, rfl, rfl⟩ ⟨rfl, rfl, rfl⟩ rfl
set_option maxRecDepth 100000 in
set_option maxHeartbeats 8000000 in
theorem simple_take (d : Nat) (hr : ExprP d) (b g c : Nat) (ts : List Tok) (q : PS) (dp S : Nat) (p : Int) (w : World) (hdp : dp + d = 40) (hts : Toks ts) (h : PM w b g c ts q dp) (hS : w.heap[S]? = some (.cells (sv0 p).cells.toArray TS (0, 0))) (hi0 : isp ts ⟨#[108, 111, 99, 97, 108]⟩ q = false) (hi1 : isp ts ⟨#[116, 97, 107, 101]⟩ q = true) :
    Calls Tryd.prog 83 #[.pointer (some ⟨b, 0, none⟩), .pointer (some ⟨S, 0, none⟩)] w (SPost w b g c ts (simplep ts (exprp ts d 0) p q) dp S) := by
  obtain ⟨res, hres⟩ : ∃ res, res = simplep ts (exprp ts d 0) p q := ⟨_, rfl⟩
  have e1 : res = (⟨5, (namep ts (adv q)).1, [], 0, .nil, .nil, p⟩, (namep ts (adv q)).2) := by rw [hres]; unfold simplep; rw [if_neg (by rw [hi0]; decide), if_pos hi1]
  rw [← hres]
  have HRES := Lib.hid e1
  have HT0 := Lib.hid (take_no (x := ⟨#[108, 111, 99, 97, 108]⟩) (dp := dp) (b := b) (g := g) (c := c) hts hi0)
  have HT1 := Lib.hid (take_yes (x := ⟨#[116, 97, 107, 101]⟩) (dp := dp) (b := b) (g := g) (c := c) hts hi1)
  have HT := Lib.hid hts
  have HREC := Lib.hid hr
  have HI := Lib.hid (SI.start h hS)
  have hSl := lt_heap hS
  clear hts hr h hS e1 hres hi0 hi1
  go_enter Tryd.func83, Tryd.ntmps83
  go_wp2_with fail
  refine (HT0.out _ HI.out.pm).mono ?_
  rintro e w1 ⟨rfl, hp⟩
  have HI1 := Lib.hid (HI.out.go hp)
  clear hp
  go_wp2_with fail
  refine (HT1.out _ HI1.out.pm).mono ?_
  rintro e w2 ⟨rfl, hp⟩
  have HI2 := Lib.hid (HI1.out.go hp)
  clear hp
  go_wp2_with fail
  refine (name_calls b g c ts (adv q) dp HT.out _ HI2.out.pm).mono ?_
  rintro e w3 ⟨rfl, hp⟩
  have HI3 := Lib.hid (HI2.out.go hp)
  clear hp
  obtain ⟨y0, y1, y2, y3, y4, y5, y6⟩ := cells7 (x := (sv0 p)) HI3.out.blk
  obtain ⟨m0, m1, m2, m3, m4, m5, m6⟩ := free7 HI3.out.blk
  go_wp2
  go_end0
  exact (HI3.out.kn 5 (namep ts (adv q)).1).post HRES.out rfl rfl rfl ⟨rfl, rfl, rfl⟩ ⟨rfl, rfl, rfl⟩ rfl
set_option maxRecDepth 100000 in
set_option maxHeartbeats 8000000 in
theorem simple_give (d : Nat) (hr : ExprP d) (b g c : Nat) (ts : List Tok) (q : PS) (dp S : Nat) (p : Int) (w : World) (hdp : dp + d = 40) (hts : Toks ts) (h : PM w b g c ts q dp) (hS : w.heap[S]? = some (.cells (sv0 p).cells.toArray TS (0, 0))) (hi0 : isp ts ⟨#[108, 111, 99, 97, 108]⟩ q = false) (hi1 : isp ts ⟨#[116, 97, 107, 101]⟩ q = false) (hi2 : isp ts ⟨#[103, 105, 118, 101]⟩ q = true) :
    Calls Tryd.prog 83 #[.pointer (some ⟨b, 0, none⟩), .pointer (some ⟨S, 0, none⟩)] w (SPost w b g c ts (simplep ts (exprp ts d 0) p q) dp S) := by
  obtain ⟨res, hres⟩ : ∃ res, res = simplep ts (exprp ts d 0) p q := ⟨_, rfl⟩
  have e1 : res = (⟨6, (namep ts (adv q)).1, [], 0, .nil, .nil, p⟩, (namep ts (adv q)).2) := by rw [hres]; unfold simplep; rw [if_neg (by rw [hi0]; decide), if_neg (by rw [hi1]; decide), if_pos hi2]
  rw [← hres]
  have HRES := Lib.hid e1
  have HT0 := Lib.hid (take_no (x := ⟨#[108, 111, 99, 97, 108]⟩) (dp := dp) (b := b) (g := g) (c := c) hts hi0)
  have HT1 := Lib.hid (take_no (x := ⟨#[116, 97, 107, 101]⟩) (dp := dp) (b := b) (g := g) (c := c) hts hi1)
  have HT2 := Lib.hid (take_yes (x := ⟨#[103, 105, 118, 101]⟩) (dp := dp) (b := b) (g := g) (c := c) hts hi2)
  have HT := Lib.hid hts
  have HREC := Lib.hid hr
  have HI := Lib.hid (SI.start h hS)
  have hSl := lt_heap hS
  clear hts hr h hS e1 hres hi0 hi1 hi2
  go_enter Tryd.func83, Tryd.ntmps83
  go_wp2_with fail
  refine (HT0.out _ HI.out.pm).mono ?_
  rintro e w1 ⟨rfl, hp⟩
  have HI1 := Lib.hid (HI.out.go hp)
  clear hp
  go_wp2_with fail
  refine (HT1.out _ HI1.out.pm).mono ?_
  rintro e w2 ⟨rfl, hp⟩
  have HI2 := Lib.hid (HI1.out.go hp)
  clear hp
  go_wp2_with fail
  refine (HT2.out _ HI2.out.pm).mono ?_
  rintro e w3 ⟨rfl, hp⟩
  have HI3 := Lib.hid (HI2.out.go hp)
  clear hp
  go_wp2_with fail
  refine (name_calls b g c ts (adv q) dp HT.out _ HI3.out.pm).mono ?_
  rintro e w4 ⟨rfl, hp⟩
  have HI4 := Lib.hid (HI3.out.go hp)
  clear hp
  obtain ⟨y0, y1, y2, y3, y4, y5, y6⟩ := cells7 (x := (sv0 p)) HI4.out.blk
  obtain ⟨m0, m1, m2, m3, m4, m5, m6⟩ := free7 HI4.out.blk
  go_wp2
  go_end0
  exact (HI4.out.kn 6 (namep ts (adv q)).1).post HRES.out rfl rfl rfl ⟨rfl, rfl, rfl⟩ ⟨rfl, rfl, rfl⟩ rfl
set_option maxRecDepth 100000 in
set_option maxHeartbeats 8000000 in
theorem simple_add (d : Nat) (hr : ExprP d) (b g c : Nat) (ts : List Tok) (q : PS) (dp S : Nat) (p : Int) (w : World) (hdp : dp + d = 40) (hts : Toks ts) (h : PM w b g c ts q dp) (hS : w.heap[S]? = some (.cells (sv0 p).cells.toArray TS (0, 0))) (hi0 : isp ts ⟨#[108, 111, 99, 97, 108]⟩ q = false) (hi1 : isp ts ⟨#[116, 97, 107, 101]⟩ q = false) (hi2 : isp ts ⟨#[103, 105, 118, 101]⟩ q = false) (hi3 : isp ts ⟨#[97, 100, 100]⟩ q = true) :
    Calls Tryd.prog 83 #[.pointer (some ⟨b, 0, none⟩), .pointer (some ⟨S, 0, none⟩)] w (SPost w b g c ts (simplep ts (exprp ts d 0) p q) dp S) := by
  obtain ⟨res, hres⟩ : ∃ res, res = simplep ts (exprp ts d 0) p q := ⟨_, rfl⟩
  have e1 : res = (⟨7, (namep ts (adv q)).1, [(exprp ts d 0 (namep ts (adv q)).2).1], 0, .nil, .nil, p⟩, (exprp ts d 0 (namep ts (adv q)).2).2) := by rw [hres]; unfold simplep; rw [if_neg (by rw [hi0]; decide), if_neg (by rw [hi1]; decide), if_neg (by rw [hi2]; decide), if_pos hi3]
  rw [← hres]
  have HRES := Lib.hid e1
  have HT0 := Lib.hid (take_no (x := ⟨#[108, 111, 99, 97, 108]⟩) (dp := dp) (b := b) (g := g) (c := c) hts hi0)
  have HT1 := Lib.hid (take_no (x := ⟨#[116, 97, 107, 101]⟩) (dp := dp) (b := b) (g := g) (c := c) hts hi1)
  have HT2 := Lib.hid (take_no (x := ⟨#[103, 105, 118, 101]⟩) (dp := dp) (b := b) (g := g) (c := c) hts hi2)
  have HT3 := Lib.hid (take_yes (x := ⟨#[97, 100, 100]⟩) (dp := dp) (b := b) (g := g) (c := c) hts hi3)
  have HT := Lib.hid hts
  have HREC := Lib.hid hr
  have HI := Lib.hid (SI.start h hS)
  have hSl := lt_heap hS
  clear hts hr h hS e1 hres hi0 hi1 hi2 hi3
  go_enter Tryd.func83, Tryd.ntmps83
  go_wp2_with fail
  refine (HT0.out _ HI.out.pm).mono ?_
  rintro e w1 ⟨rfl, hp⟩
  have HI1 := Lib.hid (HI.out.go hp)
  clear hp
  go_wp2_with fail
  refine (HT1.out _ HI1.out.pm).mono ?_
  rintro e w2 ⟨rfl, hp⟩
  have HI2 := Lib.hid (HI1.out.go hp)
  clear hp
  go_wp2_with fail
  refine (HT2.out _ HI2.out.pm).mono ?_
  rintro e w3 ⟨rfl, hp⟩
  have HI3 := Lib.hid (HI2.out.go hp)
  clear hp
  go_wp2_with fail
  refine (HT3.out _ HI3.out.pm).mono ?_
  rintro e w4 ⟨rfl, hp⟩
  have HI4 := Lib.hid (HI3.out.go hp)
  clear hp
  go_wp2_with fail
  refine (name_calls b g c ts (adv q) dp HT.out _ HI4.out.pm).mono ?_
  rintro e w5 ⟨rfl, hp⟩
  have HI5 := Lib.hid (HI4.out.go hp)
  clear hp
  obtain ⟨y0, y1, y2, y3, y4, y5, y6⟩ := cells7 (x := (sv0 p)) HI5.out.blk
  obtain ⟨m0, m1, m2, m3, m4, m5, m6⟩ := free7 HI5.out.blk
  go_wp2_with fail
  obtain ⟨WA, hWA⟩ : ∃ WA, WA = ((w5.setCell ⟨S, 0, none⟩ (.int .i64 7)).setCell ⟨S, 1, none⟩ (.string (namep ts (adv q)).1)) := ⟨_, rfl⟩
  have HIA : Hid (SI w b g c ts dp S { sv0 p with k := 7, s := (namep ts (adv q)).1 } [] [] (namep ts (adv q)).2 WA) := Lib.hid (by rw [hWA]; exact HI5.out.kn 7 (namep ts (adv q)).1)
  show Calls _ _ _ ((w5.setCell ⟨S, 0, none⟩ (.int .i64 7)).setCell ⟨S, 1, none⟩ (.string (namep ts (adv q)).1)) _
  rw [← hWA]
  clear hWA
  clear y0 y1 y2 y3 y4 y5 y6 m0 m1 m2 m3 m4 m5 m6
  refine (HREC.out 0 b g c ts (namep ts (adv q)).2 dp WA (by decide) (by decide) hdp HT.out HIA.out.pm).mono ?_
  rintro e WC ⟨y, rfl, hat, hp⟩
  have HIC := Lib.hid (HIA.out.ex hp hat)
  have HIG := Lib.hid (HIA.out.go hp)
  clear hat hp
  obtain ⟨y0, y1, y2, y3, y4, y5, y6⟩ := cells7 (x := { sv0 p with k := 7, s := (namep ts (adv q)).1 }) HIG.out.blk
  obtain ⟨m0, m1, m2, m3, m4, m5, m6⟩ := free7 HIG.out.blk
  have hl := lt_heap HIG.out.blk
  go_wp2
  go_end0
  exact HIC.out.post HRES.out rfl rfl rfl ⟨rfl, rfl, rfl⟩ ⟨rfl, rfl, rfl⟩ rfl
set_option maxRecDepth 100000 in
set_option maxHeartbeats 8000000 in
theorem simple_fence (d : Nat) (hr : ExprP d) (b g c : Nat) (ts : List Tok) (q : PS) (dp S : Nat) (p : Int) (w : World) (hdp : dp + d = 40) (hts : Toks ts) (h : PM w b g c ts q dp) (hS : w.heap[S]? = some (.cells (sv0 p).cells.toArray TS (0, 0))) (hi0 : isp ts ⟨#[108, 111, 99, 97, 108]⟩ q = false) (hi1 : isp ts ⟨#[116, 97, 107, 101]⟩ q = false) (hi2 : isp ts ⟨#[103, 105, 118, 101]⟩ q = false) (hi3 : isp ts ⟨#[97, 100, 100]⟩ q = false) (hi4 : isp ts ⟨#[102, 101, 110, 99, 101]⟩ q = true) :
    Calls Tryd.prog 83 #[.pointer (some ⟨b, 0, none⟩), .pointer (some ⟨S, 0, none⟩)] w (SPost w b g c ts (simplep ts (exprp ts d 0) p q) dp S) := by
  obtain ⟨res, hres⟩ : ∃ res, res = simplep ts (exprp ts d 0) p q := ⟨_, rfl⟩
  have e1 : res = (⟨8, ⟨#[]⟩, [], 0, .nil, .nil, p⟩, adv q) := by rw [hres]; unfold simplep; rw [if_neg (by rw [hi0]; decide), if_neg (by rw [hi1]; decide), if_neg (by rw [hi2]; decide), if_neg (by rw [hi3]; decide), if_pos hi4]
  rw [← hres]
  have HRES := Lib.hid e1
  have HT0 := Lib.hid (take_no (x := ⟨#[108, 111, 99, 97, 108]⟩) (dp := dp) (b := b) (g := g) (c := c) hts hi0)
  have HT1 := Lib.hid (take_no (x := ⟨#[116, 97, 107, 101]⟩) (dp := dp) (b := b) (g := g) (c := c) hts hi1)
  have HT2 := Lib.hid (take_no (x := ⟨#[103, 105, 118, 101]⟩) (dp := dp) (b := b) (g := g) (c := c) hts hi2)
  have HT3 := Lib.hid (take_no (x := ⟨#[97, 100, 100]⟩) (dp := dp) (b := b) (g := g) (c := c) hts hi3)
  have HT4 := Lib.hid (take_yes (x := ⟨#[102, 101, 110, 99, 101]⟩) (dp := dp) (b := b) (g := g) (c := c) hts hi4)
  have HT := Lib.hid hts
  have HREC := Lib.hid hr
  have HI := Lib.hid (SI.start h hS)
  have hSl := lt_heap hS
  clear hts hr h hS e1 hres hi0 hi1 hi2 hi3 hi4
  go_enter Tryd.func83, Tryd.ntmps83
  go_wp2_with fail
  refine (HT0.out _ HI.out.pm).mono ?_
  rintro e w1 ⟨rfl, hp⟩
  have HI1 := Lib.hid (HI.out.go hp)
  clear hp
  go_wp2_with fail
  refine (HT1.out _ HI1.out.pm).mono ?_
  rintro e w2 ⟨rfl, hp⟩
  have HI2 := Lib.hid (HI1.out.go hp)
  clear hp
  go_wp2_with fail
  refine (HT2.out _ HI2.out.pm).mono ?_
  rintro e w3 ⟨rfl, hp⟩
  have HI3 := Lib.hid (HI2.out.go hp)
  clear hp
  go_wp2_with fail
  refine (HT3.out _ HI3.out.pm).mono ?_
  rintro e w4 ⟨rfl, hp⟩
  have HI4 := Lib.hid (HI3.out.go hp)
  clear hp
  go_wp2_with fail
  refine (HT4.out _ HI4.out.pm).mono ?_
  rintro e w5 ⟨rfl, hp⟩
  have HI5 := Lib.hid (HI4.out.go hp)
  clear hp
  obtain ⟨y0, y1, y2, y3, y4, y5, y6⟩ := cells7 (x := (sv0 p)) HI5.out.blk
  obtain ⟨m0, m1, m2, m3, m4, m5, m6⟩ := free7 HI5.out.blk
  go_wp2
  go_end0
  exact (HI5.out.k1 8).post HRES.out rfl rfl rfl ⟨rfl, rfl, rfl⟩ ⟨rfl, rfl, rfl⟩ rfl
set_option maxRecDepth 100000 in
set_option maxHeartbeats 8000000 in
theorem simple_output (d : Nat) (hr : ExprP d) (b g c : Nat) (ts : List Tok) (q : PS) (dp S : Nat) (p : Int) (w : World) (hdp : dp + d = 40) (hts : Toks ts) (h : PM w b g c ts q dp) (hS : w.heap[S]? = some (.cells (sv0 p).cells.toArray TS (0, 0))) (hi0 : isp ts ⟨#[108, 111, 99, 97, 108]⟩ q = false) (hi1 : isp ts ⟨#[116, 97, 107, 101]⟩ q = false) (hi2 : isp ts ⟨#[103, 105, 118, 101]⟩ q = false) (hi3 : isp ts ⟨#[97, 100, 100]⟩ q = false) (hi4 : isp ts ⟨#[102, 101, 110, 99, 101]⟩ q = false) (hi5 : isp ts ⟨#[111, 117, 116, 112, 117, 116]⟩ q = true) :
    Calls Tryd.prog 83 #[.pointer (some ⟨b, 0, none⟩), .pointer (some ⟨S, 0, none⟩)] w (SPost w b g c ts (simplep ts (exprp ts d 0) p q) dp S) := by
  obtain ⟨res, hres⟩ : ∃ res, res = simplep ts (exprp ts d 0) p q := ⟨_, rfl⟩
  have e1 : res = (⟨9, ⟨#[]⟩, [(exprp ts d 0 (adv q)).1], 0, .nil, .nil, p⟩, (exprp ts d 0 (adv q)).2) := by rw [hres]; unfold simplep; rw [if_neg (by rw [hi0]; decide), if_neg (by rw [hi1]; decide), if_neg (by rw [hi2]; decide), if_neg (by rw [hi3]; decide), if_neg (by rw [hi4]; decide), if_pos hi5]
  rw [← hres]
  have HRES := Lib.hid e1
  have HT0 := Lib.hid (take_no (x := ⟨#[108, 111, 99, 97, 108]⟩) (dp := dp) (b := b) (g := g) (c := c) hts hi0)
  have HT1 := Lib.hid (take_no (x := ⟨#[116, 97, 107, 101]⟩) (dp := dp) (b := b) (g := g) (c := c) hts hi1)
  have HT2 := Lib.hid (take_no (x := ⟨#[103, 105, 118, 101]⟩) (dp := dp) (b := b) (g := g) (c := c) hts hi2)
  have HT3 := Lib.hid (take_no (x := ⟨#[97, 100, 100]⟩) (dp := dp) (b := b) (g := g) (c := c) hts hi3)
  have HT4 := Lib.hid (take_no (x := ⟨#[102, 101, 110, 99, 101]⟩) (dp := dp) (b := b) (g := g) (c := c) hts hi4)
  have HT5 := Lib.hid (take_yes (x := ⟨#[111, 117, 116, 112, 117, 116]⟩) (dp := dp) (b := b) (g := g) (c := c) hts hi5)
  have HT := Lib.hid hts
  have HREC := Lib.hid hr
  have HI := Lib.hid (SI.start h hS)
  have hSl := lt_heap hS
  clear hts hr h hS e1 hres hi0 hi1 hi2 hi3 hi4 hi5
  go_enter Tryd.func83, Tryd.ntmps83
  go_wp2_with fail
  refine (HT0.out _ HI.out.pm).mono ?_
  rintro e w1 ⟨rfl, hp⟩
  have HI1 := Lib.hid (HI.out.go hp)
  clear hp
  go_wp2_with fail
  refine (HT1.out _ HI1.out.pm).mono ?_
  rintro e w2 ⟨rfl, hp⟩
  have HI2 := Lib.hid (HI1.out.go hp)
  clear hp
  go_wp2_with fail
  refine (HT2.out _ HI2.out.pm).mono ?_
  rintro e w3 ⟨rfl, hp⟩
  have HI3 := Lib.hid (HI2.out.go hp)
  clear hp
  go_wp2_with fail
  refine (HT3.out _ HI3.out.pm).mono ?_
  rintro e w4 ⟨rfl, hp⟩
  have HI4 := Lib.hid (HI3.out.go hp)
  clear hp
  go_wp2_with fail
  refine (HT4.out _ HI4.out.pm).mono ?_
  rintro e w5 ⟨rfl, hp⟩
  have HI5 := Lib.hid (HI4.out.go hp)
  clear hp
  go_wp2_with fail
  refine (HT5.out _ HI5.out.pm).mono ?_
  rintro e w6 ⟨rfl, hp⟩
  have HI6 := Lib.hid (HI5.out.go hp)
  clear hp
  obtain ⟨y0, y1, y2, y3, y4, y5, y6⟩ := cells7 (x := (sv0 p)) HI6.out.blk
  obtain ⟨m0, m1, m2, m3, m4, m5, m6⟩ := free7 HI6.out.blk
  go_wp2_with fail
  obtain ⟨WA, hWA⟩ : ∃ WA, WA = (w6.setCell ⟨S, 0, none⟩ (.int .i64 9)) := ⟨_, rfl⟩
  have HIA : Hid (SI w b g c ts dp S { sv0 p with k := 9 } [] [] (adv q) WA) := Lib.hid (by rw [hWA]; exact HI6.out.k1 9)
  show Calls _ _ _ (w6.setCell ⟨S, 0, none⟩ (.int .i64 9)) _
  rw [← hWA]
  clear hWA
  clear y0 y1 y2 y3 y4 y5 y6 m0 m1 m2 m3 m4 m5 m6
  refine (HREC.out 0 b g c ts (adv q) dp WA (by decide) (by decide) hdp HT.out HIA.out.pm).mono ?_
  rintro e WC ⟨y, rfl, hat, hp⟩
  have HIC := Lib.hid (HIA.out.ex hp hat)
  have HIG := Lib.hid (HIA.out.go hp)
  clear hat hp
  obtain ⟨y0, y1, y2, y3, y4, y5, y6⟩ := cells7 (x := { sv0 p with k := 9 }) HIG.out.blk
  obtain ⟨m0, m1, m2, m3, m4, m5, m6⟩ := free7 HIG.out.blk
  have hl := lt_heap HIG.out.blk
  go_wp2
  go_end0
  exact HIC.out.post HRES.out rfl rfl rfl ⟨rfl, rfl, rfl⟩ ⟨rfl, rfl, rfl⟩ rfl
end Go.Proofs.YtcdgjgoplogiiaaDoor.PT
