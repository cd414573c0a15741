/- Pieces of the walk of law19's want. -/
import Derived.Test.YtepgpapljoelhaaDoorWad
namespace Go.Proofs.YtepgpapljoelhaaDoor.PE
open Go.RowKit Go.Proofs.YtepgpapljoelhaaDoorW.PrintWords Go.Proofs.YtepgpapljoelhaaDoorW.PrintLast Go.Proofs.YtepgpapljoelhaaDoorW.PrintMore
set_option linter.unusedVariables false
set_option linter.unusedSimpArgs false

set_option maxHeartbeats 8000000 in
set_option maxRecDepth 100000 in
theorem want_C1 (cap : Nat) (l : List S37) (Aw : Option Addr) (nw : Nat) (cw : Nat) (ws : List Int) (fr : Int) (w : World) (n : Nat) (zz17 : Act → World → Prop) (w0 : World) (ob : Nat) (fb : Nat) (wb : Nat) (wr : World) (u10 : Value) (u11 : Value) (u12 : Value) (u13 : Value) (u14 : Value) (u15 : Value) (u21 : Value) (u22 : Value) (u23 : Value) (u24 : Value) (u25 : Value) (u26 : Value) (u27 : Value) (u28 : Value) (u29 : Value) (u30 : Value) (u31 : Value) (u32 : Value) (u33 : Value) (u34 : Value) (u35 : Value) (u36 : Value) (u37 : Value) (u38 : Value) (u39 : Value) (u40 : Value) (u41 : Value) (u42 : Value) (u43 : Value) (u44 : Value) (u45 : Value) (u46 : Value) (u47 : Value) (u48 : Value) (u49 : Value) (u50 : Value) (u51 : Value) (u52 : Value) (u53 : Value) (u54 : Value) (u55 : Value) (u56 : Value) (u57 : Value) (u58 : Value) (u59 : Value) (u60 : Value) (u61 : Value) (u62 : Value) (u63 : Value) (u64 : Value) (u65 : Value) (u66 : Value) (u67 : Value) (u68 : Value) (u69 : Value) (u70 : Value) (u71 : Value) (u72 : Value) (u73 : Value) (u74 : Value) (u75 : Value) (u76 : Value) (u77 : Value) (u78 : Value) (u79 : Value) (u80 : Value) (u81 : Value) (u82 : Value) (u83 : Value) (u84 : Value) (u85 : Value) (u86 : Value) (u87 : Value) (u88 : Value) (u89 : Value) (u90 : Value) (u91 : Value) (u92 : Value) (u93 : Value) (u94 : Value) (u95 : Value) (u96 : Value) (u97 : Value) (u98 : Value) (u99 : Value) (u100 : Value) (u101 : Value) (u102 : Value) (u103 : Value) (u104 : Value) (u105 : Value) (u106 : Value) (u107 : Value) (u108 : Value) (u109 : Value) (u110 : Value) (u111 : Value) (u112 : Value) (u113 : Value) (u114 : Value) (u115 : Value) (sv : Value) (k : Nat) (ad : Addr) (c : S37) (Av : Option Addr) (m : Nat) (cv : Nat) (K : Nat) (U : List Int) (nu : Nat) (out : List S37) (zz151 : Act → World → Prop) (gb : Nat) (wa : World) (sv1 : Value) (w1 : World) (w3 : World) (Au : Option Addr) (cu : Nat) (zz166 : Act → World → Prop) (zz168 : Act → World → Prop) (eb : Nat) (w4 : World) (hmf : ∀ (fn : Fn) (first cap : Array Value) (w : World), Sem.run Tryd.prog (Instr.makeFunc fn first cap) w = Result.ok (Value.func fn first cap) w) (hl : n ≤ (10000 : Nat)) (hc : n ≤ cap) (HN : Hid (n = List.length l)) (HW : Hid (Kd.C (Kd.int IntKind.i64) w Aw nw ws)) (HU : Hid (∀ (c : S37), c ∈ l → ∀ (u : Int), u ∈ us c → (0 : Int) ≤ u ∧ u < ↑nw)) (HD : Hid (∀ (c : S37), c ∈ l → db c = true → (0 : Int) ≤ dv c ∧ dv c < ↑nw)) (HJ : Hid (∀ (c : S37), c ∈ l → jm c = true → (0 : Int) ≤ S37.f7 c ∧ S37.f7 c < ↑(List.length l))) (hk : k ≤ n) (hkn : k < n) (hkl : k < List.length l) (HR : Hid (Kd.C k37 w (some ad) n l)) (HCU : Hid (∀ (u : Int), u ∈ us c → (0 : Int) ≤ u ∧ u < ↑nw)) (HCD : Hid (db c = true → (0 : Int) ≤ dv c ∧ dv c < ↑nw)) (HCL : Hid (c = l[k])) (hn3 : nu ≤ (3 : Nat)) (HUU : Hid (U = us c)) (HNU : Hid (nu = List.length U)) (HK : Hid (code_Uses.f K (S37.f0 c) (S37.f1 c) (S37.f2 c) (S37.f3 c) (S37.f4 c) (S37.f5 c) (S37.f6 c) (S37.f7 c) = some U)) (hlen : List.length out ≤ (999000 : Nat)) (HRM : Hid (m = List.length out ∧ Kd.R k37 (37 : Nat) wr (0 : Nat) (fun x => True) (Value.slice Av m cv) out)) (HOUT : Hid (out = outTo fr ws l k)) (zz150 : Exit → Act → World → Prop) (hobg : ob < gb) (HVVL : Hid (∀ (q : Nat), Value.ownBlock (Value.slice Av m cv) = some q → q < gb)) (HSVL : Hid (∀ (q : Nat), Value.ownBlock sv = some q → q < gb)) (HSZA : Hid (Array.size (World.heap wa) = gb + (1 : Nat))) (HS1 : Hid (∀ (q : Nat), Value.ownBlock sv1 = some q → q ≠ gb ∧ q < Array.size (World.heap w1))) (HSZ : Hid (gb < Array.size (World.heap w1))) (HS : Hid (RS w ob wb fb nw cw Aw fr gb eb (Value.slice Av m cv) out sv1 (startsL fr ws l k ++ [(m : Int)]) c c (Value.slice Au nu cu) U w4)) (t5 : (S37.f0 c == (5 : Int)) = false) (HNA : Hid ¬(S37.f0 c = (5 : Int) ∧ S37.f3 c < (0 : Int))) (hnu : nu = (1 : Nat)) (HZ : wantHyps cap l Aw nw cw ws fr w n zz17 w0 ob fb wb wr u10 u11 u12 u13 u14 u15 u21 u22 u23 u24 u25 u26 u27 u28 u29 u30 u31 u32 u33 u34 u35 u36 u37 u38 u39 u40 u41 u42 u43 u44 u45 u46 u47 u48 u49 u50 u51 u52 u53 u54 u55 u56 u57 u58 u59 u60 u61 u62 u63 u64 u65 u66 u67 u68 u69 u70 u71 u72 u73 u74 u75 u76 u77 u78 u79 u80 u81 u82 u83 u84 u85 u86 u87 u88 u89 u90 u91 u92 u93 u94 u95 u96 u97 u98 u99 u100 u101 u102 u103 u104 u105 u106 u107 u108 u109 u110 u111 u112 u113 u114 u115 sv k ad c Av m cv K U nu out zz151 gb wa sv1 w1 w3 Au cu zz166 zz168 eb w4) : wantGoal cap l Aw nw cw ws fr w n zz17 w0 ob fb wb wr u10 u11 u12 u13 u14 u15 u21 u22 u23 u24 u25 u26 u27 u28 u29 u30 u31 u32 u33 u34 u35 u36 u37 u38 u39 u40 u41 u42 u43 u44 u45 u46 u47 u48 u49 u50 u51 u52 u53 u54 u55 u56 u57 u58 u59 u60 u61 u62 u63 u64 u65 u66 u67 u68 u69 u70 u71 u72 u73 u74 u75 u76 u77 u78 u79 u80 u81 u82 u83 u84 u85 u86 u87 u88 u89 u90 u91 u92 u93 u94 u95 u96 u97 u98 u99 u100 u101 u102 u103 u104 u105 u106 u107 u108 u109 u110 u111 u112 u113 u114 u115 sv k ad c Av m cv K U nu out zz151 gb wa sv1 w1 w3 Au cu zz166 zz168 eb w4 := by
 have hB := (rfl : Tryd.f13.body = Tryd.f13.body)
 conv at hB => rhs; unfold Tryd.f13
 dsimp only at hB
 unfold wantHyps at HZ
 simp only [b13, hB, Option.getD_some, c1, c2] at HZ
 have zz18 := HZ
 unfold wantGoal
 intro zz150 zz152 zz167 zz169
 simp only [b13, hB, Option.getD_some, c1, c2] at zz152 zz167 zz169 ⊢
 clear hB
 obtain rfl : nu = 1 := hnu
 obtain ⟨gu, rfl⟩ := HS.out.ua HNU.out (by omega)
 have hm0 : rd U ((0 : Nat) : Int) ∈ us c := by
   rw [rd_at U 0 (by rw [← HNU.out]; omega), ← HUU.out]
   exact List.getElem_mem _
 have hq0 := HCU.out _ hm0
 have hu0 : World.cell? w4 ⟨gu, 0, none⟩ = some (.int .i64 (rd U ((0 : Nat) : Int))) := HS.out.uc HNU.out 0 (by omega)
 obtain ⟨x0, hx0⟩ : ∃ x, x = rd U ((0 : Nat) : Int) := ⟨_, rfl⟩
 rw [← hx0] at hq0 hu0
 have HX0 := Lib.hid hx0
 have HW0 := Lib.hid (wreg_calls ob wb fb nw cw Aw fr (.slice Av m cv) (out) ws x0 0 w4 HS.out.qs.em HS.out.qs.wx HS.out.qs.fx (Kd.C_below HW.out HS.out.qs.old) hq0.1 hq0.2 (by omega) (by omega) (by omega))
 clear hx0 hm0
 obtain ⟨g0, g1, g2, g3, g4, g5, g6, g7⟩ := box8 HS.out.bx
 go_wp2_with fail
 refine HW0.out.mono ?_
 rintro e wz0 ⟨vz0, rfl, hM, hK⟩
 obtain ⟨y0, hy0⟩ : ∃ y, y = regOf ws x0 (5 + 0) := ⟨_, rfl⟩
 rw [← hy0]
 have HY0 := Lib.hid hy0
 replace HS := Lib.hid (HS.out.step hK hM)
 clear hM hK hy0 hu0 hq0 HW0 g0 g1 g2 g3 g4 g5 g6 g7
 obtain ⟨⟨b0, b1, b2, b3, b4, b5, b6, b7⟩, ⟨z2, z3, z4, z5⟩⟩ := HS.out.bk
 replace HS := Lib.hid (HS.out.setD 3 (.int .i64 y0) (d' := ⟨c.f0, c.f1, c.f2, y0, c.f4, c.f5, c.f6, c.f7⟩) rfl)
 go_upto_region 14 with (fail)
 generalize wz0.setCell ⟨eb, 3, none⟩ (.int .i64 y0) = wy0 at HS ⊢
 clear b0 b1 b2 b3 b4 b5 b6 b7 z2 z3 z4 z5
 have HSR : Hid (setRegs ws c = ⟨c.f0, c.f1, c.f2, y0, c.f4, c.f5, c.f6, c.f7⟩) := Lib.hid (by unfold setRegs; rw [if_neg HNA.out, ← HUU.out, ← HNU.out]; rw [HY0.out, HX0.out]; rfl)
 by_cases hdb : db c = true
 · obtain ⟨t0, t1⟩ := HCD.out hdb
   obtain ⟨tg, htg⟩ : ∃ tg, tg = dv c := ⟨_, rfl⟩
   rw [← htg] at t0 t1
   have hDF := Defines_eq c
   rw [hdb, ← htg] at hDF
   have HDF := Lib.hid hDF
   have HDB := Lib.hid hdb
   have HTO := Lib.hid htg
   obtain ⟨y, hy⟩ : ∃ y, y = rd ws tg := ⟨_, rfl⟩
   have HYW := Lib.hid hy
   clear hdb htg hDF hy
   by_cases hy0 : y < 0
   · have ty : decide (y < 0) = true := decide_eq_true hy0
     obtain ⟨g0, g1, g2, g3, g4, g5, g6, g7⟩ := box8 HS.out.bx
     have HLN : Hid ((out ++ regC fr ws x0 (5 + 0)).length ≤ 999100) := Lib.hid (by simp only [List.length_append]; have := regC_len fr ws x0 (5 + 0); omega)
     go_wp2_with fail
     refine (code_Defines.calls c.f0 c.f1 c.f2 c.f3 c.f4 c.f5 c.f6 c.f7 tg true _ HDF.out).mono ?_
     rintro e w6 ⟨rfl, hb6⟩
     replace HS := Lib.hid (HS.out.below hb6)
     clear hb6 g0 g1 g2 g3 g4 g5 g6 g7
     obtain ⟨⟨b0, b1, b2, b3, b4, b5, b6, b7⟩, ⟨z2, z3, z4, z5⟩⟩ := HS.out.bk
     have wx0 := blk_cell HS.out.qs.wx 0
     have fx0 := blk_cell HS.out.qs.fx 0
     obtain ⟨adw, eadw, xw⟩ := Kd.at_int (Kd.C_below HW.out HS.out.qs.old) tg t0 t1
     rw [← HYW.out] at xw
     cases eadw
     go_upto_region 21 with (fail)
     replace HS := Lib.hid (HS.out.setD 2 (.int .i64 y) (d' := ⟨c.f0, c.f1, y, y0, c.f4, c.f5, c.f6, c.f7⟩) rfl)
     generalize w6.setCell ⟨eb, 2, none⟩ (.int .i64 y) = w6b at HS ⊢
     clear b0 b1 b2 b3 b4 b5 b6 b7 z2 z3 z4 z5
     clear wx0 fx0 xw
     obtain ⟨⟨b0, b1, b2, b3, b4, b5, b6, b7⟩, ⟨z2, z3, z4, z5⟩⟩ := HS.out.bk
     have wx0 := blk_cell HS.out.qs.wx 0
     have fx0 := blk_cell HS.out.qs.fx 0
     obtain ⟨adw2, eadw, xw⟩ := Kd.at_int (Kd.C_below HW.out HS.out.qs.old) tg t0 t1
     rw [← HYW.out] at xw
     have eadw2 : adw = adw2 := by injection eadw
     rw [← eadw2] at xw
     clear eadw eadw2
     go_upto_region 23 with (fail)
     replace HS := Lib.hid (HS.out.setD 2 (.int .i64 5) (d' := ⟨c.f0, c.f1, 5, y0, c.f4, c.f5, c.f6, c.f7⟩) rfl)
     generalize w6b.setCell ⟨eb, 2, none⟩ (.int .i64 5) = w6 at HS ⊢
     clear b0 b1 b2 b3 b4 b5 b6 b7 z2 z3 z4 z5
     clear wx0 fx0 xw
     obtain ⟨⟨b0, b1, b2, b3, b4, b5, b6, b7⟩, ⟨z2, z3, z4, z5⟩⟩ := HS.out.bk
     obtain ⟨o0, oz, ag⟩ := HS.out.qs.em.cell
     have obl := HS.out.qs.em.lt
     go_upto_region 24 with (first
       | (at_builtin; refine Kd.R_append k37 (w0 := w6) 0 rfl (.tmp 91) (.tmp 93) 22 37 (.agg #[.int .i64 0, .int .i64 0, .int .i64 0, .int .i64 0, .int .i64 0, .int .i64 0, .int .u64 0, .int .i64 0]) 64 rfl Tryd.underlying22 info37 rfl (by decide) (by omega) vz0 (out ++ regC fr ws x0 (5 + 0)) ⟨c.f0, c.f1, 5, y0, c.f4, c.f5, c.f6, c.f7⟩ [.int .i64 (c.f0), .int .i64 (c.f1), .int .i64 (5), .int .i64 (y0), .int .i64 (c.f4), .int .i64 (c.f5), .int .u64 (c.f6), .int .i64 (c.f7)] (fun q => ob < q) (fun _ => False) rfl rfl ?aP (fun _ hk => hk.elim) ?aF ?aO ?aB ?aS ?aL ?_; (case aP => exact k37_mkM _ _ _ _); (case aB => exact Below.refl _ _); (case aF => intro q hq; exact Nat.lt_of_lt_of_le obl hq); (case aO => exact HS.out.qs.em.2); (case aS => exact Nat.zero_le _); (case aL => have := HLN.out; omega); intro v7 w7 h1 h2 h3 h4; have c7 : w7.cell? ⟨ob, 0, none⟩ = some vz0 := blk_cell (blk_grown HS.out.qs.em.1 h3 ag) 0; have z7 : w7.frozen? ⟨ob, 0, none⟩ = false := blk_frozen (blk_grown HS.out.qs.em.1 h3 ag) 0; have HG7 := Lib.hid h3; have HV7 := Lib.hid (own_or h4); obtain ⟨A7, n7, k7, rfl, H7⟩ := slice_of h1; clear h1 h2 h3 h4)
       | fail)
     obtain ⟨hM7, hK7⟩ := WM.put0 HS.out.qs.em HG7.out H7.out.2 HV7.out
     replace HS := Lib.hid (HS.out.step hK7 hM7)
     clear hM7 hK7 HG7 HV7 H7 c7 z7 o0 oz ag obl b0 b1 b2 b3 b4 b5 b6 b7 z2 z3 z4 z5
     generalize w7.setCell ⟨ob, 0, none⟩ (.slice A7 n7 k7) = w8 at HS ⊢
     have wx0 := blk_cell HS.out.qs.wx 0
     have fx0 := blk_cell HS.out.qs.fx 0
     obtain ⟨adw2, eadw, xw⟩ := Kd.at_int (Kd.C_below HW.out HS.out.qs.old) tg t0 t1
     rw [← HYW.out] at xw
     have eadw2 : adw = adw2 := by injection eadw
     rw [← eadw2] at xw
     clear eadw eadw2
     obtain ⟨o0, oz, ag⟩ := HS.out.qs.em.cell
     have obl := HS.out.qs.em.lt
     have hw2 : IntKind.u64.wrap (fr + IntKind.u64.wrap (IntKind.i64.wrap (-1 - y))) = slotV fr y := by rw [i64_w]; rfl
     go_wp2_with fail
     go_region_law
       (first
         | ((with_reducible refine step_append_w _ _ _ _ (.tmp 103) (.tmp 113) (.slice A7 n7 k7) ((out ++ regC fr ws x0 (5 + 0)) ++ [⟨c.f0, c.f1, 5, y0, c.f4, c.f5, c.f6, c.f7⟩]) (writeC fr y) (fun q => ob < q) w8.heap.size w8.heap.size ?aS ?aX ?aO ?aB ?aL ?aF ?aH ?_); (case aS => rfl); (case aX => rfl); (case aO => (with_reducible repeat (first | apply Kd.R_alloc | apply Kd.R_drewN | apply Kd.R_drew)); exact HS.out.qs.em.2); (case aL => (have := HLN.out; rw [List.length_append, List.length_singleton]; omega)); (case aB => exact heap_alloc_new w8 _); (case aF => intro q hq; simp at hq; omega); (case aH => simp); intro v9 w9 hR1 hgrow hv1; have f2b : w9.frozen? ⟨ob, 0, none⟩ = false := (hgrow.frozen_far _ (by simp; omega) ag).trans ((((Below.refl w8.heap.size w8).alloc (Nat.le_refl _) _).frozen (p := ⟨ob, 0, none⟩) obl).trans oz); have c2b : w9.cell? ⟨ob, 0, none⟩ = some (.slice A7 n7 k7) := (hgrow.cell_far _ (by simp; omega) ag).trans ((((Below.refl w8.heap.size w8).alloc (Nat.le_refl _) _).cell (p := ⟨ob, 0, none⟩) obl).trans o0); have HV1 := Lib.hid hv1; have HG9 := Lib.hid hgrow; obtain ⟨A9, n9, k9, rfl, HR1⟩ := slice_of hR1; clear hR1 hv1 hgrow))
     all_goals
       obtain ⟨hM9, hK9⟩ := WM.put HS.out.qs.em HG9.out HR1.out.2 HV1.out
       have HQ9 := Lib.hid (HS.out.step hK9 hM9).qs
       clear hM9 hK9 HG9 HV1 HR1 f2b c2b wx0 fx0 xw o0 oz ag obl HS
       generalize w9.setCell ⟨ob, 0, none⟩ (.slice A9 n9 k9) = w10 at HQ9 ⊢
     all_goals
       (go_wp2_with fail)
       go_roundw
       case rel =>
         refine ⟨_, (.slice A9 n9 k9), k + 1, rfl, by omega, by go_num, Lib.hid ?_⟩
         have e1 : outTo fr ws l (k + 1) = (out ++ regC fr ws x0 (5 + 0)) ++ [⟨c.f0, c.f1, 5, y0, c.f4, c.f5, c.f6, c.f7⟩] ++ [writeC fr y] := by
           rw [outTo_succ fr ws l k hkl, ← HCL.out, ← HOUT.out]
           unfold codeOut
           rw [← HUU.out, ← HNU.out, if_pos HDB.out, ← HTO.out, ← HYW.out, if_pos hy0, HSR.out]
           rw [HX0.out]
           simp only [readsTo, List.append_assoc, List.nil_append, List.cons_append, setTo]
           try rfl
         have e2 : startsL fr ws l (k + 1) = startsL fr ws l k ++ [(m : Int)] := by
           rw [startsL_succ]
           unfold startOf
           rw [← HOUT.out, HRM.out.1]
         rw [e1, e2]
         exact HQ9.out
       case measure => simp [intOf]; omega
   · have ty : decide (y < 0) = false := decide_eq_false hy0
     obtain ⟨g0, g1, g2, g3, g4, g5, g6, g7⟩ := box8 HS.out.bx
     have HLN : Hid ((out ++ regC fr ws x0 (5 + 0)).length ≤ 999100) := Lib.hid (by simp only [List.length_append]; have := regC_len fr ws x0 (5 + 0); omega)
     go_wp2_with fail
     refine (code_Defines.calls c.f0 c.f1 c.f2 c.f3 c.f4 c.f5 c.f6 c.f7 tg true _ HDF.out).mono ?_
     rintro e w6 ⟨rfl, hb6⟩
     replace HS := Lib.hid (HS.out.below hb6)
     clear hb6 g0 g1 g2 g3 g4 g5 g6 g7
     obtain ⟨⟨b0, b1, b2, b3, b4, b5, b6, b7⟩, ⟨z2, z3, z4, z5⟩⟩ := HS.out.bk
     have wx0 := blk_cell HS.out.qs.wx 0
     have fx0 := blk_cell HS.out.qs.fx 0
     obtain ⟨adw, eadw, xw⟩ := Kd.at_int (Kd.C_below HW.out HS.out.qs.old) tg t0 t1
     rw [← HYW.out] at xw
     cases eadw
     go_upto_region 21 with (fail)
     replace HS := Lib.hid (HS.out.setD 2 (.int .i64 y) (d' := ⟨c.f0, c.f1, y, y0, c.f4, c.f5, c.f6, c.f7⟩) rfl)
     generalize w6.setCell ⟨eb, 2, none⟩ (.int .i64 y) = w6b at HS ⊢
     clear b0 b1 b2 b3 b4 b5 b6 b7 z2 z3 z4 z5
     clear wx0 fx0 xw
     obtain ⟨⟨b0, b1, b2, b3, b4, b5, b6, b7⟩, ⟨z2, z3, z4, z5⟩⟩ := HS.out.bk
     have wx0 := blk_cell HS.out.qs.wx 0
     have fx0 := blk_cell HS.out.qs.fx 0
     obtain ⟨adw2, eadw, xw⟩ := Kd.at_int (Kd.C_below HW.out HS.out.qs.old) tg t0 t1
     rw [← HYW.out] at xw
     have eadw2 : adw = adw2 := by injection eadw
     rw [← eadw2] at xw
     clear eadw eadw2
     go_upto_region 23 with (fail)
     clear b0 b1 b2 b3 b4 b5 b6 b7 z2 z3 z4 z5
     clear wx0 fx0 xw
     obtain ⟨⟨b0, b1, b2, b3, b4, b5, b6, b7⟩, ⟨z2, z3, z4, z5⟩⟩ := HS.out.bk
     obtain ⟨o0, oz, ag⟩ := HS.out.qs.em.cell
     have obl := HS.out.qs.em.lt
     go_upto_region 24 with (first
       | (at_builtin; refine Kd.R_append k37 (w0 := w6b) 0 rfl (.tmp 91) (.tmp 93) 22 37 (.agg #[.int .i64 0, .int .i64 0, .int .i64 0, .int .i64 0, .int .i64 0, .int .i64 0, .int .u64 0, .int .i64 0]) 64 rfl Tryd.underlying22 info37 rfl (by decide) (by omega) vz0 (out ++ regC fr ws x0 (5 + 0)) ⟨c.f0, c.f1, y, y0, c.f4, c.f5, c.f6, c.f7⟩ [.int .i64 (c.f0), .int .i64 (c.f1), .int .i64 (y), .int .i64 (y0), .int .i64 (c.f4), .int .i64 (c.f5), .int .u64 (c.f6), .int .i64 (c.f7)] (fun q => ob < q) (fun _ => False) rfl rfl ?aP (fun _ hk => hk.elim) ?aF ?aO ?aB ?aS ?aL ?_; (case aP => exact k37_mkM _ _ _ _); (case aB => exact Below.refl _ _); (case aF => intro q hq; exact Nat.lt_of_lt_of_le obl hq); (case aO => exact HS.out.qs.em.2); (case aS => exact Nat.zero_le _); (case aL => have := HLN.out; omega); intro v7 w7 h1 h2 h3 h4; have c7 : w7.cell? ⟨ob, 0, none⟩ = some vz0 := blk_cell (blk_grown HS.out.qs.em.1 h3 ag) 0; have z7 : w7.frozen? ⟨ob, 0, none⟩ = false := blk_frozen (blk_grown HS.out.qs.em.1 h3 ag) 0; have HG7 := Lib.hid h3; have HV7 := Lib.hid (own_or h4); obtain ⟨A7, n7, k7, rfl, H7⟩ := slice_of h1; clear h1 h2 h3 h4)
       | fail)
     obtain ⟨hM7, hK7⟩ := WM.put0 HS.out.qs.em HG7.out H7.out.2 HV7.out
     replace HS := Lib.hid (HS.out.step hK7 hM7)
     clear hM7 hK7 HG7 HV7 H7 c7 z7 o0 oz ag obl b0 b1 b2 b3 b4 b5 b6 b7 z2 z3 z4 z5
     generalize w7.setCell ⟨ob, 0, none⟩ (.slice A7 n7 k7) = w8 at HS ⊢
     have wx0 := blk_cell HS.out.qs.wx 0
     have fx0 := blk_cell HS.out.qs.fx 0
     obtain ⟨adw2, eadw, xw⟩ := Kd.at_int (Kd.C_below HW.out HS.out.qs.old) tg t0 t1
     rw [← HYW.out] at xw
     have eadw2 : adw = adw2 := by injection eadw
     rw [← eadw2] at xw
     clear eadw eadw2
     (go_wp2_with fail)
     go_roundw
     case rel =>
       refine ⟨_, (.slice A7 n7 k7), k + 1, rfl, by omega, by go_num, Lib.hid ?_⟩
       have e1 : outTo fr ws l (k + 1) = (out ++ regC fr ws x0 (5 + 0)) ++ [⟨c.f0, c.f1, y, y0, c.f4, c.f5, c.f6, c.f7⟩] := by
         rw [outTo_succ fr ws l k hkl, ← HCL.out, ← HOUT.out]
         unfold codeOut
         rw [← HUU.out, ← HNU.out, if_pos HDB.out, ← HTO.out, ← HYW.out, if_neg (show ¬ y < 0 by omega), HSR.out]
         rw [HX0.out]
         simp only [readsTo, List.append_assoc, List.nil_append, List.cons_append, setTo]
         try rfl
       have e2 : startsL fr ws l (k + 1) = startsL fr ws l k ++ [(m : Int)] := by
         rw [startsL_succ]
         unfold startOf
         rw [← HOUT.out, HRM.out.1]
       rw [e1, e2]
       exact HS.out.qs
     case measure => simp [intOf]; omega
 · have hdb' : db c = false := by simpa using hdb
   have h0 : dv c = 0 := by
     unfold db at hdb'
     unfold dv
     rw [if_neg (by simpa using hdb')]
   have hDF := Defines_eq c
   rw [hdb', h0] at hDF
   have HDF := Lib.hid hDF
   have HDB := Lib.hid hdb'
   clear hdb hdb' h0 hDF
   obtain ⟨g0, g1, g2, g3, g4, g5, g6, g7⟩ := box8 HS.out.bx
   have HLN : Hid ((out ++ regC fr ws x0 (5 + 0)).length ≤ 999100) := Lib.hid (by simp only [List.length_append]; have := regC_len fr ws x0 (5 + 0); omega)
   go_wp2_with fail
   refine (code_Defines.calls c.f0 c.f1 c.f2 c.f3 c.f4 c.f5 c.f6 c.f7 0 false _ HDF.out).mono ?_
   rintro e w6 ⟨rfl, hb6⟩
   replace HS := Lib.hid (HS.out.below hb6)
   clear hb6 g0 g1 g2 g3 g4 g5 g6 g7
   obtain ⟨⟨b0, b1, b2, b3, b4, b5, b6, b7⟩, ⟨z2, z3, z4, z5⟩⟩ := HS.out.bk
   obtain ⟨o0, oz, ag⟩ := HS.out.qs.em.cell
   have obl := HS.out.qs.em.lt
   go_upto_region 24 with (first
     | (at_builtin; refine Kd.R_append k37 (w0 := w6) 0 rfl (.tmp 91) (.tmp 93) 22 37 (.agg #[.int .i64 0, .int .i64 0, .int .i64 0, .int .i64 0, .int .i64 0, .int .i64 0, .int .u64 0, .int .i64 0]) 64 rfl Tryd.underlying22 info37 rfl (by decide) (by omega) vz0 (out ++ regC fr ws x0 (5 + 0)) ⟨c.f0, c.f1, c.f2, y0, c.f4, c.f5, c.f6, c.f7⟩ [.int .i64 (c.f0), .int .i64 (c.f1), .int .i64 (c.f2), .int .i64 (y0), .int .i64 (c.f4), .int .i64 (c.f5), .int .u64 (c.f6), .int .i64 (c.f7)] (fun q => ob < q) (fun _ => False) rfl rfl ?aP (fun _ hk => hk.elim) ?aF ?aO ?aB ?aS ?aL ?_; (case aP => exact k37_mkM _ _ _ _); (case aB => exact Below.refl _ _); (case aF => intro q hq; exact Nat.lt_of_lt_of_le obl hq); (case aO => exact HS.out.qs.em.2); (case aS => exact Nat.zero_le _); (case aL => have := HLN.out; omega); intro v7 w7 h1 h2 h3 h4; have c7 : w7.cell? ⟨ob, 0, none⟩ = some vz0 := blk_cell (blk_grown HS.out.qs.em.1 h3 ag) 0; have z7 : w7.frozen? ⟨ob, 0, none⟩ = false := blk_frozen (blk_grown HS.out.qs.em.1 h3 ag) 0; have HG7 := Lib.hid h3; have HV7 := Lib.hid (own_or h4); obtain ⟨A7, n7, k7, rfl, H7⟩ := slice_of h1; clear h1 h2 h3 h4)
     | fail)
   obtain ⟨hM7, hK7⟩ := WM.put0 HS.out.qs.em HG7.out H7.out.2 HV7.out
   replace HS := Lib.hid (HS.out.step hK7 hM7)
   clear hM7 hK7 HG7 HV7 H7 c7 z7 o0 oz ag obl b0 b1 b2 b3 b4 b5 b6 b7 z2 z3 z4 z5
   generalize w7.setCell ⟨ob, 0, none⟩ (.slice A7 n7 k7) = w8 at HS ⊢
   (go_wp2_with fail)
   go_roundw
   case rel =>
     refine ⟨_, (.slice A7 n7 k7), k + 1, rfl, by omega, by go_num, Lib.hid ?_⟩
     have e1 : outTo fr ws l (k + 1) = (out ++ regC fr ws x0 (5 + 0)) ++ [⟨c.f0, c.f1, c.f2, y0, c.f4, c.f5, c.f6, c.f7⟩] := by
       rw [outTo_succ fr ws l k hkl, ← HCL.out, ← HOUT.out]
       unfold codeOut
       rw [← HUU.out, ← HNU.out, if_neg (by rw [HDB.out]; simp), HSR.out]
       rw [HX0.out]
       simp only [readsTo, List.append_assoc, List.nil_append, List.cons_append, setTo]
       try rfl
     have e2 : startsL fr ws l (k + 1) = startsL fr ws l k ++ [(m : Int)] := by
       rw [startsL_succ]
       unfold startOf
       rw [← HOUT.out, HRM.out.1]
     rw [e1, e2]
     exact HS.out.qs
   case measure => simp [intOf]; omega
end Go.Proofs.YtepgpapljoelhaaDoor.PE
