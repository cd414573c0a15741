/- The contract of law19's want: it lays what emit.Of lays. -/
import Derived.Test.YtepgpapljoelhaaDoorWp0
import Derived.Test.YtepgpapljoelhaaDoorWp1
import Derived.Test.YtepgpapljoelhaaDoorWp2
import Derived.Test.YtepgpapljoelhaaDoorWp3
namespace Go.Proofs.YtepgpapljoelhaaDoor.PE
open Go.RowKit Go.Proofs.YtepgpapljoelhaaDoorW.PrintWords Go.Proofs.YtepgpapljoelhaaDoorW.PrintLast Go.Proofs.YtepgpapljoelhaaDoorW.PrintMore
set_option linter.unusedVariables false
set_option linter.unusedSimpArgs false

set_option maxHeartbeats 8000000 in
set_option maxRecDepth 100000 in
theorem want_calls (A : Option Addr) (cap : Nat) (l : List S37) (Aw : Option Addr) (nw cw : Nat) (ws : List Int) (fr : Int) (w : World) (hr : Kd.C k37 w A l.length l) (hc : l.length ≤ cap) (hW : Kd.C (Kd.int .i64) w Aw nw ws) (hl : l.length ≤ 10000)
    (hu : ∀ c ∈ l, ∀ u ∈ us c, 0 ≤ u ∧ u < (nw : Int)) (hd : ∀ c ∈ l, db c = true → 0 ≤ dv c ∧ dv c < (nw : Int)) (hj : ∀ c ∈ l, jm c = true → 0 ≤ c.f7 ∧ c.f7 < (l.length : Int)) :
    Calls Tryd.prog 13 #[.slice A l.length cap, .slice Aw nw cw, .int .u64 fr] w (WantPost w (emitL fr ws l)) := by
  have hmf : ∀ (fn : Fn) (first cap : Array Value) (w : World), (Instr.makeFunc fn first cap).run Tryd.prog w = .ok (.func fn first cap) w := fun _ _ _ _ => rfl
  obtain ⟨n, hn⟩ : ∃ n, n = l.length := ⟨_, rfl⟩
  rw [← hn] at hr hc hl ⊢
  have HN := Lib.hid hn
  have HR := Lib.hid hr
  have HW := Lib.hid hW
  have HU := Lib.hid hu
  have HD := Lib.hid hd
  have HJ := Lib.hid hj
  clear hn hr hW hu hd hj
  go_enter Tryd.func13, Tryd.ntmps13
  go_wp2_with fail
  have hQS := QS.start (w0 := w) (wb := w.heap.size) (fb := w.heap.size + 1) (ob := w.heap.size + 1 + 1) (nw := nw) (cw := cw) (Aw := Aw) (fr := fr) (w := ((w.alloc (.cells #[.slice Aw nw cw] 28)).alloc (.cells #[.int .u64 fr] 24)).alloc (.cells #[.slice none 0 0] 22)) ((((Below.refl _ _).alloc (Nat.le_refl _) _).alloc (by simp) _).alloc (by simp; omega) _) (blk_alloc (blk_alloc (blk_new w _) _) _) (by have h := blk_alloc (blk_new (w.alloc (.cells #[.slice Aw nw cw] 28)) (.cells #[.int .u64 fr] 24)) (.cells #[.slice none 0 0] 22); rw [show (w.alloc (.cells #[.slice Aw nw cw] 28)).heap.size = w.heap.size + 1 by simp] at h; exact h) (by have h := blk_new ((w.alloc (.cells #[.slice Aw nw cw] 28)).alloc (.cells #[.int .u64 fr] 24)) (.cells #[.slice none 0 0] 22); rw [show ((w.alloc (.cells #[.slice Aw nw cw] 28)).alloc (.cells #[.int .u64 fr] 24)).heap.size = w.heap.size + 1 + 1 by simp] at h; exact h) ⟨Nat.le_refl _, by omega, by omega⟩
  generalize ((w.alloc (.cells #[.slice Aw nw cw] 28)).alloc (.cells #[.int .u64 fr] 24)).alloc (.cells #[.slice none 0 0] 22) = w0 at hQS ⊢
  generalize w.heap.size + 1 + 1 = ob at hQS ⊢
  generalize w.heap.size + 1 = fb at hQS ⊢
  obtain ⟨wb, hwb⟩ : ∃ wb, wb = w.heap.size := ⟨_, rfl⟩
  rw [← hwb] at hQS ⊢
  have HQS := Lib.hid hQS
  clear hQS hwb
  go_loopw [8, 20] (fun sv_ i wr => ∃ (sv v : Value) (k : Nat), sv = sv_ ∧ k ≤ n ∧ i = .int .i64 k ∧ Hid (QS w ob wb fb nw cw Aw fr v (outTo fr ws l k) sv (startsL fr ws l k) wr)) (fun _ i _ => n - (intOf i).toNat)
  case atStart => exact ⟨_, .slice none 0 0, 0, rfl, Nat.zero_le _, rfl, HQS⟩
  case round =>
    clear HQS
    obtain ⟨sv, v0, k, rfl, hk, rfl, HQS⟩ := hrel
    by_cases hkn : k < n
    · have hkl : k < l.length := by rw [← HN.out]; exact hkn
      obtain ⟨ad, rfl, x0, x1, x2, x3, x4, x5, x6, x7⟩ := at_T37 (Kd.C_below HR.out HQS.out.old) (k : Int) (by omega) (by omega)
      rw [Int.toNat_natCast] at x0 x1 x2 x3 x4 x5 x6 x7
      obtain ⟨c, hc0⟩ : ∃ c, c = rd_T37 l (k : Int) := ⟨_, rfl⟩
      rw [← hc0] at x0 x1 x2 x3 x4 x5 x6 x7
      have hcl : c = l[k] := by rw [hc0]; exact rdT_at l k hkl
      have hcm : c ∈ l := by rw [hcl]; exact List.getElem_mem _
      have HCU := Lib.hid (HU.out c hcm)
      have HCD := Lib.hid (HD.out c hcm)
      have hlen : (outTo fr ws l k).length ≤ 999000 := by have := outTo_len fr ws l k; omega
      obtain ⟨Av, m, cv, rfl, HRM⟩ := slice_of (R37_ok (ok' := fun _ => True) (Kd.R_mono HQS.out.em.2 (fun _ _ => trivial)) (fun _ _ => trivial))
      have HCL := Lib.hid hcl
      obtain ⟨K, hK⟩ := (Uses_eq c).ex
      obtain ⟨U, hU0⟩ : ∃ U, U = us c := ⟨_, rfl⟩
      have hn3 := us_len c
      rw [← hU0] at hK hn3
      obtain ⟨nu, hnu⟩ : ∃ nu, nu = U.length := ⟨_, rfl⟩
      rw [← hnu] at hn3
      have HUU := Lib.hid hU0
      have HNU := Lib.hid hnu
      have HK := Lib.hid hK
      have HQ1 := Lib.hid (HQS.out.alloc (.cells (cells37 c) 37))
      have hbx := blk_new wr (.cells (cells37 c) 37)
      have hobg : ob < wr.heap.size := HQS.out.em.lt
      have hsvl : ∀ q, sv.ownBlock = some q → q < wr.heap.size := fun q e => (RI_own HQS.out.sr e).1
      have hvvl : ∀ q, (Value.slice Av m cv).ownBlock = some q → q < wr.heap.size := fun q e => (HQS.out.em.own e).1
      have e2 := HQ1.out.em.cell.1
      have HBX := Lib.hid hbx
      have HSVL := Lib.hid hsvl
      have HVVL := Lib.hid hvvl
      obtain ⟨out, hout⟩ : ∃ out, out = outTo fr ws l k := ⟨_, rfl⟩
      rw [← hout] at HQS HQ1 HRM hlen
      have HOUT := Lib.hid hout
      clear hc0 hcl hcm hU0 hnu hK hbx hsvl hvvl hout
      unfold cells37 at e2
      have e3 : (wr.alloc (.cells #[.int .i64 c.f0, .int .i64 c.f1, .int .i64 c.f2, .int .i64 c.f3, .int .i64 c.f4, .int .i64 c.f5, .int .u64 c.f6, .int .i64 c.f7] 37)).heap.size = wr.heap.size + 1 := by simp
      have HSZA : Hid ((wr.alloc (.cells (cells37 c) 37)).heap.size = wr.heap.size + 1) := Lib.hid e3
      clear e3
      go_upto_region 6 with (fail)
      obtain ⟨gb, hgb⟩ : ∃ gb, gb = wr.heap.size := ⟨_, rfl⟩
      rw [← hgb] at HBX HSVL HVVL hobg HSZA ⊢
      generalize hwa : wr.alloc (.cells #[.int .i64 c.f0, .int .i64 c.f1, .int .i64 c.f2, .int .i64 c.f3, .int .i64 c.f4, .int .i64 c.f5, .int .u64 c.f6, .int .i64 c.f7] 37) = wa at e2 ⊢
      replace HQ1 : Hid (QS w ob wb fb nw cw (Aw) fr (.slice Av m cv) out sv (startsL fr ws l k) wa) := Lib.hid (by rw [← hwa]; exact HQ1.out)
      replace HBX : Hid (wa.heap[gb]? = some (.cells (cells37 c) 37 (0, 0))) := Lib.hid (by rw [← hwa]; exact HBX.out)
      replace HSZA : Hid (wa.heap.size = gb + 1) := Lib.hid (by rw [← hwa]; exact HSZA.out)
      clear hwa hgb HQS x0 x1 x2 x3 x4 x5 x6 x7
      go_wp2_with (first
        | (at_builtin; refine Kd.R_append (Kd.int .i64) (w0 := wa) 0 rfl (.tmp 24) (.tmp 27) 28 3 (.int .i64 0) 8 rfl Tryd.underlying28 info3e rfl (by decide) (by omega) sv (startsL fr ws l k) (m : Int) [.int .i64 (m : Int)] (fun q => ob < q ∧ (Value.slice Av m cv).ownBlock ≠ some q) (fun _ => False) rfl rfl ?aP (fun _ hk => hk.elim) ?aF ?aO ?aB ?aS ?aL ?_; (case aP => exact rfl); (case aB => exact Below.refl _ _); (case aF => intro q hq; have hq2 : gb < q := (by have := HSZA.out; omega); exact ⟨by omega, fun e => by have := HVVL.out q e; omega⟩); (case aO => exact HQ1.out.sr); (case aS => exact Nat.zero_le _); (case aL => rw [startsL_len]; omega); intro sv1 w1 h1 h2 h3 h4; have HQ2 := Lib.hid (HQ1.out.app h1 h3); have hb1 : w1.heap[gb]? = some (.cells (cells37 c) 37 (0, 0)) := blk_grown HBX.out h3 (fun e => by have := HSVL.out _ e.symm; omega); have HB1 := Lib.hid hb1; obtain ⟨g0, g1, g2, g3, g4, g5, g6, g7⟩ := box8 hb1; have HS1 : Hid (∀ q, sv1.ownBlock = some q → q ≠ gb ∧ q < w1.heap.size) := Lib.hid (fun q e => ⟨own_ne h4 HSVL.out HSZA.out q e, (RI_own h1 e).1⟩); have HSZ : Hid (gb < w1.heap.size) := Lib.hid (blk_lt hb1); clear h1 h2 h3 h4 hb1 e2)
        | fail)
      refine (code_Uses.calls K c.f0 c.f1 c.f2 c.f3 c.f4 c.f5 c.f6 c.f7 U _ HK.out).mono ?_
      rintro e w3 ⟨uv, rfl, hUv, hb3⟩
      obtain ⟨Au, cu, rfl⟩ := Kd.R_slice hUv
      rw [← HNU.out] at hUv ⊢
      have hb13 := blk_below HB1.out hb3
      have hRS := RS.start (HQ2.out.below hb3) hb13 hUv HSZ.out hobg (fun q e => (HS1.out q e).1) HVVL.out
      clear g0 g1 g2 g3 g4 g5 g6 g7
      obtain ⟨g0, g1, g2, g3, g4, g5, g6, g7⟩ := box8 hb13
      have HRS := Lib.hid hRS
      clear hRS hb13 hUv hb3 HB1
      go_upto_region 10 with (fail)
      obtain ⟨eb, hdb0⟩ : ∃ eb, eb = w3.heap.size := ⟨_, rfl⟩
      rw [← hdb0] at HRS ⊢
      have HS := HRS
      unfold cells37 at HS
      generalize w3.alloc (.cells #[.int .i64 c.f0, .int .i64 c.f1, .int .i64 c.f2, .int .i64 c.f3, .int .i64 c.f4, .int .i64 c.f5, .int .u64 c.f6, .int .i64 c.f7] 37) = w4 at HS ⊢
      clear g0 g1 g2 g3 g4 g5 g6 g7 hdb0 HRS HQ1 HQ2 HBX
      by_cases h5 : c.f0 = 5
      · have t5 : (c.f0 == 5) = true := by simp [h5]
        have HF5 := Lib.hid h5
        by_cases h3 : c.f3 < 0
        · have hnu : nu = 1 := by
            rw [HNU.out, HUU.out]
            unfold us
            simp [h5, Int.not_le.2 h3]
          have HYA : Hid (c.f0 = 5 ∧ c.f3 < 0) := Lib.hid ⟨h5, h3⟩
          clear h5 h3
          exact want_A cap l Aw nw cw ws fr w n _ w0 ob fb wb wr u10 u11 u12 u13 u14 u15 u21 u22 u23 u24 u25 u26 u27 u28 u29 u30 u31 u32 u33 u34 u35 u36 u37 u38 u39 u40 u41 u42 u43 u44 u45 u46 u47 u48 u49 u50 u51 u52 u53 u54 u55 u56 u57 u58 u59 u60 u61 u62 u63 u64 u65 u66 u67 u68 u69 u70 u71 u72 u73 u74 u75 u76 u77 u78 u79 u80 u81 u82 u83 u84 u85 u86 u87 u88 u89 u90 u91 u92 u93 u94 u95 u96 u97 u98 u99 u100 u101 u102 u103 u104 u105 u106 u107 u108 u109 u110 u111 u112 u113 u114 u115 sv k ad c Av m cv K U nu out _ gb wa sv1 w1 w3 Au cu _ _ eb w4 hmf hl hc HN HW HU HD HJ hk hkn hkl HR HCU HCD HCL hn3 HUU HNU HK hlen HRM HOUT (by assumption) hobg HVVL HSVL HSZA HS1 HSZ HS t5 HF5 hnu HYA (by assumption) (by assumption) (by assumption) (by assumption)
        · have hnu : nu = 2 := by
            rw [HNU.out, HUU.out]
            unfold us
            simp [h5, Int.not_lt.1 h3]
          have HNA : Hid (¬ (c.f0 = 5 ∧ c.f3 < 0)) := Lib.hid (fun h => h3 h.2)
          clear h5 h3
          exact want_B cap l Aw nw cw ws fr w n _ w0 ob fb wb wr u10 u11 u12 u13 u14 u15 u21 u22 u23 u24 u25 u26 u27 u28 u29 u30 u31 u32 u33 u34 u35 u36 u37 u38 u39 u40 u41 u42 u43 u44 u45 u46 u47 u48 u49 u50 u51 u52 u53 u54 u55 u56 u57 u58 u59 u60 u61 u62 u63 u64 u65 u66 u67 u68 u69 u70 u71 u72 u73 u74 u75 u76 u77 u78 u79 u80 u81 u82 u83 u84 u85 u86 u87 u88 u89 u90 u91 u92 u93 u94 u95 u96 u97 u98 u99 u100 u101 u102 u103 u104 u105 u106 u107 u108 u109 u110 u111 u112 u113 u114 u115 sv k ad c Av m cv K U nu out _ gb wa sv1 w1 w3 Au cu _ _ eb w4 hmf hl hc HN HW HU HD HJ hk hkn hkl HR HCU HCD HCL hn3 HUU HNU HK hlen HRM HOUT (by assumption) hobg HVVL HSVL HSZA HS1 HSZ HS t5 HF5 hnu HNA (by assumption) (by assumption) (by assumption) (by assumption)
      · have t5 : (c.f0 == 5) = false := by simp [h5]
        have HNA : Hid (¬ (c.f0 = 5 ∧ c.f3 < 0)) := Lib.hid (fun h => h5 h.1)
        clear h5
        have hcs : nu = 0 ∨ nu = 1 ∨ nu = 2 ∨ nu = 3 := by omega
        rcases hcs with hnu | hnu | hnu | hnu
        · exact want_C0 cap l Aw nw cw ws fr w n _ w0 ob fb wb wr u10 u11 u12 u13 u14 u15 u21 u22 u23 u24 u25 u26 u27 u28 u29 u30 u31 u32 u33 u34 u35 u36 u37 u38 u39 u40 u41 u42 u43 u44 u45 u46 u47 u48 u49 u50 u51 u52 u53 u54 u55 u56 u57 u58 u59 u60 u61 u62 u63 u64 u65 u66 u67 u68 u69 u70 u71 u72 u73 u74 u75 u76 u77 u78 u79 u80 u81 u82 u83 u84 u85 u86 u87 u88 u89 u90 u91 u92 u93 u94 u95 u96 u97 u98 u99 u100 u101 u102 u103 u104 u105 u106 u107 u108 u109 u110 u111 u112 u113 u114 u115 sv k ad c Av m cv K U nu out _ gb wa sv1 w1 w3 Au cu _ _ eb w4 hmf hl hc HN HW HU HD HJ hk hkn hkl HR HCU HCD HCL hn3 HUU HNU HK hlen HRM HOUT (by assumption) hobg HVVL HSVL HSZA HS1 HSZ HS t5 HNA hnu (by assumption) (by assumption) (by assumption) (by assumption)
        · exact want_C1 cap l Aw nw cw ws fr w n _ w0 ob fb wb wr u10 u11 u12 u13 u14 u15 u21 u22 u23 u24 u25 u26 u27 u28 u29 u30 u31 u32 u33 u34 u35 u36 u37 u38 u39 u40 u41 u42 u43 u44 u45 u46 u47 u48 u49 u50 u51 u52 u53 u54 u55 u56 u57 u58 u59 u60 u61 u62 u63 u64 u65 u66 u67 u68 u69 u70 u71 u72 u73 u74 u75 u76 u77 u78 u79 u80 u81 u82 u83 u84 u85 u86 u87 u88 u89 u90 u91 u92 u93 u94 u95 u96 u97 u98 u99 u100 u101 u102 u103 u104 u105 u106 u107 u108 u109 u110 u111 u112 u113 u114 u115 sv k ad c Av m cv K U nu out _ gb wa sv1 w1 w3 Au cu _ _ eb w4 hmf hl hc HN HW HU HD HJ hk hkn hkl HR HCU HCD HCL hn3 HUU HNU HK hlen HRM HOUT (by assumption) hobg HVVL HSVL HSZA HS1 HSZ HS t5 HNA hnu (by assumption) (by assumption) (by assumption) (by assumption)
        · exact want_C2 cap l Aw nw cw ws fr w n _ w0 ob fb wb wr u10 u11 u12 u13 u14 u15 u21 u22 u23 u24 u25 u26 u27 u28 u29 u30 u31 u32 u33 u34 u35 u36 u37 u38 u39 u40 u41 u42 u43 u44 u45 u46 u47 u48 u49 u50 u51 u52 u53 u54 u55 u56 u57 u58 u59 u60 u61 u62 u63 u64 u65 u66 u67 u68 u69 u70 u71 u72 u73 u74 u75 u76 u77 u78 u79 u80 u81 u82 u83 u84 u85 u86 u87 u88 u89 u90 u91 u92 u93 u94 u95 u96 u97 u98 u99 u100 u101 u102 u103 u104 u105 u106 u107 u108 u109 u110 u111 u112 u113 u114 u115 sv k ad c Av m cv K U nu out _ gb wa sv1 w1 w3 Au cu _ _ eb w4 hmf hl hc HN HW HU HD HJ hk hkn hkl HR HCU HCD HCL hn3 HUU HNU HK hlen HRM HOUT (by assumption) hobg HVVL HSVL HSZA HS1 HSZ HS t5 HNA hnu (by assumption) (by assumption) (by assumption) (by assumption)
        · exact want_C3 cap l Aw nw cw ws fr w n _ w0 ob fb wb wr u10 u11 u12 u13 u14 u15 u21 u22 u23 u24 u25 u26 u27 u28 u29 u30 u31 u32 u33 u34 u35 u36 u37 u38 u39 u40 u41 u42 u43 u44 u45 u46 u47 u48 u49 u50 u51 u52 u53 u54 u55 u56 u57 u58 u59 u60 u61 u62 u63 u64 u65 u66 u67 u68 u69 u70 u71 u72 u73 u74 u75 u76 u77 u78 u79 u80 u81 u82 u83 u84 u85 u86 u87 u88 u89 u90 u91 u92 u93 u94 u95 u96 u97 u98 u99 u100 u101 u102 u103 u104 u105 u106 u107 u108 u109 u110 u111 u112 u113 u114 u115 sv k ad c Av m cv K U nu out _ gb wa sv1 w1 w3 Au cu _ _ eb w4 hmf hl hc HN HW HU HD HJ hk hkn hkl HR HCU HCD HCL hn3 HUU HNU HK hlen HRM HOUT (by assumption) hobg HVVL HSVL HSZA HS1 HSZ HS t5 HNA hnu (by assumption) (by assumption) (by assumption) (by assumption)
    · obtain rfl : k = n := by omega
      obtain ⟨out, hout⟩ : ∃ out, out = outTo fr ws l k := ⟨_, rfl⟩
      rw [← hout] at HQS
      have HOUT := Lib.hid hout
      obtain ⟨Av, m, cv, rfl, HRM⟩ := slice_of (R37_ok (ok' := fun _ => True) (Kd.R_mono HQS.out.em.2 (fun _ _ => trivial)) (fun _ _ => trivial))
      obtain ⟨As, cs, rfl⟩ := Kd.R_slice HQS.out.sr
      rw [startsL_len] at HQS ⊢
      obtain ⟨o0, oz, ag⟩ := HQS.out.em.cell
      have hm1 : m ≤ 1000000 := by
        have h1 := outTo_len fr ws l k
        rw [HRM.out.1, hout]
        omega
      clear hout
      go_wp2_with fail
      clear o0 oz ag
      go_loopw [118] (fun i wr => ∃ (j : Nat), j ≤ m ∧ i = .int .i64 j ∧ Hid (QS w ob wb fb nw cw Aw fr (.slice Av m cv) (aimTo fr ws l out j) (.slice As k cs) (startsL fr ws l k) wr)) (fun i _ => m - (intOf i).toNat)
      case atStart => exact ⟨0, Nat.zero_le _, rfl, Lib.hid (by simpa [aimTo] using HQS.out)⟩
      case round =>
        clear HQS
        obtain ⟨j, hj, rfl, HQS⟩ := hrel
        by_cases hjm : j < m
        · have hjo : j < out.length := by rw [← HRM.out.1]; exact hjm
          obtain ⟨g, hAv⟩ : ∃ g, Av = some ⟨g, 0, none⟩ := by
            obtain ⟨g, cap', e, _⟩ := Kd.R_form HRM.out.2 (by omega)
            injection e with e1 e2 e3
            exact ⟨g, e1⟩
          subst hAv
          obtain ⟨D, hD0⟩ : ∃ D, D = rd_T37 (aimTo fr ws l out j) (j : Int) := ⟨_, rfl⟩
          obtain ⟨⟨x0, x1, x2, x3, x4, x5, x6, x7⟩, xz⟩ := HQS.out.el hjm hD0
          have hD1 : D = out[j] := by rw [hD0]; exact aimTo_rd fr ws l out j hjo
          have hDm : D ∈ outTo fr ws l k := by rw [hD1, ← HOUT.out]; exact List.getElem_mem _
          have HS := aimTo_succ fr ws l out j hjo
          rw [← hD1] at HS
          have HAS := Lib.hid HS
          have HD0 := Lib.hid hD0
          have HQA := Lib.hid (HQS.out.alloc (.cells (cells37 D) 37))
          clear hD0 hD1 HS
          go_upto_region 30 with (fail)
          obtain ⟨db, hdb0⟩ : ∃ db, db = wr.heap.size := ⟨_, rfl⟩
          have hbx := blk_new wr (.cells (cells37 D) 37)
          rw [← hdb0] at hbx ⊢
          unfold cells37 at HQA hbx
          generalize wr.alloc (.cells #[.int .i64 D.f0, .int .i64 D.f1, .int .i64 D.f2, .int .i64 D.f3, .int .i64 D.f4, .int .i64 D.f5, .int .u64 D.f6, .int .i64 D.f7] 37) = w4 at HQA hbx ⊢
          clear x0 x1 x2 x3 x4 x5 x6 x7 xz hdb0
          have b0 : w4.cell? ⟨db, 0, none⟩ = some (.int .i64 D.f0) := blk_cell hbx 0
          have b7 : w4.cell? ⟨db, 7, none⟩ = some (.int .i64 D.f7) := blk_cell hbx 7
          clear hbx
          by_cases hjD : jm D = true
          · obtain ⟨c, hcm, hcj, hc7⟩ := jm_out fr ws l k D hDm hjD
            obtain ⟨y0, y1⟩ := HJ.out c hcm hcj
            rw [← hc7, ← HN.out] at y1
            rw [← hc7] at y0
            obtain ⟨gs, hAs⟩ : ∃ gs, As = some ⟨gs, 0, none⟩ := by
              obtain ⟨g, cap', e, _⟩ := Kd.R_form HQA.out.sr (by rw [startsL_len]; omega)
              injection e with e1 e2 e3
              exact ⟨g, e1⟩
            subst hAs
            have r0 := HQA.out.sc (i := D.f7) y0 (by rw [startsL_len]; exact y1)
            obtain ⟨st, hst⟩ : ∃ st, st = rd (startsL fr ws l k) D.f7 := ⟨_, rfl⟩
            rw [← hst] at r0
            have HST := Lib.hid hst
            have HO7 := Lib.hid (HQA.out.setTgt hjm st)
            obtain ⟨o0, oz, ag⟩ := HQA.out.em.cell
            obtain ⟨⟨x0, x1, x2, x3, x4, x5, x6, x7⟩, xz⟩ := HQA.out.el hjm HD0.out
            have h67 : D.f0 = 6 ∨ D.f0 = 7 := of_decide_eq_true hjD
            have HJD := Lib.hid hjD
            clear hcm hcj hc7 hDm hjD hst
            rcases h67 with h67 | h67
            all_goals
              first
                | (have u6 : (D.f0 == 6) = true := by rw [h67]; rfl)
                | (have u6 : (D.f0 == 6) = false := by rw [h67]; rfl)
              first
                | (have u7 : (D.f0 == 7) = true := by rw [h67]; rfl)
                | (have u7 : (D.f0 == 7) = false := by rw [h67]; rfl)
              clear h67
              go_wp2_with fail
              go_region
            all_goals (try (go_wp2_with fail))
            all_goals
              go_roundw
              case rel =>
                refine ⟨j + 1, by omega, by go_num, Lib.hid ?_⟩
                have e1 : aimTo fr ws l out (j + 1) = (aimTo fr ws l out j).set j (tgt (rd_T37 (aimTo fr ws l out j) (j : Int)) st) := by
                  rw [HAS.out, ← HD0.out, HST.out]
                  unfold aim
                  rw [if_pos HJD.out]
                  have e2 : D.f7 = ((D.f7.toNat : Nat) : Int) := by omega
                  rw [e2, startsL_rd fr ws l k _ (by omega), ← e2]
                  rfl
                rw [e1]
                exact HO7.out.below ((Below.refl _ _).drew)
              case measure => simp [intOf]; omega
          · have hjD' : jm D = false := by simpa using hjD
            have h67 : ¬ (D.f0 = 6 ∨ D.f0 = 7) := of_decide_eq_false hjD'
            have u6 : (D.f0 == 6) = false := by simp; exact fun e => h67 (.inl e)
            have u7 : (D.f0 == 7) = false := by simp; exact fun e => h67 (.inr e)
            have HJD := Lib.hid hjD'
            clear hDm hjD hjD' h67 b7
            go_wp2_with fail
            go_roundw
            case rel =>
              refine ⟨j + 1, by omega, by go_num, Lib.hid ?_⟩
              have e1 : aimTo fr ws l out (j + 1) = aimTo fr ws l out j := by
                rw [HAS.out]
                unfold aim
                rw [if_neg (by rw [HJD.out]; simp), HD0.out, aimTo_rd fr ws l out j hjo]
                exact aimTo_id fr ws l out j hjo
              rw [e1]
              exact HQA.out
            case measure => simp [intOf]; omega
        · obtain rfl : j = m := by omega
          obtain ⟨o0, oz, ag⟩ := HQS.out.em.cell
          have HEND : Hid (aimTo fr ws l out j = emitL fr ws l) := Lib.hid (by rw [HRM.out.1, aimTo_end, HOUT.out]; rw [HN.out]; rfl)
          go_wp2_with fail
          go_ret
          refine ⟨_, rfl, ?_, HQS.out.old⟩
          rw [← HEND.out]
          exact R37_base HQS.out.em.2 (fun g hg => by have := HQS.out.em.2.1 g hg; have := HQS.out.ord; omega)
end Go.Proofs.YtepgpapljoelhaaDoor.PE
