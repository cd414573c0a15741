/- PlaceApart: the walk. -/
import Derived.Test.YthboknkpgbfmoaaWalkPlaceNone
import Derived.RegionTactic
import Derived.ChangeAlike
namespace Go.Proofs.Ythboknkpgbfmoaa.PQ
open Go.RowKit Go.WideMaps Go.Maps Go.Proofs.YthboknkpgbfmoaaW.PrintWords Go.Proofs.YthboknkpgbfmoaaW.PrintLast Go.Proofs.YthboknkpgbfmoaaW.PrintMore
set_option linter.unusedVariables false

theorem u8_wf {n : Int} (h : (Lit.int .u8 n).wf = true) : 0 ≤ n ∧ n ≤ 255 := by
  simp only [Lit.wf, IntKind.min, IntKind.max, IntKind.signed, IntKind.bits, Bool.and_eq_true, decide_eq_true_eq] at h
  simpa using h
theorem total_mono (l : List S28) (p q : Nat) (h : p < q) (hq : q < l.length) : total (l.take p) + szOf (l[p]'(by omega)) ≤ total (l.take q) := by
  induction q with
  | zero => omega
  | succ q ih =>
    rw [List.take_succ_eq_append_getElem (show q < l.length by omega), total_append]
    have hb := szOf_bd (l[q]'(by omega))
    by_cases e : p = q
    · subst e; omega
    · have := ih (by omega) (by omega)
      omega

theorem cell_alloc {w : World} {a : Addr} {v : Value} (h : w.cell? a = some v) (o : Obj) : (w.alloc o).cell? a = some v :=
  (((Below.refl w.heap.size w).alloc (Nat.le_refl _) o).cell (World.block_lt_of_cell? w _ h)).trans h

theorem blk_new1 (w : World) (o1 o2 : Obj) : ((w.alloc o1).alloc o2).heap[w.heap.size + 1]? = some o2 := by
  have := blk_new (w.alloc o1) o2
  simpa using this
theorem blk_new2 (w : World) (o1 o2 o3 : Obj) : (((w.alloc o1).alloc o2).alloc o3).heap[w.heap.size + 1 + 1]? = some o3 := by
  have := blk_new ((w.alloc o1).alloc o2) o3
  simpa using this

set_option maxHeartbeats 4000000 in
set_option maxRecDepth 100000 in
theorem walkPlaceApart (W : World) (A0 : Option Addr) (c0 : Nat) (l0 : List Int) (hr0 : Kd.C (Kd.int .i8) W A0 l0.length l0) (hc0 : l0.length ≤ c0) (hm : l0.length ≤ maxLen) (hw : ∀ x ∈ l0, (Lit.int .i8 x).wf = true) (a : Int) (ha : (Lit.int .u8 a).wf = true) (b : Int) (hb : (Lit.int .u8 b).wf = true) :
    Calls Try.prog 5 #[.slice A0 l0.length c0, .int .u8 a, .int .u8 b] W fun e W' => e = .returned (.bool true) ∧ Below W.heap.size W W' := by
  have hu28 := Try.underlying28
  have hu32 := Try.underlying32
  have H0 := Aside0.mk (And.intro hr0 (And.intro hc0 (And.intro hm hw)))
  obtain ⟨ha0, ha1⟩ := u8_wf ha
  obtain ⟨hb0, hb1⟩ := u8_wf hb
  clear hr0 hc0 hm hw ha hb
  go_enter Try.func5, Try.ntmps5
  go_wp2_with (go_at_call 12; refine (awake_calls _).mono ?_; rintro e w1 ⟨rfl, hb1⟩)
  have HB1 := Aside0.mk hb1
  clear hb1
  refine (decls_calls A0 c0 l0 none 0 [] _ (Kd.C_below H0.out.1 HB1.out) H0.out.2.1 H0.out.2.2.1 H0.out.2.2.2 (reads_nil_bool _) (Nat.le_refl _)).mono ?_
  rintro e w2 ⟨A, c, rfl, hlc, hC, hR, hb2⟩
  obtain ⟨r, hrr⟩ : ∃ r, r = declsTo l0 [] (made l0) := ⟨_, rfl⟩
  rw [← hrr] at hlc hC hR
  rw [← hrr]
  have HN := Aside0.mk (decls_names l0 [])
  rw [← hrr] at HN
  have HR := Aside0.mk hrr
  have hsm : r.length ≤ 600 := by rw [hrr]; exact decls_small _ _
  have HC := Aside0.mk hC
  have HL := Aside0.mk hlc
  have HB2 := Aside0.mk (HB1.out.trans (hb2.mono HB1.out.size))
  clear hrr hlc hC hR hb2 HB1
  by_cases h0 : r.length = 0
  · obtain rfl := List.eq_nil_of_length_eq_zero h0
    clear h0
    go_wp2_with fail
    refine (Of_calls (H := Unit) A c [] _ HC.out HL.out (by simp) (by simp)).mono ?_
    rintro e w3 ⟨b', rfl, _, _, hb3⟩
    have HB3 := Aside0.mk (HB2.out.trans (hb3.mono HB2.out.size))
    clear hb3
    go_wp2_with fail
    refine (Size_calls (some b') _ _).mono ?_
    rintro e w4 ⟨rfl, hb4⟩
    rw [show total [] = 0 from rfl]
    have HB4 := Aside0.mk (HB3.out.trans (hb4.mono HB3.out.size))
    clear hb4
    go_wp2
    go_ret
    exact ⟨rfl, HB4.out⟩
  · have hpos : 0 < r.length := Nat.pos_of_ne_zero h0
    have h0b : decide (r.length = 0) = false := decide_eq_false h0
    have h0c : (r.length == 0) = false := by simpa using h0
    have h0d : ((r.length : Int) == 0) = false := beq_eq_false_iff_ne.2 (by omega)
    clear h0
    go_wp2_with fail
    refine (Of_calls (H := Unit) A c r _ HC.out HL.out (by omega) (fun d hd => ?_)).mono ?_
    · rw [HR.out] at hd
      rw [decls_name _ _ d hd]
      decide
    rintro e w3 ⟨bm, rfl, hbm, hown, hb3⟩
    have HO := Aside0.mk hown
    have HB3 := Aside0.mk (HB2.out.trans (hb3.mono HB2.out.size))
    have HC3 := Aside0.mk (Kd.C_below HC.out hb3)
    clear hown hb3 hbm
    -- the two places
    have hl0 : (0 : Int) < (r.length : Int) := by omega
    have pa0 : 0 ≤ a % (r.length : Int) := Int.emod_nonneg a (by omega)
    have pa1 : a % (r.length : Int) < (r.length : Int) := Int.emod_lt_of_pos a hl0
    have pb0 : 0 ≤ b % (r.length : Int) := Int.emod_nonneg b (by omega)
    have pb1 : b % (r.length : Int) < (r.length : Int) := Int.emod_lt_of_pos b hl0
    obtain ⟨ad, e1, x0, x1, x2, x3, x4, x5⟩ := at_T28 HC3.out (a % (r.length : Int)) pa0 pa1
    cases e1
    obtain ⟨ad', e2, y0, y1, y2, y3, y4, y5⟩ := at_T28 HC3.out (b % (r.length : Int)) pb0 pb1
    obtain rfl := Option.some.inj e2
    clear e2
    obtain ⟨dx, hdx⟩ : ∃ d, d = rd_T28 r (a % (r.length : Int)) := ⟨_, rfl⟩
    obtain ⟨dy, hdy⟩ : ∃ d, d = rd_T28 r (b % (r.length : Int)) := ⟨_, rfl⟩
    rw [← hdx] at x0 x1 x2 x3 x4 x5
    rw [← hdy] at y0 y1 y2 y3 y4 y5
    have HAT : Aside0 (∀ i : Int, 0 ≤ i → i < (r.length : Int) → (content (H := Unit) r).atKey (keyOfD (rd_T28 r i).f2) (.lit (.int .i64 0)) = .lit (.int .i64 (total (r.take i.toNat)))) := ⟨fun i h0 h1 => by
      obtain ⟨n, rfl⟩ := Int.eq_ofNat_of_zero_le h0
      rw [rdT_at r n (by omega), Int.toNat_natCast]
      exact content_at _ r HN.out n (by omega)⟩
    have HMEM : Aside0 (∀ i : Int, 0 ≤ i → i < (r.length : Int) → rd_T28 r i ∈ r) := ⟨fun i h0 h1 => by
      obtain ⟨n, rfl⟩ := Int.eq_ofNat_of_zero_le h0
      rw [rdT_at r n (by omega)]
      exact List.getElem_mem _⟩
    have HSZ : Aside0 (∀ d ∈ r, d.f2.size ≤ maxLen) := ⟨fun d hd => by
      rw [HR.out] at hd
      rw [decls_name _ _ d hd]
      decide⟩
    have HFIN : Aside0 ((dx = dy ∧ total (r.take (a % (r.length : Int)).toNat) = total (r.take (b % (r.length : Int)).toNat)) ∨ (dx.f2 ≠ dy.f2 ∧ total (r.take (a % (r.length : Int)).toNat) + szOf dx ≤ total (r.take (b % (r.length : Int)).toNat)) ∨ (dx.f2 ≠ dy.f2 ∧ total (r.take (b % (r.length : Int)).toNat) + szOf dy ≤ total (r.take (a % (r.length : Int)).toNat))) := by
      obtain ⟨p, hp⟩ := Int.eq_ofNat_of_zero_le pa0
      obtain ⟨q, hq⟩ := Int.eq_ofNat_of_zero_le pb0
      rw [hp] at hdx ⊢
      rw [hq] at hdy ⊢
      rw [hp] at pa1
      rw [hq] at pb1
      have hpl : p < r.length := by omega
      have hql : q < r.length := by omega
      rw [rdT_at r p hpl] at hdx
      rw [rdT_at r q hql] at hdy
      rw [Int.toNat_natCast, Int.toNat_natCast]
      have hnd := HN.out
      unfold List.Nodup at hnd
      rw [List.pairwise_map, List.pairwise_iff_getElem] at hnd
      rcases Nat.lt_trichotomy p q with hlt | rfl | hlt
      · refine ⟨.inr (.inl ⟨?_, ?_⟩)⟩
        · rw [hdx, hdy]; exact hnd p q hpl hql hlt
        · rw [hdx]; exact total_mono r p q hlt hql
      · exact ⟨.inl ⟨hdx.trans hdy.symm, rfl⟩⟩
      · refine ⟨.inr (.inr ⟨?_, ?_⟩)⟩
        · rw [hdx, hdy]; exact (hnd q p hql hpl hlt).symm
        · rw [hdy]; exact total_mono r q p hlt hpl
    have HDX := Aside0.mk hdx
    have HDY := Aside0.mk hdy
    clear hdx hdy
    have x0a : ∀ o, (w3.alloc o).cell? _ = _ := fun o => cell_alloc x0 o
    have x0b : ∀ o o', ((w3.alloc o).alloc o').cell? _ = _ := fun o o' => cell_alloc (x0a o) o'
    have x0c : ∀ o o' o'', (((w3.alloc o).alloc o').alloc o'').cell? _ = _ := fun o o' o'' => cell_alloc (x0b o o') o''
    have x1a : ∀ o, (w3.alloc o).cell? _ = _ := fun o => cell_alloc x1 o
    have x1b : ∀ o o', ((w3.alloc o).alloc o').cell? _ = _ := fun o o' => cell_alloc (x1a o) o'
    have x1c : ∀ o o' o'', (((w3.alloc o).alloc o').alloc o'').cell? _ = _ := fun o o' o'' => cell_alloc (x1b o o') o''
    have x2a : ∀ o, (w3.alloc o).cell? _ = _ := fun o => cell_alloc x2 o
    have x2b : ∀ o o', ((w3.alloc o).alloc o').cell? _ = _ := fun o o' => cell_alloc (x2a o) o'
    have x2c : ∀ o o' o'', (((w3.alloc o).alloc o').alloc o'').cell? _ = _ := fun o o' o'' => cell_alloc (x2b o o') o''
    have x3a : ∀ o, (w3.alloc o).cell? _ = _ := fun o => cell_alloc x3 o
    have x3b : ∀ o o', ((w3.alloc o).alloc o').cell? _ = _ := fun o o' => cell_alloc (x3a o) o'
    have x3c : ∀ o o' o'', (((w3.alloc o).alloc o').alloc o'').cell? _ = _ := fun o o' o'' => cell_alloc (x3b o o') o''
    have x4a : ∀ o, (w3.alloc o).cell? _ = _ := fun o => cell_alloc x4 o
    have x4b : ∀ o o', ((w3.alloc o).alloc o').cell? _ = _ := fun o o' => cell_alloc (x4a o) o'
    have x4c : ∀ o o' o'', (((w3.alloc o).alloc o').alloc o'').cell? _ = _ := fun o o' o'' => cell_alloc (x4b o o') o''
    have x5a : ∀ o, (w3.alloc o).cell? _ = _ := fun o => cell_alloc x5 o
    have x5b : ∀ o o', ((w3.alloc o).alloc o').cell? _ = _ := fun o o' => cell_alloc (x5a o) o'
    have x5c : ∀ o o' o'', (((w3.alloc o).alloc o').alloc o'').cell? _ = _ := fun o o' o'' => cell_alloc (x5b o o') o''
    have y0a : ∀ o, (w3.alloc o).cell? _ = _ := fun o => cell_alloc y0 o
    have y0b : ∀ o o', ((w3.alloc o).alloc o').cell? _ = _ := fun o o' => cell_alloc (y0a o) o'
    have y0c : ∀ o o' o'', (((w3.alloc o).alloc o').alloc o'').cell? _ = _ := fun o o' o'' => cell_alloc (y0b o o') o''
    have y1a : ∀ o, (w3.alloc o).cell? _ = _ := fun o => cell_alloc y1 o
    have y1b : ∀ o o', ((w3.alloc o).alloc o').cell? _ = _ := fun o o' => cell_alloc (y1a o) o'
    have y1c : ∀ o o' o'', (((w3.alloc o).alloc o').alloc o'').cell? _ = _ := fun o o' o'' => cell_alloc (y1b o o') o''
    have y2a : ∀ o, (w3.alloc o).cell? _ = _ := fun o => cell_alloc y2 o
    have y2b : ∀ o o', ((w3.alloc o).alloc o').cell? _ = _ := fun o o' => cell_alloc (y2a o) o'
    have y2c : ∀ o o' o'', (((w3.alloc o).alloc o').alloc o'').cell? _ = _ := fun o o' o'' => cell_alloc (y2b o o') o''
    have y3a : ∀ o, (w3.alloc o).cell? _ = _ := fun o => cell_alloc y3 o
    have y3b : ∀ o o', ((w3.alloc o).alloc o').cell? _ = _ := fun o o' => cell_alloc (y3a o) o'
    have y3c : ∀ o o' o'', (((w3.alloc o).alloc o').alloc o'').cell? _ = _ := fun o o' o'' => cell_alloc (y3b o o') o''
    have y4a : ∀ o, (w3.alloc o).cell? _ = _ := fun o => cell_alloc y4 o
    have y4b : ∀ o o', ((w3.alloc o).alloc o').cell? _ = _ := fun o o' => cell_alloc (y4a o) o'
    have y4c : ∀ o o' o'', (((w3.alloc o).alloc o').alloc o'').cell? _ = _ := fun o o' o'' => cell_alloc (y4b o o') o''
    have y5a : ∀ o, (w3.alloc o).cell? _ = _ := fun o => cell_alloc y5 o
    have y5b : ∀ o o', ((w3.alloc o).alloc o').cell? _ = _ := fun o o' => cell_alloc (y5a o) o'
    have y5c : ∀ o o' o'', (((w3.alloc o).alloc o').alloc o'').cell? _ = _ := fun o o' o'' => cell_alloc (y5b o o') o''
    go_wp2
    go_region
    all_goals clear x0 x1 x2 x3 x4 x5 y0 y1 y2 y3 y4 y5 x0a x0b x0c x1a x1b x1c x2a x2b x2c x3a x3b x3c x4a x4b x4c x5a x5b x5c y0a y0b y0c y1a y1b y1c y2a y2b y2c y3a y3b y3c y4a y4b y4c y5a y5b y5c
    · go_wp2_with fail
      refine (Start_calls (H := Unit) bm r.length (total r) (content r) dx.f2 (HSZ.out dx (by rw [HDX.out]; exact HMEM.out _ pa0 pa1)) _ (((HO.out.alloc _).alloc _).alloc _).drew).mono ?_
      rintro e w5 ⟨⟨cx, rfl, hatx⟩, hb5⟩
      have HM := Aside0.mk (blk_below (blk_drew (blk_alloc (blk_alloc (blk_new w3 _) _) _)) hb5)
      have HX : Aside0 (w5.heap[w3.heap.size + 1]? = some (.cells #[.bool dx.f0, .int .i64 dx.f1, .string dx.f2, .int .i64 dx.f3, .string dx.f4, .int .i64 dx.f5] 28 (0, 0))) := ⟨blk_below (blk_drew (blk_alloc (blk_new1 w3 _ _) _)) hb5⟩
      have HY : Aside0 (w5.heap[w3.heap.size + 1 + 1]? = some (.cells #[.bool dy.f0, .int .i64 dy.f1, .string dy.f2, .int .i64 dy.f3, .string dy.f4, .int .i64 dy.f5] 28 (0, 0))) := ⟨blk_below (blk_drew (blk_new2 w3 _ _ _)) hb5⟩
      have HO5 := Aside0.mk (ownsMap_below ((((HO.out.alloc _).alloc _).alloc _).drew) hb5)
      have HB5 : Aside0 (Below W.heap.size W w5) := ⟨(((((HB3.out.alloc HB3.out.size _).alloc (by have := HB3.out.size; simp; omega) _).alloc (by have := HB3.out.size; simp; omega) _).drew).trans (hb5.mono (by have := HB3.out.size; simp; omega)))⟩
      rw [HDX.out] at hatx
      rw [HAT.out _ pa0 pa1] at hatx
      obtain rfl : total (r.take (a % (r.length : Int)).toNat) = cx := by injection hatx with h; injection h
      clear hatx hb5
      have m0 : w5.cell? ⟨w3.heap.size, 0, none⟩ = some (.map (some bm)) := (blk_cell HM.out 0).trans rfl
      have m1 : w5.cell? ⟨w3.heap.size, 1, none⟩ = some (.int .i64 (total r)) := (blk_cell HM.out 1).trans rfl
      have y2 : w5.cell? ⟨w3.heap.size + 1 + 1, 2, none⟩ = some (.string dy.f2) := (blk_cell HY.out 2).trans rfl
      go_wp2_with fail
      refine (Start_calls (H := Unit) bm r.length (total r) (content r) dy.f2 (HSZ.out dy (by rw [HDY.out]; exact HMEM.out _ pb0 pb1)) _ HO5.out).mono ?_
      rintro e w6 ⟨⟨cy, rfl, haty⟩, hb6⟩
      have HX6 := Aside0.mk (blk_below HX.out hb6)
      have HY6 := Aside0.mk (blk_below HY.out hb6)
      have HB6 := Aside0.mk (HB5.out.trans (hb6.mono HB5.out.size))
      rw [HDY.out] at haty
      rw [HAT.out _ pb0 pb1] at haty
      obtain rfl : total (r.take (b % (r.length : Int)).toNat) = cy := by injection haty with h; injection h
      clear haty hb6 m0 m1 y2
      have x2 : w6.cell? ⟨w3.heap.size + 1, 2, none⟩ = some (.string dx.f2) := (blk_cell HX6.out 2).trans rfl
      have x3 : w6.cell? ⟨w3.heap.size + 1, 3, none⟩ = some (.int .i64 dx.f3) := (blk_cell HX6.out 3).trans rfl
      have y2 : w6.cell? ⟨w3.heap.size + 1 + 1, 2, none⟩ = some (.string dy.f2) := (blk_cell HY6.out 2).trans rfl
      have y3 : w6.cell? ⟨w3.heap.size + 1 + 1, 3, none⟩ = some (.int .i64 dy.f3) := (blk_cell HY6.out 3).trans rfl
      have hfin := HFIN.out
      have bx := total_bd (r.take (a % (r.length : Int)).toNat)
      have by_ := total_bd (r.take (b % (r.length : Int)).toNat)
      have lx : (r.take (a % (r.length : Int)).toNat).length ≤ 600 := by rw [List.length_take]; omega
      have ly : (r.take (b % (r.length : Int)).toNat).length ≤ 600 := by rw [List.length_take]; omega
      generalize total (r.take (a % (r.length : Int)).toNat) = cx at *
      generalize total (r.take (b % (r.length : Int)).toNat) = cy at *
      have bx0 : 0 ≤ cx := bx.1
      have bx1 : cx ≤ 38400 := by omega
      have by0 : 0 ≤ cy := by_.1
      have by1 : cy ≤ 38400 := by omega
      clear bx by_ lx ly
      obtain ⟨sx, hsx⟩ : ∃ sx, (if 1 < if 64 < dx.f3 then 64 else dx.f3 then if 64 < dx.f3 then 64 else dx.f3 else 1) = sx := ⟨_, rfl⟩
      obtain ⟨sy, hsy⟩ : ∃ sy, (if 1 < if 64 < dy.f3 then 64 else dy.f3 then if 64 < dy.f3 then 64 else dy.f3 else 1) = sy := ⟨_, rfl⟩
      have ex : szOf dx = sx := hsx
      have ey : szOf dy = sy := hsy
      obtain ⟨sx0, sx1⟩ := szOf_bd dx
      obtain ⟨sy0, sy1⟩ := szOf_bd dy
      rw [ex] at hfin sx0 sx1
      rw [ey] at hfin sy0 sy1
      clear ex ey
      rcases hfin with ⟨rfl, rfl⟩ | ⟨hne, h⟩ | ⟨hne, h⟩
      · obtain rfl : sx = sy := hsx.symm.trans hsy
        clear hsy
        go_wp2
        go_region
        all_goals go_wp2
        all_goals go_ret
        all_goals exact ⟨rfl, HB6.out.drew⟩
      · have hq := toList_beq dx.f2 dy.f2
        rw [decide_eq_false hne] at hq
        have hq2 : (dx.f2.toList != dy.f2.toList) = true := by rw [bne, hq]; rfl
        have hd1 : decide (cx + sx ≤ cy) = true := decide_eq_true h
        clear hne
        go_wp2
        go_region
        all_goals go_wp2
        all_goals go_ret
        all_goals exact ⟨rfl, HB6.out.drew⟩
      · have hq := toList_beq dx.f2 dy.f2
        rw [decide_eq_false hne] at hq
        have hq2 : (dx.f2.toList != dy.f2.toList) = true := by rw [bne, hq]; rfl
        have hd1 : decide (cx + sx ≤ cy) = false := decide_eq_false (by omega)
        have hd2 : decide (cy + sy ≤ cx) = true := decide_eq_true h
        clear hne
        go_wp2
        go_region
        all_goals go_wp2
        all_goals go_ret
        all_goals exact ⟨rfl, HB6.out.drew⟩
    · go_wp2_with fail
      refine (Start_calls (H := Unit) bm r.length (total r) (content r) dx.f2 (HSZ.out dx (by rw [HDX.out]; exact HMEM.out _ pa0 pa1)) _ (((HO.out.alloc _).alloc _).alloc _).drew).mono ?_
      rintro e w5 ⟨⟨cx, rfl, hatx⟩, hb5⟩
      have HM := Aside0.mk (blk_below (blk_drew (blk_alloc (blk_alloc (blk_new w3 _) _) _)) hb5)
      have HX : Aside0 (w5.heap[w3.heap.size + 1 + 1]? = some (.cells #[.bool dx.f0, .int .i64 dx.f1, .string dx.f2, .int .i64 dx.f3, .string dx.f4, .int .i64 dx.f5] 28 (0, 0))) := ⟨blk_below (blk_drew (blk_new2 w3 _ _ _)) hb5⟩
      have HY : Aside0 (w5.heap[w3.heap.size + 1]? = some (.cells #[.bool dy.f0, .int .i64 dy.f1, .string dy.f2, .int .i64 dy.f3, .string dy.f4, .int .i64 dy.f5] 28 (0, 0))) := ⟨blk_below (blk_drew (blk_alloc (blk_new1 w3 _ _) _)) hb5⟩
      have HO5 := Aside0.mk (ownsMap_below ((((HO.out.alloc _).alloc _).alloc _).drew) hb5)
      have HB5 : Aside0 (Below W.heap.size W w5) := ⟨(((((HB3.out.alloc HB3.out.size _).alloc (by have := HB3.out.size; simp; omega) _).alloc (by have := HB3.out.size; simp; omega) _).drew).trans (hb5.mono (by have := HB3.out.size; simp; omega)))⟩
      rw [HDX.out] at hatx
      rw [HAT.out _ pa0 pa1] at hatx
      obtain rfl : total (r.take (a % (r.length : Int)).toNat) = cx := by injection hatx with h; injection h
      clear hatx hb5
      have m0 : w5.cell? ⟨w3.heap.size, 0, none⟩ = some (.map (some bm)) := (blk_cell HM.out 0).trans rfl
      have m1 : w5.cell? ⟨w3.heap.size, 1, none⟩ = some (.int .i64 (total r)) := (blk_cell HM.out 1).trans rfl
      have y2 : w5.cell? ⟨w3.heap.size + 1, 2, none⟩ = some (.string dy.f2) := (blk_cell HY.out 2).trans rfl
      go_wp2_with fail
      refine (Start_calls (H := Unit) bm r.length (total r) (content r) dy.f2 (HSZ.out dy (by rw [HDY.out]; exact HMEM.out _ pb0 pb1)) _ HO5.out).mono ?_
      rintro e w6 ⟨⟨cy, rfl, haty⟩, hb6⟩
      have HX6 := Aside0.mk (blk_below HX.out hb6)
      have HY6 := Aside0.mk (blk_below HY.out hb6)
      have HB6 := Aside0.mk (HB5.out.trans (hb6.mono HB5.out.size))
      rw [HDY.out] at haty
      rw [HAT.out _ pb0 pb1] at haty
      obtain rfl : total (r.take (b % (r.length : Int)).toNat) = cy := by injection haty with h; injection h
      clear haty hb6 m0 m1 y2
      have x2 : w6.cell? ⟨w3.heap.size + 1 + 1, 2, none⟩ = some (.string dx.f2) := (blk_cell HX6.out 2).trans rfl
      have x3 : w6.cell? ⟨w3.heap.size + 1 + 1, 3, none⟩ = some (.int .i64 dx.f3) := (blk_cell HX6.out 3).trans rfl
      have y2 : w6.cell? ⟨w3.heap.size + 1, 2, none⟩ = some (.string dy.f2) := (blk_cell HY6.out 2).trans rfl
      have y3 : w6.cell? ⟨w3.heap.size + 1, 3, none⟩ = some (.int .i64 dy.f3) := (blk_cell HY6.out 3).trans rfl
      have hfin := HFIN.out
      have bx := total_bd (r.take (a % (r.length : Int)).toNat)
      have by_ := total_bd (r.take (b % (r.length : Int)).toNat)
      have lx : (r.take (a % (r.length : Int)).toNat).length ≤ 600 := by rw [List.length_take]; omega
      have ly : (r.take (b % (r.length : Int)).toNat).length ≤ 600 := by rw [List.length_take]; omega
      generalize total (r.take (a % (r.length : Int)).toNat) = cx at *
      generalize total (r.take (b % (r.length : Int)).toNat) = cy at *
      have bx0 : 0 ≤ cx := bx.1
      have bx1 : cx ≤ 38400 := by omega
      have by0 : 0 ≤ cy := by_.1
      have by1 : cy ≤ 38400 := by omega
      clear bx by_ lx ly
      obtain ⟨sx, hsx⟩ : ∃ sx, (if 1 < if 64 < dx.f3 then 64 else dx.f3 then if 64 < dx.f3 then 64 else dx.f3 else 1) = sx := ⟨_, rfl⟩
      obtain ⟨sy, hsy⟩ : ∃ sy, (if 1 < if 64 < dy.f3 then 64 else dy.f3 then if 64 < dy.f3 then 64 else dy.f3 else 1) = sy := ⟨_, rfl⟩
      have ex : szOf dx = sx := hsx
      have ey : szOf dy = sy := hsy
      obtain ⟨sx0, sx1⟩ := szOf_bd dx
      obtain ⟨sy0, sy1⟩ := szOf_bd dy
      rw [ex] at hfin sx0 sx1
      rw [ey] at hfin sy0 sy1
      clear ex ey
      rcases hfin with ⟨rfl, rfl⟩ | ⟨hne, h⟩ | ⟨hne, h⟩
      · obtain rfl : sx = sy := hsx.symm.trans hsy
        clear hsy
        go_wp2
        go_region
        all_goals go_wp2
        all_goals go_ret
        all_goals exact ⟨rfl, HB6.out.drew⟩
      · have hq := toList_beq dx.f2 dy.f2
        rw [decide_eq_false hne] at hq
        have hq2 : (dx.f2.toList != dy.f2.toList) = true := by rw [bne, hq]; rfl
        have hd1 : decide (cx + sx ≤ cy) = true := decide_eq_true h
        clear hne
        go_wp2
        go_region
        all_goals go_wp2
        all_goals go_ret
        all_goals exact ⟨rfl, HB6.out.drew⟩
      · have hq := toList_beq dx.f2 dy.f2
        rw [decide_eq_false hne] at hq
        have hq2 : (dx.f2.toList != dy.f2.toList) = true := by rw [bne, hq]; rfl
        have hd1 : decide (cx + sx ≤ cy) = false := decide_eq_false (by omega)
        have hd2 : decide (cy + sy ≤ cx) = true := decide_eq_true h
        clear hne
        go_wp2
        go_region
        all_goals go_wp2
        all_goals go_ret
        all_goals exact ⟨rfl, HB6.out.drew⟩
end Go.Proofs.Ythboknkpgbfmoaa.PQ
