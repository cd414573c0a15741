/- PlaceMore: the walk. -/
import Derived.Test.YthboknkpgbfmoaaWalkPlaceApart
import Derived.Deep.RegionHeld3
import Derived.IntWalk
namespace Go.Proofs.Ythboknkpgbfmoaa.PQ
open Go.RowKit Go.WideMaps Go.Maps Go.Proofs.YthboknkpgbfmoaaW.PrintWords Go.Proofs.YthboknkpgbfmoaaW.PrintLast Go.Proofs.YthboknkpgbfmoaaW.PrintMore
set_option linter.unusedVariables false
attribute [local go_sem] max2_int min2_int max_two min_two max_three min_three max_four min_four
set_option maxHeartbeats 4000000 in
set_option maxRecDepth 100000 in
theorem walkPlaceMore (W : World) (A0 : Option Addr) (c0 : Nat) (l0 : List Int) (hr0 : Kd.C (Kd.int .i8) W A0 l0.length l0) (hc0 : l0.length ≤ c0) (hm : l0.length ≤ maxLen) (hw : ∀ x ∈ l0, (Lit.int .i8 x).wf = true) (a : Int) (ha : (Lit.int .i8 a).wf = true) :
    Calls Try.prog 4 #[.slice A0 l0.length c0, .int .i8 a] W fun e W' => e = .returned (.bool true) ∧ Below W.heap.size W W' := by
  have hu28 := Try.underlying28
  have hu32 := Try.underlying32
  have H0 := Aside0.mk (And.intro hr0 (And.intro hc0 (And.intro hm hw)))
  obtain ⟨ha0, ha1⟩ := i8_wf ha
  clear hr0 hc0 hm hw ha
  go_enter Try.func4, Try.ntmps4
  go_wp2_with (go_at_call 12; refine (awake_calls _).mono ?_; rintro e w1 ⟨rfl, hb1⟩)
  have HB1 := Aside0.mk hb1
  clear hb1
  refine (decls_calls A0 c0 l0 none 0 [] _ (Kd.C_below H0.out.1 HB1.out) H0.out.2.1 H0.out.2.2.1 H0.out.2.2.2 (reads_nil_bool _) (Nat.le_refl _)).mono ?_
  rintro e w2 ⟨A, c, rfl, hlc, hC, hR, hb2⟩
  obtain ⟨r, hrr⟩ : ∃ r, r = declsTo l0 [] (made l0) := ⟨_, rfl⟩
  rw [← hrr] at hlc hC hR
  rw [← hrr]
  have HN := Aside0.mk (decls_names l0 [])
  rw [← hrr] at HN
  have HR := Aside0.mk hrr
  have hsm : r.length ≤ 600 := by rw [hrr]; exact decls_small _ _
  have HC := Aside0.mk hC
  have HL := Aside0.mk hlc
  have HB2 := Aside0.mk (HB1.out.trans (hb2.mono HB1.out.size))
  clear hrr hlc hC hR hb2 HB1
  have HSZ : Aside0 (∀ d ∈ r, d.f2.size = 3) := ⟨fun d hd => by
    rw [HR.out] at hd
    exact decls_name _ _ d hd⟩
  have HSM : Aside0 (∀ d ∈ r, d.f2.size ≤ maxLen) := ⟨fun d hd => by
    rw [HSZ.out d hd]; decide⟩
  go_wp2_with fail
  refine (Of_calls (H := Unit) A c r _ HC.out HL.out (by omega) HSM.out).mono ?_
  rintro e w3 ⟨bm, rfl, hbm, hown, hb3⟩
  have HO := Aside0.mk hown
  have HB3 := Aside0.mk (HB2.out.trans (hb3.mono HB2.out.size))
  have HC3 := Aside0.mk (Kd.C_below HC.out hb3)
  clear hown hb3 hbm
  obtain ⟨z, hz⟩ : ∃ z : S28, z = ⟨false, 0, ⟨#[122, 122, 122, 122]⟩, a, ⟨#[]⟩, 0⟩ := ⟨_, rfl⟩
  have HZ := Aside0.mk hz
  clear hz
  obtain ⟨r', hr'⟩ : ∃ r', r' = r ++ [z] := ⟨_, rfl⟩
  have HRZ := Aside0.mk hr'
  have HLZ : Aside0 (r'.length = r.length + 1) := ⟨by rw [hr']; simp⟩
  have HMZ : Aside0 (∀ d ∈ r', d.f2.size ≤ maxLen) := ⟨fun d hd => by
    rw [hr'] at hd
    rcases List.mem_append.1 hd with h | h
    · exact HSM.out d h
    · obtain rfl := List.mem_singleton.1 h
      rw [HZ.out]; show (⟨#[122, 122, 122, 122]⟩ : ByteArray).size ≤ maxLen; decide⟩
  have HTZ : Aside0 (total r' = total r + szOf z) := ⟨by rw [hr', total_append]⟩
  clear hr'
  go_wp2_with (first | ((with_reducible refine gate_builtin (b := .append) (xs := #[.const (.slice none 0 0), .tmp 22]) rfl ?_); at_builtin; refine Kd.R_append_rows k28 (w0 := w3) w3.heap.size rfl (.const (.slice none 0 0)) (.tmp 22) 24 28 (.agg #[(.bool false), (.int .i64 0), (.string ⟨#[]⟩), (.int .i64 0), (.string ⟨#[]⟩), (.int .i64 0)]) 64 rfl Try.underlying24 info28 rfl (by decide) (by omega) (.slice none 0 0) [] r _ _ _ (fun _ => True) (fun _ => False) rfl rfl (Kd.R_nil _ _ _ _ _) HC3.out (fun _ _ h => h) (fun _ h => h.elim) (fun _ _ => trivial) (Below.refl _ _) (Nat.le_refl _) (by simp only [List.length_nil]; omega) ?_; intro v1 w4 ho4 hb4 hg4 hat4; rw [List.nil_append] at ho4; obtain ⟨A1, c1, rfl, hl1, hC1⟩ := Kd.R_reads ho4; clear hl1 hC1; have HR4 := Aside0.mk ho4; have HB34 := Aside0.mk hb4; have HC4 := Aside0.mk (Kd.C_below HC3.out hb4); have HO4 := Aside0.mk (ownsMap_below HO.out hb4); have HB4 := Aside0.mk (HB3.out.trans (hb4.mono HB3.out.size)); clear ho4 hb4 hg4 hat4) | ((with_reducible refine gate_builtin (b := .append) (xs := #[.tmp 23, .tmp 27]) rfl ?_); at_builtin; refine Kd.R_append k28 (w0 := w3) w3.heap.size rfl (.tmp 23) (.tmp 27) 24 28 (.agg #[(.bool false), (.int .i64 0), (.string ⟨#[]⟩), (.int .i64 0), (.string ⟨#[]⟩), (.int .i64 0)]) 64 rfl Try.underlying24 info28 rfl (by decide) (by omega) (.slice A1 r.length c1) r z [.bool false, .int .i64 0, .string ⟨#[122, 122, 122, 122]⟩, .int .i64 a, .string ⟨#[]⟩, .int .i64 0] (fun _ => True) (fun _ => False) rfl (by first | (go_simp; done) | (go_simp; rfl)) ?aP (fun _ hk => hk.elim) (fun _ _ => trivial) ?aO HB34.out HB34.out.size (by omega) ?_; (case aP => rw [HZ.out]; exact k28_mkM _ _ _ _); (case aO => exact HR4.out); intro v2 w5 ho5 hb5 hg5 hat5; rw [← HRZ.out] at ho5; obtain ⟨A2, c2, rfl, hl2, hC2⟩ := Kd.R_reads ho5; have HL5 := Aside0.mk hl2; have HC5 := Aside0.mk hC2; have HCr := Aside0.mk (Kd.C_below HC3.out hb5); have HO5 := Aside0.mk (ownsMap_below HO.out hb5); have HB5 := Aside0.mk (HB3.out.trans (hb5.mono HB3.out.size)); clear ho5 hb5 hg5 hat5 hl2 hC2 HR4 HC4 HO4 HB34))
  refine (Of_calls (H := Unit) A2 c2 r' _ HC5.out HL5.out (by rw [HLZ.out]; omega) HMZ.out).mono ?_
  rintro e w6 ⟨bn, rfl, hbn, hown, hb6⟩
  have HON := Aside0.mk hown
  have HOM := Aside0.mk (ownsMap_below HO5.out hb6)
  have HC6 := Aside0.mk (Kd.C_below HCr.out hb6)
  have HB6 := Aside0.mk (HB5.out.trans (hb6.mono HB5.out.size))
  clear hown hb6 hbn HO5 HCr HB5 HC5 HL5
  have HFM : Aside0 (∀ k (hk : k < r.length), (content (H := Unit) r).atKey (keyOfD r[k].f2) (.lit (.int .i64 0)) = .lit (.int .i64 (total (r.take k)))) := ⟨fun k hk => content_at _ r HN.out k hk⟩
  have HN' : (r'.map (·.f2)).Nodup := by
    rw [HRZ.out, List.map_append, List.nodup_append]
    refine ⟨HN.out, by simp, fun x hx y hy => ?_⟩
    obtain ⟨d, hd, rfl⟩ := List.mem_map.1 hx
    have h3 := HSZ.out d hd
    rw [HZ.out] at hy
    simp only [List.map_cons, List.map_nil, List.mem_singleton] at hy
    rintro e
    rw [e, hy] at h3
    exact absurd h3 (by decide)
  have HFN : Aside0 (∀ k (hk : k < r.length), (content (H := Unit) r').atKey (keyOfD r[k].f2) (.lit (.int .i64 0)) = .lit (.int .i64 (total (r.take k)))) := ⟨fun k hk => by
    have := content_at (H := Unit) (.lit (.int .i64 0)) r' HN' k (by rw [HLZ.out]; omega)
    have e1 : r'[k]'(by rw [HLZ.out]; omega) = r[k] := by
      simp only [HRZ.out]
      exact List.getElem_append_left hk
    have e2 : r'.take k = r.take k := by rw [HRZ.out]; exact List.take_append_of_le_length (by omega)
    rw [e1, e2] at this
    exact this⟩
  have HFZ : Aside0 ((content (H := Unit) r').atKey (keyOfD ⟨#[122, 122, 122, 122]⟩) (.lit (.int .i64 0)) = .lit (.int .i64 (total r)) ∧ has (content (H := Unit) r') (keyOfD ⟨#[122, 122, 122, 122]⟩) = true) := ⟨by
    have hk : r.length < r'.length := by rw [HLZ.out]; omega
    have := content_at (H := Unit) (.lit (.int .i64 0)) r' HN' r.length hk
    have e1 : (r'[r.length]'hk).f2 = ⟨#[122, 122, 122, 122]⟩ := by
      simp only [HRZ.out]
      rw [List.getElem_append_right (by omega)]
      simp [HZ.out]
    have e2 : r'.take r.length = r := by rw [HRZ.out, List.take_append_of_le_length (by omega), List.take_length]
    rw [e1, e2] at this
    refine ⟨this, ?_⟩
    rw [content_has, HRZ.out, List.any_append, HZ.out]
    simp⟩
  clear HN'
  go_wp2
  obtain ⟨w7, hw7⟩ : ∃ w7, w7 = ((w6.alloc (Obj.cells #[Value.map (some bm), Value.int IntKind.i64 (total r)] 32)).alloc (Obj.cells #[Value.map (some bn), Value.int IntKind.i64 (total r')] 32)) := ⟨_, rfl⟩
  rw [← hw7]
  have BM : Aside0 (w7.heap[w6.heap.size]? = some (Obj.cells #[Value.map (some bm), Value.int IntKind.i64 (total r)] 32)) := ⟨by rw [hw7]; exact blk_alloc (blk_new _ _) _⟩
  have BN : Aside0 (w7.heap[w6.heap.size + 1]? = some (Obj.cells #[Value.map (some bn), Value.int IntKind.i64 (total r')] 32)) := ⟨by rw [hw7]; exact blk_new1 _ _ _⟩
  have HB7 : Aside0 (Below W.heap.size W w7) := ⟨by rw [hw7]; exact (HB6.out.alloc HB6.out.size _).alloc (by have := HB6.out.size; simp; omega) _⟩
  have HC7 : Aside0 (k28.C w7 A r.length r) := ⟨by rw [hw7]; exact Kd.C_alloc (Kd.C_alloc HC6.out _) _⟩
  have HM7 : Aside0 (w7.ownsMap Try.prog 9 (plainElem (H := Unit) Try.prog 3) bm r.length (content r)) := ⟨by rw [hw7]; exact (HOM.out.alloc _).alloc _⟩
  have HN7 : Aside0 (w7.ownsMap Try.prog 9 (plainElem (H := Unit) Try.prog 3) bn r'.length (content r')) := ⟨by rw [hw7]; exact (HON.out.alloc _).alloc _⟩
  have hsz : w6.heap.size + 1 < w7.heap.size := by rw [hw7]; simp
  generalize w6.heap.size = gm at *
  clear hw7 HB6 HC6 HOM HON HB3 HC3 HO HB2
  go_loopw [32] (fun i wr => ∃ k : Nat, k ≤ r.length ∧ i = .int .i64 k ∧ Aside0 (Below w7.heap.size w7 wr)) (fun i _ => r.length - (intOf i).toNat)
  case atStart => exact ⟨0, Nat.zero_le _, rfl, ⟨Below.refl _ _⟩⟩
  case round =>
    obtain ⟨k, hk, rfl, HB⟩ := hrel
    have m0 := (HB.out.cell (World.block_lt_of_cell? w7 _ ((blk_cell BM.out 0).trans rfl))).trans ((blk_cell BM.out 0).trans rfl)
    have m1 := (HB.out.cell (World.block_lt_of_cell? w7 _ ((blk_cell BM.out 1).trans rfl))).trans ((blk_cell BM.out 1).trans rfl)
    have n0 := (HB.out.cell (World.block_lt_of_cell? w7 _ ((blk_cell BN.out 0).trans rfl))).trans ((blk_cell BN.out 0).trans rfl)
    have n1 := (HB.out.cell (World.block_lt_of_cell? w7 _ ((blk_cell BN.out 1).trans rfl))).trans ((blk_cell BN.out 1).trans rfl)
    by_cases hlt : k < r.length
    · obtain ⟨ad, e1, x0, x1, x2, x3, x4, x5⟩ := at_T28 HC7.out (k : Int) (by omega) (by omega)
      cases e1
      rw [Int.toNat_natCast] at x0 x1 x2 x3 x4 x5
      rw [rdT_at r k hlt] at x0 x1 x2 x3 x4 x5
      have hfm := HFM.out k hlt
      have hfn := HFN.out k hlt
      have hsd := HSM.out r[k] (List.getElem_mem hlt)
      generalize r[k] = d at *
      replace x0 := (HB.out.cell (World.block_lt_of_cell? w7 _ x0)).trans x0
      replace x1 := (HB.out.cell (World.block_lt_of_cell? w7 _ x1)).trans x1
      replace x2 := (HB.out.cell (World.block_lt_of_cell? w7 _ x2)).trans x2
      replace x3 := (HB.out.cell (World.block_lt_of_cell? w7 _ x3)).trans x3
      replace x4 := (HB.out.cell (World.block_lt_of_cell? w7 _ x4)).trans x4
      replace x5 := (HB.out.cell (World.block_lt_of_cell? w7 _ x5)).trans x5
      generalize total (r.take k) = ck at *
      have HFM1 := Aside0.mk hfm
      have HFN1 := Aside0.mk hfn
      have HSD := Aside0.mk hsd
      clear hfm hfn hsd
      have m0a : ∀ o, (wr.alloc o).cell? _ = _ := fun o => cell_alloc m0 o
      have m1a : ∀ o, (wr.alloc o).cell? _ = _ := fun o => cell_alloc m1 o
      go_wp2_with fail
      refine (Start_calls (H := Unit) bm r.length (total r) (content r) d.f2 HSD.out _ ((ownsMap_below HM7.out HB.out).alloc _)).mono ?_
      rintro e w8 ⟨⟨cx, rfl, hatx⟩, hb8⟩
      rw [HFM1.out] at hatx
      obtain rfl : ck = cx := by injection hatx with h; injection h
      have HBw : Aside0 (Below w7.heap.size w7 (wr.alloc (.cells #[.bool d.f0, .int .i64 d.f1, .string d.f2, .int .i64 d.f3, .string d.f4, .int .i64 d.f5] 28))) := ⟨HB.out.alloc HB.out.size _⟩
      have HB8 := Aside0.mk (HBw.out.trans (hb8.mono HBw.out.size))
      have HD8 := Aside0.mk (blk_below (blk_new wr _) hb8)
      clear hatx hb8 m0 m1 n0 n1 m0a m1a x0 x1 x2 x3 x4 x5
      have n0 := (HB8.out.cell (World.block_lt_of_cell? w7 _ ((blk_cell BN.out 0).trans rfl))).trans ((blk_cell BN.out 0).trans rfl)
      have n1 := (HB8.out.cell (World.block_lt_of_cell? w7 _ ((blk_cell BN.out 1).trans rfl))).trans ((blk_cell BN.out 1).trans rfl)
      have d2 := (blk_cell HD8.out 2).trans rfl
      go_wp2_with fail
      refine (Start_calls (H := Unit) bn r'.length (total r') (content r') d.f2 HSD.out _ (ownsMap_below HN7.out HB8.out)).mono ?_
      rintro e w9 ⟨⟨cx, rfl, hatx⟩, hb9⟩
      rw [HFN1.out] at hatx
      obtain rfl : ck = cx := by injection hatx with h; injection h
      have HB9 := Aside0.mk (HB8.out.trans (hb9.mono HB8.out.size))
      clear hatx hb9 n0 n1 d2
      go_wp2
      go_roundw
      case rel => exact ⟨k + 1, by omega, by go_num, HB9⟩
      case measure => simp [intOf]; omega
    · have e : k = r.length := by omega
      subst e
      go_wp2_with fail
      refine (Start_calls (H := Unit) bn r'.length (total r') (content r') ⟨#[122, 122, 122, 122]⟩ (by decide) _ (ownsMap_below HN7.out HB.out)).mono ?_
      rintro e w8 ⟨⟨cx, rfl, hatx⟩, hb8⟩
      rw [HFZ.out.1] at hatx
      obtain rfl : total r = cx := by injection hatx with h; injection h
      rw [HFZ.out.2]
      have HB8 := Aside0.mk (HB.out.trans (hb8.mono HB.out.size))
      clear hatx hb8 m0 m1 n0 n1
      have m0 := (HB8.out.cell (World.block_lt_of_cell? w7 _ ((blk_cell BM.out 0).trans rfl))).trans ((blk_cell BM.out 0).trans rfl)
      have m1 := (HB8.out.cell (World.block_lt_of_cell? w7 _ ((blk_cell BM.out 1).trans rfl))).trans ((blk_cell BM.out 1).trans rfl)
      have n0 := (HB8.out.cell (World.block_lt_of_cell? w7 _ ((blk_cell BN.out 0).trans rfl))).trans ((blk_cell BN.out 0).trans rfl)
      have n1 := (HB8.out.cell (World.block_lt_of_cell? w7 _ ((blk_cell BN.out 1).trans rfl))).trans ((blk_cell BN.out 1).trans rfl)
      have F0 := Aside0.mk m0
      have F1 := Aside0.mk m1
      have F2 := Aside0.mk n0
      have F3 := Aside0.mk n1
      have hbs : Aside0 (Below w8.heap.size w8 w8.drew) := ⟨(Below.refl _ _).drew⟩
      have T0 := total_bd r
      have HT := HTZ.out
      obtain ⟨sz, hsz'⟩ : ∃ sz, (if 1 < if 64 < a then 64 else a then if 64 < a then 64 else a else 1) = sz := ⟨_, rfl⟩
      have hszz : szOf z = sz := by rw [← hsz', HZ.out]; rfl
      have hsb := szOf_bd z
      rw [hszz] at hsb HT
      have hadd : wrap64 (total r + sz) = total r' := by rw [HT]; exact w64 (by omega) (by omega)
      have hadd2 : IntKind.i64.wrap (total r + sz) = total r' := by rw [HT]; exact IntWalk.i64_in _ (by omega)
      have hwa : IntKind.i64.wrap a = a := IntWalk.i64_in _ (by omega)
      clear hszz hsb HT T0
      generalize total r' = T' at *
      generalize total r = T at *
      clear HFZ HFN HFM HTZ HMZ HLZ HRZ HZ HSM HSZ
      clear m0 m1 n0 n1
      have hcs : (64 < a ∧ ¬ a < 2 ∧ 1 < a ∧ sz = 64) ∨ (¬ 64 < a ∧ 1 < a ∧ 1 < a ∧ sz = a) ∨ (¬ 64 < a ∧ ¬ 1 < a ∧ ¬ 1 < a ∧ sz = 1) := by
        revert hsz'
        split <;> split <;> intro h <;> omega
      clear hsz'
      rcases hcs with ⟨k64, _, k1, rfl⟩ | ⟨k64, _, k1, rfl⟩ | ⟨k64, _, k1, rfl⟩
      all_goals go_wp2
      all_goals go_region_held3 (fun w' => Below w8.heap.size w8 w' ∧ w'.cell? ⟨gm, 0, none⟩ = some (.map (some bm)) ∧ w'.cell? ⟨gm, 1, none⟩ = some (.int .i64 T) ∧ w'.cell? ⟨gm + 1, 0, none⟩ = some (.map (some bn)) ∧ w'.cell? ⟨gm + 1, 1, none⟩ = some (.int .i64 T'))
        (first
          | exact ⟨Below.refl _ _, F0.out, F1.out, F2.out, F3.out⟩
          | exact ⟨hbs.out, (hbs.out.cell (World.block_lt_of_cell? w8 _ F0.out)).trans F0.out, (hbs.out.cell (World.block_lt_of_cell? w8 _ F1.out)).trans F1.out, (hbs.out.cell (World.block_lt_of_cell? w8 _ F2.out)).trans F2.out, (hbs.out.cell (World.block_lt_of_cell? w8 _ F3.out)).trans F3.out⟩
          | (go_split_ands
             refine ⟨?_, ?_, ?_, ?_, ?_⟩ <;> assumption)
          | (go_split_ands
             have hbs3 := Below.trans (by assumption : Below w8.heap.size w8 _) (hbz.mono (Below.size (by assumption : Below w8.heap.size w8 _)))
             exact ⟨hbs3, (hbs3.cell (World.block_lt_of_cell? w8 _ F0.out)).trans F0.out, (hbs3.cell (World.block_lt_of_cell? w8 _ F1.out)).trans F1.out, (hbs3.cell (World.block_lt_of_cell? w8 _ F2.out)).trans F2.out, (hbs3.cell (World.block_lt_of_cell? w8 _ F3.out)).trans F3.out⟩))
        (first | (go_at_call 16; refine (Size_calls _ _ _).mono ?_; rintro e w' ⟨rfl, hbz⟩))
      all_goals go_wp2
      all_goals go_ret
      all_goals refine ⟨rfl, HB7.out.trans (Below.mono ?_ HB7.out.size)⟩
      all_goals refine HB8.out.trans (Below.mono ?_ HB8.out.size)
      all_goals (go_split_ands; assumption)
end Go.Proofs.Ythboknkpgbfmoaa.PQ
