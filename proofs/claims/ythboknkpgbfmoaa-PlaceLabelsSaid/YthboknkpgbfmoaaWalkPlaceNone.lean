/- PlaceNone: the walk. -/
import Derived.Test.YthboknkpgbfmoaaDecls
namespace Go.Proofs.Ythboknkpgbfmoaa.PQ
open Go.RowKit Go.WideMaps Go.Maps Go.Proofs.YthboknkpgbfmoaaW.PrintWords Go.Proofs.YthboknkpgbfmoaaW.PrintLast Go.Proofs.YthboknkpgbfmoaaW.PrintMore
set_option linter.unusedVariables false

theorem i8_wf {n : Int} (h : (Lit.int .i8 n).wf = true) : -128 ≤ n ∧ n ≤ 127 := by
  simp only [Lit.wf, IntKind.min, IntKind.max, IntKind.signed, IntKind.bits, Bool.and_eq_true, decide_eq_true_eq] at h
  simpa using h
theorem reads_nil_bool (w : World) : Kd.C Kd.bool w none 0 [] := ⟨rfl, by decide, fun h => absurd h (by decide)⟩
/-- decls, as it is called. -/
theorem decls_calls (A0 : Option Addr) (c0 : Nat) (l0 : List Int) (A1 : Option Addr) (c1 : Nat) (l1 : List Bool) (w : World) (hr0 : Kd.C (Kd.int .i8) w A0 l0.length l0) (hc0 : l0.length ≤ c0) (hm : l0.length ≤ maxLen) (hw : ∀ x ∈ l0, (Lit.int .i8 x).wf = true)
    (hr1 : Kd.C Kd.bool w A1 l1.length l1) (hc1 : l1.length ≤ c1) :
    Calls Try.prog 13 #[.slice A0 l0.length c0, .slice A1 l1.length c1] w fun e w' => ∃ A c, e = .returned (.slice A (declsTo l0 l1 (made l0)).length c) ∧ (declsTo l0 l1 (made l0)).length ≤ c ∧ Kd.C k28 w' A (declsTo l0 l1 (made l0)).length (declsTo l0 l1 (made l0)) ∧ Kd.R k28 28 w' w.heap.size (fun _ => True) (.slice A (declsTo l0 l1 (made l0)).length c) (declsTo l0 l1 (made l0)) ∧ Below w.heap.size w w' := by
  obtain ⟨k, h⟩ := (decls_eq l0 l1 hm (fun x hx => i8_wf (hw x hx))).ex
  refine (tautochronelaw10_decls.calls k A0 c0 l0 A1 c1 l1 _ w hr0 hc0 hr1 hc1 h).mono ?_
  rintro e w' ⟨v, rfl, hR, hb⟩
  obtain ⟨A, c, rfl, hl, hC⟩ := Kd.R_reads hR
  exact ⟨A, c, rfl, hl, hC, hR, hb⟩
theorem decls_small (l0 : List Int) (l1 : List Bool) : (declsTo l0 l1 (made l0)).length ≤ 600 := by rw [declsTo_len]; unfold made; omega
theorem decls_name (l0 : List Int) (l1 : List Bool) (d : S28) (h : d ∈ declsTo l0 l1 (made l0)) : d.f2.size = 3 := by
  unfold declsTo at h
  obtain ⟨j, _, rfl⟩ := List.mem_map.1 h
  rfl

theorem toList_loop (b : ByteArray) (d : Nat) : ∀ (i : Nat) (r : List UInt8), b.size - i = d → i ≤ b.size → ByteArray.toList.loop b i r = r.reverse ++ b.data.toList.drop i := by
  induction d with
  | zero =>
    intro i r hd hi
    rw [ByteArray.toList.loop, if_neg (by omega), List.drop_eq_nil_of_le (by rw [Array.length_toList]; show b.size ≤ i; omega), List.append_nil]
  | succ d ih =>
    intro i r hd hi
    have hlt : i < b.data.toList.length := by rw [Array.length_toList]; show i < b.size; omega
    rw [ByteArray.toList.loop, if_pos (by omega), ih (i + 1) _ (by omega) (by omega), List.drop_eq_getElem_cons hlt, List.reverse_cons, List.append_assoc]
    have : b.get! i = b.data.toList[i] := by
      obtain ⟨bs⟩ := b
      show bs[i]! = bs.toList[i]
      rw [getElem!_pos bs i (by simpa using hlt)]
      simp
    rw [this]
    rfl
theorem toList_data (b : ByteArray) : b.toList = b.data.toList := by
  unfold ByteArray.toList
  rw [toList_loop b _ 0 [] rfl (by omega)]
  rfl
theorem toList_eq {a b : ByteArray} (h : a.toList = b.toList) : a = b := by
  rw [toList_data, toList_data] at h
  exact ByteArray.ext (Array.toList_inj.1 h)
theorem toList_beq (a b : ByteArray) : (a.toList == b.toList) = decide (a = b) := by
  by_cases h : a = b
  · subst h; simp
  · rw [decide_eq_false h]
    exact beq_eq_false_iff_ne.2 (fun e => h (toList_eq e))

set_option maxRecDepth 100000 in
theorem walkPlaceNone (W : World) (A0 : Option Addr) (c0 : Nat) (l0 : List Int) (hr0 : Kd.C (Kd.int .i8) W A0 l0.length l0) (hc0 : l0.length ≤ c0) (hm : l0.length ≤ maxLen) (hw : ∀ x ∈ l0, (Lit.int .i8 x).wf = true) (s : ByteArray) (hs : s.size ≤ maxLen) :
    Calls Try.prog 3 #[.slice A0 l0.length c0, .string s] W fun e W' => e = .returned (.bool true) ∧ Below W.heap.size W W' := by
  have hu28 := Try.underlying28
  have hu32 := Try.underlying32
  have H0 := Aside0.mk (And.intro hr0 (And.intro hc0 (And.intro hm hw)))
  clear hr0 hc0 hm hw
  go_enter Try.func3, Try.ntmps3
  go_wp2_with (go_at_call 12; refine (awake_calls _).mono ?_; rintro e w1 ⟨rfl, hb1⟩)
  have HB1 := Aside0.mk hb1
  clear hb1
  refine (decls_calls A0 c0 l0 none 0 [] _ (Kd.C_below H0.out.1 HB1.out) H0.out.2.1 H0.out.2.2.1 H0.out.2.2.2 (reads_nil_bool _) (Nat.le_refl _)).mono ?_
  rintro e w2 ⟨A, c, rfl, hlc, hC, hR, hb2⟩
  obtain ⟨r, hrr⟩ : ∃ r, r = declsTo l0 [] (made l0) := ⟨_, rfl⟩
  rw [← hrr] at hlc hC hR
  rw [← hrr]
  have HR := Aside0.mk hrr
  have hsm : r.length ≤ 600 := by rw [hrr]; exact decls_small _ _
  have HS := Aside0.mk hsm
  have HC := Aside0.mk hC
  have HL := Aside0.mk hlc
  have HB2 := Aside0.mk (HB1.out.trans (hb2.mono HB1.out.size))
  clear hrr hlc hC hR hb2 HB1
  go_wp2
  go_loopw [6, 8, 17] (fun b _ i wr => ∃ k : Nat, k ≤ r.length ∧ i = .int .i64 k ∧ b = .bool ((r.take k).any (fun d => decide (d.f2 = s))) ∧ Aside0 (Below w2.heap.size w2 wr)) (fun _ _ i _ => r.length - (intOf i).toNat)
  case atStart => exact ⟨0, Nat.zero_le _, rfl, rfl, ⟨Below.refl _ _⟩⟩
  case round =>
    obtain ⟨k, hk, rfl, rfl, HB⟩ := hrel
    by_cases hlt : k < r.length
    · obtain ⟨ad, e1, x0, x1, x2, x3, x4, x5⟩ := at_T28 HC.out (k : Int) (by omega) (by omega)
      cases e1
      rw [Int.toNat_natCast] at x0 x1 x2 x3 x4 x5
      rw [rdT_at r k hlt] at x0 x1 x2 x3 x4 x5
      have HT := Aside0.mk (List.take_succ_eq_append_getElem hlt)
      generalize r[k] = d at *
      replace x0 := (HB.out.cell (World.block_lt_of_cell? w2 _ x0)).trans x0
      replace x1 := (HB.out.cell (World.block_lt_of_cell? w2 _ x1)).trans x1
      replace x2 := (HB.out.cell (World.block_lt_of_cell? w2 _ x2)).trans x2
      replace x3 := (HB.out.cell (World.block_lt_of_cell? w2 _ x3)).trans x3
      replace x4 := (HB.out.cell (World.block_lt_of_cell? w2 _ x4)).trans x4
      replace x5 := (HB.out.cell (World.block_lt_of_cell? w2 _ x5)).trans x5
      have hcap := HS.out
      have HA : Aside0 ((r.take (k + 1)).any (fun d => decide (d.f2 = s)) = ((r.take k).any (fun d => decide (d.f2 = s)) || decide (d.f2 = s))) := ⟨by rw [HT.out, List.any_append]; simp⟩
      generalize hbb : (r.take k).any (fun d => decide (d.f2 = s)) = bb at *
      clear hbb HT
      cases bb with
      | true =>
        go_wp2
        go_roundw
        case rel => exact ⟨k + 1, by omega, by go_num, by rw [HA.out]; rfl, ⟨HB.out.alloc HB.out.size _⟩⟩
        case measure => simp [intOf]; omega
      | false =>
        have hq := toList_beq d.f2 s
        by_cases hn : d.f2 = s
        · rw [decide_eq_true hn] at hq
          have HN := Aside0.mk hn
          clear hn
          go_wp2
          go_roundw
          case rel => exact ⟨k + 1, by omega, by go_num, by rw [HA.out, decide_eq_true HN.out]; rfl, ⟨HB.out.alloc HB.out.size _⟩⟩
          case measure => simp [intOf]; omega
        · rw [decide_eq_false hn] at hq
          have HN := Aside0.mk hn
          clear hn
          go_wp2
          go_roundw
          case rel => exact ⟨k + 1, by omega, by go_num, by rw [HA.out, decide_eq_false HN.out]; rfl, ⟨HB.out.alloc HB.out.size _⟩⟩
          case measure => simp [intOf]; omega
    · have e : k = r.length := by omega
      subst e
      rw [List.take_length]
      go_wp2_with fail
      refine (Of_calls (H := Unit) A c r _ (Kd.C_below HC.out HB.out) HL.out (by have := HS.out; omega) (fun d hd => ?_)).mono ?_
      · rw [HR.out] at hd
        rw [decls_name _ _ d hd]
        decide
      rintro e w3 ⟨b, rfl, hb, hown, hb3⟩
      have HO := Aside0.mk hown
      have HB3 := Aside0.mk (HB.out.trans (hb3.mono HB.out.size))
      clear hown hb3 hb HB
      go_wp2_with fail
      refine (Start_calls (H := Unit) b r.length (total r) (content r) s hs _ HO.out).mono ?_
      rintro e w4 ⟨⟨c', rfl, hat⟩, hb4⟩
      have HB4 := Aside0.mk (HB2.out.trans ((HB3.out.trans (hb4.mono HB3.out.size)).mono HB2.out.size))
      have hh := content_has (H := Unit) s r
      rw [hh]
      generalize r.any (fun d => decide (d.f2 = s)) = bb at *
      cases bb with
      | true =>
        clear hat hb4 hh
        go_wp2
        go_ret
        exact ⟨rfl, HB4.out⟩
      | false =>
        rw [atKey_of_not_has hh] at hat
        obtain rfl : (0 : Int) = c' := by injection hat with h; injection h
        clear hat hb4 hh
        go_wp2
        go_ret
        exact ⟨rfl, HB4.out⟩
end Go.Proofs.Ythboknkpgbfmoaa.PQ
