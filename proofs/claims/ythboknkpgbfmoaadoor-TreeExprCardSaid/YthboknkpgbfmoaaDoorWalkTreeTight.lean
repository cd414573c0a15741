/- TreeTight: the walk. -/
import Derived.Test.YthboknkpgbfmoaaDoorAwake
import Derived.Test.YthboknkpgbfmoaaDoorExprB
import Derived.Test.YthboknkpgbfmoaaDoorTab
namespace Go.Proofs.YthboknkpgbfmoaaDoor.PQ
open Go.RowKit Go.Lib Go.Proofs.YthboknkpgbfmoaaDoorW.PrintWords
set_option linter.unusedVariables false
set_option linter.unusedSimpArgs false
/-- The bytes that came in. -/
def Came (w : World) (A : Option Addr) (n : Nat) : Prop := 0 < n → ∃ ad, A = some ad ∧ ad.block < w.heap.size ∧ ∀ j, j < n → ∃ x : Nat, x < 256 ∧ w.cell? (ad.add j) = some (.int .u8 x)
theorem Came.ns {w w' : World} {A : Option Addr} {n k : Nat} (h : Came w A n) (hk : k ≤ n) (hb : Below w.heap.size w w') : NS w' w'.heap.size A k := fun hn => by
  obtain ⟨ad, e, hl, hc⟩ := h (by omega)
  refine ⟨ad, e, Nat.lt_of_lt_of_le hl hb.size, fun j hj => ?_⟩
  obtain ⟨x, hx, hcell⟩ := hc j (by omega)
  have hbl : (ad.add j).block = ad.block := by unfold Addr.add; split <;> rfl
  exact ⟨x, hx, (hb.cell (by rw [hbl]; exact hl)).trans hcell⟩
theorem MK.new {w : World} {A : Option Addr} {n c : Nat} (hn : n ≤ c) (h : NS w w.heap.size A n) : MK (w.alloc (.cells (mkCells A n c) 29)) w.heap.size :=
  ⟨A, n, c, hn, trivial, h.below ((Below.refl _ _).alloc (Nat.le_refl _) _), blk_new _ _⟩
/-- An expression has brackets just where it must bind tighter than it does. -/
theorem tight_law {T : Tree} {B : Nat} {w : World} {x : EV} (h : At T B w x) (ho : ok T) :
    (x.k = 3 ∧ ∃ own : Int, 1 ≤ own ∧ own ≤ 7 ∧ (∀ k : Int, own < k → txt T k = ⟨#[40]⟩ ++ txt T 0 ++ ⟨#[41]⟩) ∧ ∀ k : Int, k ≤ own → txt T k = txt T 0) ∨ ((x.k == 3) = false ∧ ∀ k, txt T k = txt T 0) := by
  cases T with
  | lit v => obtain rfl : x = _ := h; exact .inr ⟨rfl, fun _ => rfl⟩
  | name s => obtain rfl : x = _ := h; exact .inr ⟨rfl, fun _ => rfl⟩
  | cell s a => obtain ⟨g, y, _, rfl, _⟩ := h; exact .inr ⟨rfl, fun _ => rfl⟩
  | not a => obtain ⟨g, y, _, rfl, _⟩ := h; exact .inr ⟨rfl, fun _ => rfl⟩
  | pick a b c => obtain ⟨g, y, y', y'', _, rfl, _⟩ := h; exact .inr ⟨rfl, fun _ => rfl⟩
  | bin o a b =>
    obtain ⟨g, y, y', _, rfl, _⟩ := h
    have h1 := tight_pos o ho.1
    have h2 := (tight_bd o).2
    have h0 : txt (.bin o a b) 0 = bare o (txt a (tightOf o)) (txt b (tightOf o + 1)) := if_neg (by omega)
    exact .inl ⟨rfl, tightOf o, h1, h2, fun k hk => by rw [h0]; exact if_pos hk, fun k hk => by rw [h0]; exact if_neg (by omega)⟩
theorem toList_loop (b : ByteArray) (d : Nat) : ∀ (i : Nat) (r : List UInt8), b.size - i = d → i ≤ b.size → ByteArray.toList.loop b i r = r.reverse ++ b.data.toList.drop i := by
  induction d with
  | zero =>
    intro i r hd hi
    rw [ByteArray.toList.loop, if_neg (by omega), List.drop_eq_nil_of_le (by rw [Array.length_toList]; show b.size ≤ i; omega), List.append_nil]
  | succ d ih =>
    intro i r hd hi
    have hlt : i < b.data.toList.length := by rw [Array.length_toList]; show i < b.size; omega
    rw [ByteArray.toList.loop, if_pos (by omega), ih (i + 1) _ (by omega) (by omega), List.drop_eq_getElem_cons hlt, List.reverse_cons, List.append_assoc]
    have : b.get! i = b.data.toList[i] := by
      obtain ⟨bs⟩ := b
      show bs[i]! = bs.toList[i]
      rw [getElem!_pos bs i (by simpa using hlt)]
      simp
    rw [this]
    rfl
theorem toList_data (b : ByteArray) : b.toList = b.data.toList := by
  unfold ByteArray.toList
  rw [toList_loop b _ 0 [] rfl (by omega)]
  rfl
theorem toList_eq {a b : ByteArray} (h : a.toList = b.toList) : a = b := by
  rw [toList_data, toList_data] at h
  exact ByteArray.ext (Array.toList_inj.1 h)
theorem round_ne (b : ByteArray) : (⟨#[40]⟩ ++ b ++ ⟨#[41]⟩ : ByteArray) ≠ b := by
  intro h
  have := congrArg ByteArray.size h
  simp only [ByteArray.size_append] at this
  have e1 : (⟨#[40]⟩ : ByteArray).size = 1 := rfl
  omega
theorem round_nl (b : ByteArray) : ¬ (⟨#[40]⟩ ++ b ++ ⟨#[41]⟩ : ByteArray).toList = b.toList := fun h => round_ne b (toList_eq h)
set_option maxHeartbeats 2000000 in
theorem walkTight (hE : ∀ t, ExprSays t) (W : World) (A : Option Addr) (n c : Nat) (hn : n ≤ c) (ha : Came W A n) (ht : TB W) :
    Calls Tryd.prog 4 #[.slice A n c] W fun e W' => e = .returned (.bool true) ∧ Below W.heap.size W W' := by
  have HE := Lib.hid hE
  have HT := Lib.hid ht
  have HA := Lib.hid ha
  clear hE ht ha
  go_enter Tryd.func4, Tryd.ntmps4
  go_wp2_with fail
  refine (awake_calls HE.out _ HT.out).mono ?_
  rintro e w1 ⟨rfl, hb1⟩
  have HB1 := Lib.hid hb1
  clear hb1
  go_wp2_with fail
  obtain ⟨k, hk⟩ : ∃ k, k = (min (n : Int) 60).toNat := ⟨_, rfl⟩
  have hkn : k ≤ n := by omega
  rw [← hk]
  have HM := Lib.hid (MK.new (Nat.le_trans hkn hn) (HA.out.ns hkn HB1.out))
  have HK := Lib.hid hk
  clear hk
  refine (sec_all w1.heap.size 4 0 _ (by omega) (by omega) (by omega) HM.out).mono ?_
  rintro e w2 ⟨T, x, rfl, hat, hok, hbd, hM2, hK2⟩
  have hB2 : Below W.heap.size W w2 := HB1.out.trans (((Below.refl _ _).alloc (Nat.le_refl _) _ |>.trans hK2.below).mono HB1.out.size)
  have hbd' : bd T ≤ 1000000 := Nat.le_trans hbd (by decide)
  have hA3 := hat.alloc (row1 x)
  have hB3 : Below W.heap.size W (w2.alloc (row1 x)) := hB2.alloc hB2.size _
  have HSAY : Hid (∀ (k : Int) (w' : World), 0 ≤ k → k ≤ 20 → Below (w2.alloc (row1 x)).heap.size (w2.alloc (row1 x)) w' → Calls Tryd.prog 7 #[x.val, .int .i64 k] w' (Says w' (txt T k))) := Lib.hid fun k w' h0 h1 hw =>
    HE.out T x _ w' k (hA3.below hw) hok hbd' ((HT.out.below hB3).below hw) h0 h1
  have HL := Lib.hid (tight_law hat hok)
  have HSZ := Lib.hid (Nat.le_trans (txt_size T hok 0) hbd')
  have HROW : Hid (Row1 (w2.alloc (row1 x)) w2.heap.size x) := Lib.hid (blk_new _ _)
  have HB3 := Lib.hid hB3
  clear hat hok hbd hM2 hK2 hB2 hbd' hA3 hB3
  obtain ⟨f, hf⟩ : ∃ f, f = txt T := ⟨_, rfl⟩
  rw [← hf] at HSAY HL HSZ
  obtain ⟨b0, hb0⟩ : ∃ b0, b0 = f 0 := ⟨_, rfl⟩
  rw [← hb0] at HL HSZ
  have HF := Lib.hid hb0
  clear hf hb0
  go_wp2_with fail
  refine (HSAY.out 0 _ (by omega) (by omega) (Below.refl _ _)).mono ?_
  rintro e w3 ⟨rfl, hb3⟩
  rw [← HF.out]
  obtain ⟨w0, hw0⟩ : ∃ w0, w0 = w2.alloc (row1 x) := ⟨_, rfl⟩
  obtain ⟨G, hG⟩ : ∃ G, G = w2.heap.size := ⟨_, rfl⟩
  rw [← hw0] at HSAY HROW HB3 hb3
  rw [← hG] at HROW ⊢
  have HB4 := Lib.hid hb3
  clear hw0 hG hb3
  have hsz : b0.size ≤ 1000000 := HSZ.out
  have q1 : ¬ (9223372036854775807 < 1 + b0.size) := by omega
  have q2 : ¬ (9223372036854775807 < 1 + b0.size + 1) := by omega
  go_wp2_with fail
  go_loopw [6, 7] (fun i _ wr => ∃ t : Nat, t ≤ 10 ∧ i = .int .i64 t ∧ Hid (Below w0.heap.size w0 wr)) (fun i _ _ => 10 - (RowKit.intOf i).toNat)
  case atStart => exact ⟨0, by omega, rfl, HB4⟩
  case round =>
    obtain ⟨t, ht, rfl, HBr⟩ := hrel
    have HRr := Lib.hid (Row1.facts (blk_below HROW.out HBr.out))
    by_cases hlt : t < 10
    · obtain ⟨x0, x1, x2, x3, x4, x5⟩ := HRr.out
      rcases HL.out with ⟨hk0, own, ho1, ho7, hL1, hL2⟩ | ⟨hk, hall⟩
      · by_cases hown : own < t
        · have e1 := Lib.hid (hL1 t hown)
          have hk : (x.k == 3) = true := by rw [hk0]; rfl
          have hk' : (x.k != 3) = false := by rw [hk0]; rfl
          clear hk0
          have HL1 := Lib.hid hL1
          have HL2 := Lib.hid hL2
          clear hL1 hL2
          go_wp2_with fail
          refine (HSAY.out t _ (by omega) (by omega) HBr.out).mono ?_
          rintro e w4 ⟨rfl, hb4⟩
          rw [e1.out]
          have HB5 := Lib.hid (HBr.out.trans (hb4.mono HBr.out.size))
          clear hb4 x0 x1 x2 x3 x4 x5
          obtain ⟨x0, x1, x2, x3, x4, x5⟩ := Row1.facts (blk_below HROW.out HB5.out)
          have hne := round_nl b0
          have hne' : ((⟨#[40]⟩ ++ b0 ++ ⟨#[41]⟩ : ByteArray).toList == b0.toList) = false := beq_eq_false_iff_ne.2 hne
          have ht1 : 0 < t := by omega
          by_cases h1 : own < t - 1
          · have e3 := Lib.hid (HL1.out (t - 1) h1)
            go_wp2_with fail
            refine (HSAY.out (t - 1) _ (by omega) (by omega) HB5.out).mono ?_
            rintro e w5 ⟨rfl, hb5⟩
            rw [e3.out]
            have HB6 := Lib.hid (HB5.out.trans (hb5.mono HB5.out.size))
            clear hb5
            go_wp2
            exact ⟨⟨t + 1, by omega, by go_num, HB6⟩, by simp [RowKit.intOf]; omega⟩
          · have e3 := Lib.hid (HL2.out (t - 1) (by omega))
            go_wp2_with fail
            refine (HSAY.out (t - 1) _ (by omega) (by omega) HB5.out).mono ?_
            rintro e w5 ⟨rfl, hb5⟩
            rw [e3.out]
            have HB6 := Lib.hid (HB5.out.trans (hb5.mono HB5.out.size))
            clear hb5
            go_wp2
            exact ⟨⟨t + 1, by omega, by go_num, HB6⟩, by simp [RowKit.intOf]; omega⟩
        · have e1 := Lib.hid (hL2 t (by omega))
          have e2 := Lib.hid (hL2 (t - 1) (by omega))
          clear hL1 hL2
          have hk : (x.k == 3) = true := by rw [hk0]; rfl
          have hk' : (x.k != 3) = false := by rw [hk0]; rfl
          clear hk0
          go_wp2_with fail
          refine (HSAY.out t _ (by omega) (by omega) HBr.out).mono ?_
          rintro e w4 ⟨rfl, hb4⟩
          rw [e1.out]
          have HB5 := Lib.hid (HBr.out.trans (hb4.mono HBr.out.size))
          clear hb4 x0 x1 x2 x3 x4 x5
          obtain ⟨x0, x1, x2, x3, x4, x5⟩ := Row1.facts (blk_below HROW.out HB5.out)
          by_cases ht0 : t = 0
          · subst ht0
            go_wp2_with fail
            exact ⟨⟨1, by omega, rfl, HB5⟩, by decide⟩
          · have ht1 : 0 < t := by omega
            go_wp2_with fail
            refine (HSAY.out (t - 1) _ (by omega) (by omega) HB5.out).mono ?_
            rintro e w5 ⟨rfl, hb5⟩
            rw [e2.out]
            have HB6 := Lib.hid (HB5.out.trans (hb5.mono HB5.out.size))
            clear hb5
            go_wp2
            exact ⟨⟨t + 1, by omega, by go_num, HB6⟩, by simp [RowKit.intOf]; omega⟩
      · have e1 := Lib.hid (hall t)
        have e2 := Lib.hid (hall (t - 1))
        clear hall
        go_wp2_with fail
        refine (HSAY.out t _ (by omega) (by omega) HBr.out).mono ?_
        rintro e w4 ⟨rfl, hb4⟩
        rw [e1.out]
        have HB5 := Lib.hid (HBr.out.trans (hb4.mono HBr.out.size))
        clear hb4 x0 x1 x2 x3 x4 x5
        obtain ⟨x0, x1, x2, x3, x4, x5⟩ := Row1.facts (blk_below HROW.out HB5.out)
        by_cases ht0 : t = 0
        · subst ht0
          go_wp2_with fail
          exact ⟨⟨1, by omega, rfl, HB5⟩, by decide⟩
        · have ht1 : 0 < t := by omega
          go_wp2_with fail
          refine (HSAY.out (t - 1) _ (by omega) (by omega) HB5.out).mono ?_
          rintro e w5 ⟨rfl, hb5⟩
          rw [e2.out]
          have HB6 := Lib.hid (HB5.out.trans (hb5.mono HB5.out.size))
          clear hb5
          go_wp2
          exact ⟨⟨t + 1, by omega, by go_num, HB6⟩, by simp [RowKit.intOf]; omega⟩
    · obtain rfl : t = 10 := by omega
      obtain ⟨x0, x1, x2, x3, x4, x5⟩ := HRr.out
      rcases HL.out with ⟨hk0, own, ho1, ho7, hL1, hL2⟩ | ⟨hk, hall⟩
      · have e1 := Lib.hid (hL1 9 (by omega))
        have hk : (x.k == 3) = true := by rw [hk0]; rfl
        have hk' : (x.k != 3) = false := by rw [hk0]; rfl
        clear hL1 hL2 hk0
        go_wp2_with fail
        refine (HSAY.out 9 _ (by omega) (by omega) HBr.out).mono ?_
        rintro e w4 ⟨rfl, hb4⟩
        rw [e1.out]
        have HB5 := Lib.hid (HBr.out.trans (hb4.mono HBr.out.size))
        clear hb4
        have hne := round_nl b0
        have hne' : ((⟨#[40]⟩ ++ b0 ++ ⟨#[41]⟩ : ByteArray).toList == b0.toList) = false := beq_eq_false_iff_ne.2 hne
        go_wp2
        go_ret
        exact ⟨rfl, HB3.out.trans (HB5.out.mono HB3.out.size)⟩
      · have hk' : (x.k != 3) = true := by rw [bne, hk]; rfl
        have hk2 : ¬ x.k = 3 := fun h => by rw [h] at hk; exact absurd hk (by decide)
        go_wp2
        go_ret
        exact ⟨rfl, HB3.out.trans (HBr.out.mono HB3.out.size)⟩
theorem came_of {W : World} {A0 : Option Addr} {l0 : List Int} (hr : Kd.C (Kd.int .u8) W A0 l0.length l0) (hw : ∀ x ∈ l0, (Lit.int .u8 x).wf = true) : Came W A0 l0.length := fun hn => by
  have hx : ∀ j, j < l0.length → ∃ ad, A0 = some ad ∧ (ad.add j).block = ad.block ∧ ad.block < W.heap.size ∧ ∃ x : Nat, x < 256 ∧ W.cell? (ad.add j) = some (.int .u8 x) := fun j hj => by
    obtain ⟨ad, e, hc⟩ := Kd.at_int hr (j : Int) (by omega) (by omega)
    rw [Int.toNat_natCast] at hc
    have hbl : (ad.add j).block = ad.block := by unfold Addr.add; split <;> rfl
    have hlt := World.block_lt_of_cell? W _ hc
    rw [hbl] at hlt
    have hm : rd l0 (j : Int) ∈ l0 := by
      have : rd l0 (j : Int) = l0[j] := by unfold rd; simp [hj]
      rw [this]
      exact List.getElem_mem hj
    obtain ⟨h0, h1⟩ : 0 ≤ rd l0 (j : Int) ∧ rd l0 (j : Int) < 256 := by
      have := hw _ hm
      simp only [Lit.wf, IntKind.min, IntKind.max, IntKind.signed, IntKind.bits, Bool.and_eq_true, decide_eq_true_eq] at this
      simp at this
      omega
    obtain ⟨x, ex⟩ := Int.eq_ofNat_of_zero_le h0
    refine ⟨ad, e, hbl, hlt, x, by omega, ?_⟩
    rw [hc, ex]
  obtain ⟨ad, rfl, _, hlt, _⟩ := hx 0 hn
  refine ⟨ad, rfl, hlt, fun j hj => ?_⟩
  obtain ⟨ad', e, _, _, x, hx, hc⟩ := hx j hj
  cases e
  exact ⟨x, hx, hc⟩
theorem walkTreeTight (W : World) (ht : TB W) (A0 : Option Addr) (c0 : Nat) (l0 : List Int) (hr0 : Kd.C (Kd.int .u8) W A0 l0.length l0) (hc0 : l0.length ≤ c0) (hm : l0.length ≤ maxLen) (hw : ∀ x ∈ l0, (Lit.int .u8 x).wf = true) :
    Calls Tryd.prog 4 #[.slice A0 l0.length c0] W fun e W' => e = .returned (.bool true) ∧ Below W.heap.size W W' :=
  walkTight expr_all W A0 l0.length c0 hc0 (came_of hr0 hw) ht
#print axioms walkTreeTight
end Go.Proofs.YthboknkpgbfmoaaDoor.PQ
