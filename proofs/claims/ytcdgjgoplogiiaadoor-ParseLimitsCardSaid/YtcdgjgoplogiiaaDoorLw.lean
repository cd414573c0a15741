/- ParseLimits: the walk. -/
import Derived.Test.YtcdgjgoplogiiaaDoorLf
import Derived.Test.YtcdgjgoplogiiaaDoorReg
namespace Go.Proofs.YtcdgjgoplogiiaaDoor.PT
open Go.RowKit Go.Lib
set_option linter.unusedVariables false
set_option linter.unusedSimpArgs false
/-- No error, or error 6. -/
def Oks (b : Bool) (u : Value) (w : World) : Prop := (b = true → u = .nilIface) ∧ (b = false → ∃ p, ErrV w 0 u 6 p)
theorem Oks.below {b : Bool} {u : Value} {w w' : World} (h : Oks b u w) (hb : Below w.heap.size w w') : Oks b u w' := ⟨h.1, fun e => by obtain ⟨p, hp⟩ := h.2 e; exact ⟨p, hp.below hb⟩⟩
def ProgS (b : Bool) (w : World) (e : Ending) (w' : World) : Prop := ∃ A n c A' n' c' u, e = .returned (.tuple #[.agg #[.slice A n c, .slice A' n' c'], u]) ∧ Below w.heap.size w w' ∧ Oks b u w'
theorem prog_says {s : ByteArray} {b : Bool} (h : (b = true → ∃ p, parse s = .ok p) ∧ (b = false → ∃ p, parse s = .error (6, p))) (w : World) : Calls Tryd.prog 12 #[.string s] w (ProgS b w) := by
  cases b with
  | true =>
    obtain ⟨p, hp⟩ := h.1 rfl
    refine (prog_ok hp w).mono ?_
    rintro e w' ⟨A, n, c, A', n', c', h1, h2, _, _⟩
    exact ⟨A, n, c, A', n', c', _, h1, h2, fun _ => rfl, fun e => by cases e⟩
  | false =>
    obtain ⟨p, hp⟩ := h.2 rfl
    refine (prog_err hp w).mono ?_
    rintro e w' ⟨u, h1, h2, h3⟩
    exact ⟨_, _, _, _, _, _, u, h1, h2, (fun e => by cases e), (fun _ => ⟨p, h3⟩)⟩
theorem is_any {b : Bool} {u : Value} {w : World} (h : Oks b u w) (hg : GT w) : Calls Tryd.prog 14 #[u, .bool b] w (YesB w) := by
  cases b with
  | true => rw [h.1 rfl]; exact is_nil w
  | false => obtain ⟨p, hp⟩ := h.2 rfl; exact is_err u p w hp hg
theorem xtx_size (b : Nat) : (xtx b).size = 2 * b + 1 := by
  induction b with
  | zero => rfl
  | succ b ih =>
    show ((⟨#[40]⟩ : ByteArray) ++ xtx b ++ ⟨#[41]⟩).size = _
    rw [ByteArray.size_append, ByteArray.size_append, ih]
    show 1 + _ + 1 = _
    omega
theorem ble_dec (n k : Nat) : Nat.ble n k = decide (n ≤ k) := by
  cases h : Nat.ble n k
  · exact (decide_eq_false (fun e => by rw [Nat.ble_eq_true_of_le e] at h; cases h)).symm
  · exact (decide_eq_true (Nat.le_of_ble_eq_true h)).symm
theorem and_dec (p q r : Prop) [Decidable p] [Decidable q] [Decidable r] (h : q ↔ r) : (p ∧ (decide p && decide q) = decide r) ∨ (¬ p ∧ (decide p && decide q) = false) := by
  by_cases hp : p
  · exact Or.inl ⟨hp, by rw [decide_eq_true hp, Bool.true_and]; exact decide_eq_decide.2 h⟩
  · exact Or.inr ⟨hp, by rw [decide_eq_false hp, Bool.false_and]⟩
theorem toL (a b : ByteArray) : (a ++ b).data.toList = a.data.toList ++ b.data.toList := by simp
set_option maxRecDepth 100000 in
set_option maxHeartbeats 4000000 in
theorem limits_calls (a0 a1 a2 a3 a4 : Int) (d t n c b : Nat) (w : World) (l0 : 0 ≤ a0) (r0 : a0 < 256) (l1 : 0 ≤ a1) (r1 : a1 < 256) (l2 : 0 ≤ a2) (r2 : a2 < 65536) (l3 : 0 ≤ a3) (r3 : a3 < 65536) (l4 : 0 ≤ a4) (r4 : a4 < 256)
    (hd : a0 % 80 = d) (ht : a1 % 24 = t) (hn : a2 % 100 = n) (hc : a3 % 400 = c) (hb : a4 % 60 = b) (hg : GT w) :
    Calls Tryd.prog 5 #[.int .u8 a0, .int .u8 a1, .int .u16 a2, .int .u16 a3, .int .u8 a4] w fun e w' => e = .returned (.bool true) ∧ Below w.heap.size w w' := by
  have d80 : d < 80 := by omega
  have t24 : t < 24 := by omega
  have n100 : n < 100 := by omega
  have c400 : c < 400 := by omega
  have b60 : b < 60 := by omega
  have HG := Lib.hid hg
  have HD := Lib.hid hd
  have HT := Lib.hid ht
  have HN := Lib.hid hn
  have HC := Lib.hid hc
  have HB := Lib.hid hb
  have FN : Hid (∀ w, Calls Tryd.prog 13 #[.int .i64 (n : Int)] w (StrS (numL n) w)) := Lib.hid (number_any n n rfl (by omega))
  have FC : Hid (∀ w, Calls Tryd.prog 13 #[.int .i64 (c : Int)] w (StrS (numL c) w)) := Lib.hid (number_any c c rfl (by omega))
  have sN := numL_size n
  have sC := numL_size c
  have sX := xtx_size b
  clear hg hd ht hn hc hb
  go_enter Tryd.func5, Tryd.ntmps5
  go_wp2_with (go_at_call 11; refine (awake5_calls w HG.out).mono ?_; rintro e w1 ⟨rfl, hb1⟩; have HB1 := Lib.hid hb1; clear hb1)
  simp only [HD.out, HT.out, HN.out, HC.out, HB.out]
  go_loop [16, 17] (fun a i => ∃ (k : Nat) (s : ByteArray), k ≤ d ∧ i = .int .i64 k ∧ a = .string s ∧ Hid (s.data.toList = DeT k)) (fun _ i => d - (RowKit.intOf i).toNat)
  case atStart => exact ⟨0, ⟨#[]⟩, Nat.zero_le _, rfl, rfl, Lib.hid rfl⟩
  case round =>
    obtain ⟨k, s, hk, rfl, rfl, HS⟩ := hrel
    by_cases hlt : k < d
    · have h2 := DeT_len k
      have h3 : s.size = (DeT k).length := by have := congrArg List.length HS.out; simpa using this
      have h4 : s.size ≤ 1040 := by omega
      have h5 := numL_size k
      clear h2 h3
      go_wp2_with (go_at_call 13; refine (number_any k k rfl (by omega) _).mono ?_; rintro e w2 ⟨rfl, rfl⟩)
      · refine ⟨⟨k + 1, s ++ ⟨#[112, 117, 98, 108, 105, 99, 32, 97]⟩ ++ numL k ++ ⟨#[59, 32]⟩, by omega, by go_num, ?_, Lib.hid ?_⟩, by simp [RowKit.intOf]; omega⟩
        · rfl
        · rw [toL, toL, toL, HS.out]; simp [DeT, P1, List.append_assoc]
    · obtain rfl : d = k := by omega
      have h2 := DeT_len d
      have h3 : s.size = (DeT d).length := by have := congrArg List.length HS.out; simpa using this
      have h4 : s.size ≤ 1040 := by omega
      clear h2 h3 hk hlt
      go_wp2
      go_loop [16, 18] (fun a i => ∃ (k : Nat) (s : ByteArray), k ≤ t + 1 ∧ i = .int .i64 k ∧ a = .string s ∧ Hid (s.data.toList = DeT d ++ ThT k)) (fun _ i => t + 1 - (RowKit.intOf i).toNat)
      case atStart => exact ⟨0, s, Nat.zero_le _, rfl, rfl, Lib.hid (by rw [HS.out]; simp [ThT])⟩
      case round =>
        clear HS h4
        obtain ⟨k, s, hk, rfl, rfl, HS⟩ := hrel
        have h2 := DeT_len d
        have h2' := ThT_len k
        have h3 : s.size = (DeT d ++ ThT k).length := by have := congrArg List.length HS.out; simpa using this
        have h4 : s.size ≤ 1400 := by rw [h3, List.length_append]; omega
        clear h2 h2' h3
        by_cases hlt : k < t + 1
        · have hlt' : (k : Int) < 1 + (t : Int) := by omega
          go_wp2_with fail
          · refine ⟨⟨k + 1, s ++ ⟨#[116, 104, 114, 101, 97, 100, 32, 123, 32, 125, 32]⟩, by omega, by go_num, ?_, Lib.hid ?_⟩, by simp [RowKit.intOf]; omega⟩
            · rfl
            · rw [toL, HS.out]; simp [ThT, P2, List.append_assoc]
        · obtain rfl : k = t + 1 := by omega
          have hlt' : ¬ ((t + 1 : Nat) : Int) < 1 + (t : Int) := by omega
          have LP := lim_parse d (t + 1) (by omega) (by omega) (by omega) s HS.out
          obtain ⟨be, hbe⟩ : ∃ be : Bool, be = (decide (d ≤ 64) && decide (t + 1 ≤ 16)) := ⟨_, rfl⟩
          have PE : Hid (∀ w, Calls Tryd.prog 12 #[.string s] w (ProgS be w)) := Lib.hid (fun w => prog_says (by rw [hbe]; simpa using LP) w)
          clear LP HS hlt hk
          have PF : Hid (∀ w, Calls Tryd.prog 12 #[.string ((⟨#[112, 117, 98, 108, 105, 99, 32, 97, 91]⟩ : ByteArray) ++ numL n ++ ⟨#[93, 59, 32, 116, 104, 114, 101, 97, 100, 32, 123, 32, 125]⟩)] w (ProgS (Nat.ble 1 n && Nat.ble n 64) w)) := Lib.hid (fun w => prog_says (says_of (allTo_at f_says n n100)) w)
          have PG : Hid (∀ w, Calls Tryd.prog 12 #[.string ((⟨#[116, 104, 114, 101, 97, 100, 32, 123, 32, 108, 111, 111, 112, 32, 105, 32]⟩ : ByteArray) ++ numL c ++ ⟨#[32, 123, 32, 125, 32, 125]⟩)] w (ProgS (Nat.ble 1 c && Nat.ble c 256) w)) := Lib.hid (fun w => prog_says (says_of (allTo_at g_says c c400)) w)
          have PH : Hid (∀ w, Calls Tryd.prog 12 #[.string ((⟨#[116, 104, 114, 101, 97, 100, 32, 123, 32, 111, 117, 116, 112, 117, 116, 32]⟩ : ByteArray) ++ xtx b ++ ⟨#[59, 32, 125]⟩)] w (ProgS (Nat.ble (b + 2) 40) w)) := Lib.hid (fun w => prog_says (says_of (allTo_at h_says b b60)) w)
          go_wp2_with (go_at_call 12; refine (PE.out _).mono ?_; rintro e w2 ⟨A1, n1, c1, A2, n2, c2, ue, rfl, hb2, he⟩; have HB2 := Lib.hid hb2; have HE := Lib.hid he; clear hb2 he)
          obtain ⟨w3, hw⟩ : ∃ w3, w3 = w2.alloc (.cells #[.slice A1 n1 c1, .slice A2 n2 c2] TPg) := ⟨_, rfl⟩
          show Calls _ _ _ (w2.alloc (.cells #[.slice A1 n1 c1, .slice A2 n2 c2] TPg)) _
          rw [← hw]
          have hs := HB2.out.size
          have HB3 : Hid (Below w.heap.size w w3) := Lib.hid (by rw [hw]; exact (HB1.out.trans (HB2.out.mono HB1.out.size)).alloc (Nat.le_trans HB1.out.size HB2.out.size) _)
          have HZ : Hid (Below w1.heap.size w1 w3) := Lib.hid (by rw [hw]; exact HB2.out.alloc HB2.out.size _)
          have HEe : Hid (Oks (be) ue w3) := Lib.hid (by rw [hw]; exact HE.out.below ((Below.refl _ _).alloc (Nat.le_refl _) _))
          clear hw hs HE HB2 HZ
          refine (FN.out _).mono ?_
          rintro e wx ⟨rfl, rfl⟩
          go_wp2_with (go_at_call 12; refine (PF.out _).mono ?_; rintro e w4 ⟨A1, n1, c1, A2, n2, c2, uf, rfl, hb2, he⟩; have HB2 := Lib.hid hb2; have HE := Lib.hid he; clear hb2 he)
          obtain ⟨w5, hw⟩ : ∃ w5, w5 = w4.alloc (.cells #[.slice A1 n1 c1, .slice A2 n2 c2] TPg) := ⟨_, rfl⟩
          show Calls _ _ _ (w4.alloc (.cells #[.slice A1 n1 c1, .slice A2 n2 c2] TPg)) _
          rw [← hw]
          have hs := HB2.out.size
          have HB5 : Hid (Below w.heap.size w w5) := Lib.hid (by rw [hw]; exact (HB3.out.trans (HB2.out.mono HB3.out.size)).alloc (Nat.le_trans HB3.out.size HB2.out.size) _)
          have HZ : Hid (Below w3.heap.size w3 w5) := Lib.hid (by rw [hw]; exact HB2.out.alloc HB2.out.size _)
          have HEf : Hid (Oks (Nat.ble 1 n && Nat.ble n 64) uf w5) := Lib.hid (by rw [hw]; exact HE.out.below ((Below.refl _ _).alloc (Nat.le_refl _) _))
          replace HEe : Hid (Oks (be) ue w5) := Lib.hid (HEe.out.below HZ.out)
          clear hw hs HE HB2 HZ
          refine (FC.out _).mono ?_
          rintro e wx ⟨rfl, rfl⟩
          go_wp2_with (go_at_call 12; refine (PG.out _).mono ?_; rintro e w6 ⟨A1, n1, c1, A2, n2, c2, ug, rfl, hb2, he⟩; have HB2 := Lib.hid hb2; have HE := Lib.hid he; clear hb2 he)
          obtain ⟨w7, hw⟩ : ∃ w7, w7 = w6.alloc (.cells #[.slice A1 n1 c1, .slice A2 n2 c2] TPg) := ⟨_, rfl⟩
          show Code.wp _ _ _ _ (w6.alloc (.cells #[.slice A1 n1 c1, .slice A2 n2 c2] TPg))
          rw [← hw]
          have hs := HB2.out.size
          have HB7 : Hid (Below w.heap.size w w7) := Lib.hid (by rw [hw]; exact (HB5.out.trans (HB2.out.mono HB5.out.size)).alloc (Nat.le_trans HB5.out.size HB2.out.size) _)
          have HZ : Hid (Below w5.heap.size w5 w7) := Lib.hid (by rw [hw]; exact HB2.out.alloc HB2.out.size _)
          have HEg : Hid (Oks (Nat.ble 1 c && Nat.ble c 256) ug w7) := Lib.hid (by rw [hw]; exact HE.out.below ((Below.refl _ _).alloc (Nat.le_refl _) _))
          replace HEe : Hid (Oks (be) ue w7) := Lib.hid (HEe.out.below HZ.out)
          replace HEf : Hid (Oks (Nat.ble 1 n && Nat.ble n 64) uf w7) := Lib.hid (HEf.out.below HZ.out)
          clear hw hs HE HB2 HZ
          clear FN FC sN sC PE PF PG h4
          go_loop [25, 26] (fun a i => ∃ (k : Nat), k ≤ b ∧ i = .int .i64 k ∧ a = .string (xtx k)) (fun _ i => b - (RowKit.intOf i).toNat)
          case atStart => exact ⟨0, Nat.zero_le _, rfl, rfl⟩
          case round =>
            obtain ⟨k, hk, rfl, rfl⟩ := hrel
            have hx := xtx_size k
            have hx' : (xtx k).size ≤ 130 := by omega
            clear hx
            by_cases hlt : k < b
            · go_wp2_with fail
              · refine ⟨⟨k + 1, by omega, by go_num, ?_⟩, by simp [RowKit.intOf]; omega⟩
                rfl
            · obtain rfl : b = k := by omega
              clear hlt hk
              go_upto_region 22 with (go_at_call 12; refine (PH.out _).mono ?_; rintro e w8 ⟨A1, n1, c1, A2, n2, c2, uh, rfl, hb2, he⟩; have HB2 := Lib.hid hb2; have HE := Lib.hid he; clear hb2 he)
              obtain ⟨w9, hw⟩ : ∃ w9, w9 = w8.alloc (.cells #[.slice A1 n1 c1, .slice A2 n2 c2] TPg) := ⟨_, rfl⟩
              show Code.wp _ _ _ _ (w8.alloc (.cells #[.slice A1 n1 c1, .slice A2 n2 c2] TPg))
              rw [← hw]
              have hs := HB2.out.size
              have HB9 : Hid (Below w.heap.size w w9) := Lib.hid (by rw [hw]; exact (HB7.out.trans (HB2.out.mono HB7.out.size)).alloc (Nat.le_trans HB7.out.size HB2.out.size) _)
              have HZ : Hid (Below w7.heap.size w7 w9) := Lib.hid (by rw [hw]; exact HB2.out.alloc HB2.out.size _)
              have HEh : Hid (Oks (Nat.ble (b + 2) 40) uh w9) := Lib.hid (by rw [hw]; exact HE.out.below ((Below.refl _ _).alloc (Nat.le_refl _) _))
              replace HEe : Hid (Oks (be) ue w9) := Lib.hid (HEe.out.below HZ.out)
              replace HEf : Hid (Oks (Nat.ble 1 n && Nat.ble n 64) uf w9) := Lib.hid (HEf.out.below HZ.out)
              replace HEg : Hid (Oks (Nat.ble 1 c && Nat.ble c 256) ug w9) := Lib.hid (HEg.out.below HZ.out)
              clear hw hs HE HB2 HZ
              have G9 : Hid (GT w9) := Lib.hid (GT.below HG.out HB9.out)
              have is9 : ∀ {x : Bool} {u : Value}, Oks x u w9 → ∀ w', Below w9.heap.size w9 w' → Calls Tryd.prog 14 #[u, .bool x] w' (YesB w') := fun h w' hb => is_any (h.below hb) (GT.below G9.out hb)
              have ISE := Lib.hid (is9 HEe.out)
              have ISF := Lib.hid (is9 HEf.out)
              have ISG := Lib.hid (is9 HEg.out)
              have ISH := Lib.hid (is9 HEh.out)
              clear is9 HEe HEf HEg HEh G9 sX PH
              have hbe' : (d ≤ 64 ∧ be = decide (1 + (t : Int) ≤ 16)) ∨ (¬ d ≤ 64 ∧ be = false) := by
                rw [hbe]
                exact and_dec (d ≤ 64) _ _ (by omega)
              clear hbe
              obtain ⟨bf, hv⟩ : ∃ x, x = (Nat.ble 1 n && Nat.ble n 64) := ⟨_, rfl⟩
              rw [← hv] at ISF
              have hbf : (1 ≤ n ∧ bf = decide ((n : Int) ≤ 64)) ∨ (¬ 1 ≤ n ∧ bf = false) := by
                rw [hv, ble_dec, ble_dec]
                exact and_dec (1 ≤ n) _ _ (by omega)
              clear hv
              obtain ⟨bg, hv⟩ : ∃ x, x = (Nat.ble 1 c && Nat.ble c 256) := ⟨_, rfl⟩
              rw [← hv] at ISG
              have hbg : (1 ≤ c ∧ bg = decide ((c : Int) ≤ 256)) ∨ (¬ 1 ≤ c ∧ bg = false) := by
                rw [hv, ble_dec, ble_dec]
                exact and_dec (1 ≤ c) _ _ (by omega)
              clear hv
              obtain ⟨bh, hv⟩ : ∃ x, x = (Nat.ble (b + 2) 40) := ⟨_, rfl⟩
              rw [← hv] at ISH
              have hbh : bh = decide ((b : Int) + 2 ≤ 40) := by
                rw [hv, ble_dec]
                exact decide_eq_decide.2 (by omega)
              clear hv
              subst hbh
              rcases hbe' with ⟨k1, rfl⟩ | ⟨k1, rfl⟩
              all_goals
                (go_wp2_with fail
                 refine (ISE.out _ (Below.refl _ _)).mono ?_
                 rintro e wa ⟨rfl, ha⟩
                 have HA := Lib.hid ha
                 clear ha ISE k1
                 rcases hbf with ⟨k1, rfl⟩ | ⟨k1, rfl⟩
                 all_goals
                   (go_wp2_with fail
                    refine (ISF.out _ HA.out).mono ?_
                    rintro e wb ⟨rfl, ha⟩
                    have HA' : Hid (Below w9.heap.size w9 wb) := Lib.hid (HA.out.trans (ha.mono HA.out.size))
                    clear ha HA ISF k1
                    rcases hbg with ⟨k1, rfl⟩ | ⟨k1, rfl⟩
                    all_goals
                      (go_wp2_with fail
                       refine (ISG.out _ HA'.out).mono ?_
                       rintro e wc ⟨rfl, ha⟩
                       have HA : Hid (Below w9.heap.size w9 wc) := Lib.hid (HA'.out.trans (ha.mono HA'.out.size))
                       clear ha HA' ISG k1
                       go_wp2_with fail
                       refine (ISH.out _ HA.out).mono ?_
                       rintro e wd ⟨rfl, ha⟩
                       have HA' : Hid (Below w9.heap.size w9 wd) := Lib.hid (HA.out.trans (ha.mono HA.out.size))
                       clear ha HA ISH
                       go_wp2
                       go_ret
                       exact ⟨rfl, HB9.out.trans (HA'.out.mono HB9.out.size)⟩)))
end Go.Proofs.YtcdgjgoplogiiaaDoor.PT
