/- lex.sign. Written by mksgn.py. -/
import Derived.Test.YtcdgjgoplogiiaaDoorLex
import Derived.WalkSpells
namespace Go.Proofs.YtcdgjgoplogiiaaDoor.PT
open Go.RowKit Go.Lib
set_option linter.unusedVariables false
set_option linter.unusedSimpArgs false
theorem u8_of {c : UInt8} {k : Nat} (hk : k < 256) (h : ((c.toNat : Int) == (k : Int)) = true) : c = UInt8.ofNat k := by
  apply UInt8.toNat_inj.1
  rw [UInt8.toNat_ofNat', Nat.mod_eq_of_lt hk]
  have := beq_iff_eq.1 h
  omega
theorem u8_not {c : UInt8} {k : Nat} (hk : k < 256) (h : ((c.toNat : Int) == (k : Int)) = false) : (c == UInt8.ofNat k) = false := by
  rw [beq_eq_false_iff_ne] at h ⊢
  rintro rfl
  apply h
  rw [UInt8.toNat_ofNat', Nat.mod_eq_of_lt hk]
theorem one_59 {c : UInt8} (h : ((c.toNat : Int) == 59) = true) : ones.contains c = true := by
  rw [u8_of (k := 59) (by omega) h]; decide
theorem one_61 {c : UInt8} (h : ((c.toNat : Int) == 61) = true) : ones.contains c = true := by
  rw [u8_of (k := 61) (by omega) h]; decide
theorem one_91 {c : UInt8} (h : ((c.toNat : Int) == 91) = true) : ones.contains c = true := by
  rw [u8_of (k := 91) (by omega) h]; decide
theorem one_93 {c : UInt8} (h : ((c.toNat : Int) == 93) = true) : ones.contains c = true := by
  rw [u8_of (k := 93) (by omega) h]; decide
theorem one_123 {c : UInt8} (h : ((c.toNat : Int) == 123) = true) : ones.contains c = true := by
  rw [u8_of (k := 123) (by omega) h]; decide
theorem one_125 {c : UInt8} (h : ((c.toNat : Int) == 125) = true) : ones.contains c = true := by
  rw [u8_of (k := 125) (by omega) h]; decide
theorem one_40 {c : UInt8} (h : ((c.toNat : Int) == 40) = true) : ones.contains c = true := by
  rw [u8_of (k := 40) (by omega) h]; decide
theorem one_41 {c : UInt8} (h : ((c.toNat : Int) == 41) = true) : ones.contains c = true := by
  rw [u8_of (k := 41) (by omega) h]; decide
theorem one_44 {c : UInt8} (h : ((c.toNat : Int) == 44) = true) : ones.contains c = true := by
  rw [u8_of (k := 44) (by omega) h]; decide
theorem one_43 {c : UInt8} (h : ((c.toNat : Int) == 43) = true) : ones.contains c = true := by
  rw [u8_of (k := 43) (by omega) h]; decide
theorem one_45 {c : UInt8} (h : ((c.toNat : Int) == 45) = true) : ones.contains c = true := by
  rw [u8_of (k := 45) (by omega) h]; decide
theorem one_42 {c : UInt8} (h : ((c.toNat : Int) == 42) = true) : ones.contains c = true := by
  rw [u8_of (k := 42) (by omega) h]; decide
theorem one_38 {c : UInt8} (h : ((c.toNat : Int) == 38) = true) : ones.contains c = true := by
  rw [u8_of (k := 38) (by omega) h]; decide
theorem one_124 {c : UInt8} (h : ((c.toNat : Int) == 124) = true) : ones.contains c = true := by
  rw [u8_of (k := 124) (by omega) h]; decide
theorem one_94 {c : UInt8} (h : ((c.toNat : Int) == 94) = true) : ones.contains c = true := by
  rw [u8_of (k := 94) (by omega) h]; decide
theorem one_60 {c : UInt8} (h : ((c.toNat : Int) == 60) = true) : ones.contains c = true := by
  rw [u8_of (k := 60) (by omega) h]; decide
theorem one_126 {c : UInt8} (h : ((c.toNat : Int) == 126) = true) : ones.contains c = true := by
  rw [u8_of (k := 126) (by omega) h]; decide
theorem none_of {c : UInt8} (h59 : ((c.toNat : Int) == 59) = false) (h61 : ((c.toNat : Int) == 61) = false) (h91 : ((c.toNat : Int) == 91) = false) (h93 : ((c.toNat : Int) == 93) = false) (h123 : ((c.toNat : Int) == 123) = false) (h125 : ((c.toNat : Int) == 125) = false) (h40 : ((c.toNat : Int) == 40) = false) (h41 : ((c.toNat : Int) == 41) = false) (h44 : ((c.toNat : Int) == 44) = false) (h43 : ((c.toNat : Int) == 43) = false) (h45 : ((c.toNat : Int) == 45) = false) (h42 : ((c.toNat : Int) == 42) = false) (h38 : ((c.toNat : Int) == 38) = false) (h124 : ((c.toNat : Int) == 124) = false) (h94 : ((c.toNat : Int) == 94) = false) (h60 : ((c.toNat : Int) == 60) = false) (h126 : ((c.toNat : Int) == 126) = false) : ones.contains c = false := by
  have g59 : (c == 59) = false := u8_not (k := 59) (by omega) h59
  have g61 : (c == 61) = false := u8_not (k := 61) (by omega) h61
  have g91 : (c == 91) = false := u8_not (k := 91) (by omega) h91
  have g93 : (c == 93) = false := u8_not (k := 93) (by omega) h93
  have g123 : (c == 123) = false := u8_not (k := 123) (by omega) h123
  have g125 : (c == 125) = false := u8_not (k := 125) (by omega) h125
  have g40 : (c == 40) = false := u8_not (k := 40) (by omega) h40
  have g41 : (c == 41) = false := u8_not (k := 41) (by omega) h41
  have g44 : (c == 44) = false := u8_not (k := 44) (by omega) h44
  have g43 : (c == 43) = false := u8_not (k := 43) (by omega) h43
  have g45 : (c == 45) = false := u8_not (k := 45) (by omega) h45
  have g42 : (c == 42) = false := u8_not (k := 42) (by omega) h42
  have g38 : (c == 38) = false := u8_not (k := 38) (by omega) h38
  have g124 : (c == 124) = false := u8_not (k := 124) (by omega) h124
  have g94 : (c == 94) = false := u8_not (k := 94) (by omega) h94
  have g60 : (c == 60) = false := u8_not (k := 60) (by omega) h60
  have g126 : (c == 126) = false := u8_not (k := 126) (by omega) h126
  simp only [ones, List.contains_cons, g59, g61, g91, g93, g123, g125, g40, g41, g44, g43, g45, g42, g38, g124, g94, g60, g126, Bool.false_or]
  rfl
/-- No sign of two bytes begins there. -/
def NoTwo (l : List UInt8) (a : Nat) : Prop := signLen l a = if ones.contains (l.getD a 0) then 1 else 0
theorem noTwo_last (l : List UInt8) (a : Nat) (h : ¬ a + 1 < l.length) : NoTwo l a := by
  unfold NoTwo signLen
  simp [h]
theorem extract_list (s : ByteArray) (a b : Nat) : (s.extract a b).data.toList = (s.data.toList.drop a).take (b - a) := by
  simp [ByteArray.data_extract, Array.toList_extract, List.extract_eq_take_drop]
theorem two_list (s : ByteArray) (a : Nat) (h : a + 1 < s.size) : (s.extract a (a + 2)).toList = [s.data.toList.getD a 0, s.data.toList.getD (a + 1) 0] := by
  have hl : a + 1 < s.data.toList.length := by rw [← size_list]; exact h
  rw [Lib.toList_data, extract_list, show a + 2 - a = 2 by omega, List.drop_eq_getElem_cons (by omega), List.take_succ_cons, List.drop_eq_getElem_cons hl, List.take_succ_cons]
  simp [List.getD_eq_getElem?_getD, List.getElem?_eq_getElem (show a < s.data.toList.length by omega), List.getElem?_eq_getElem hl]
theorem two_len (l : List UInt8) (a : Nat) (h : a + 1 < l.length) (h2 : [l.getD a 0, l.getD (a + 1) 0] = [60, 60] ∨ [l.getD a 0, l.getD (a + 1) 0] = [62, 62] ∨ [l.getD a 0, l.getD (a + 1) 0] = [61, 61]) : signLen l a = 2 := by
  unfold signLen
  rcases h2 with h2 | h2 | h2
  all_goals
    injection h2 with e1 h2
    injection h2 with e2 _
    rw [e1, e2]
    simp [h]
theorem noTwo_of (l : List UInt8) (a : Nat) (h1 : [l.getD a 0, l.getD (a + 1) 0] ≠ [60, 60]) (h2 : [l.getD a 0, l.getD (a + 1) 0] ≠ [62, 62]) (h3 : [l.getD a 0, l.getD (a + 1) 0] ≠ [61, 61]) : NoTwo l a := by
  unfold NoTwo signLen
  have e : ∀ k : UInt8, [l.getD a 0, l.getD (a + 1) 0] ≠ [k, k] → (l.getD a 0 == k && l.getD (a + 1) 0 == k) = false := by
    intro k hk
    rw [Bool.and_eq_false_iff]
    by_cases h : l.getD a 0 = k
    · refine .inr ?_
      rw [beq_eq_false_iff_ne]
      intro h'
      exact hk (by rw [h, h'])
    · exact .inl (by rw [beq_eq_false_iff_ne]; exact h)
  simp only [e 60 h1, e 62 h2, e 61 h3, Bool.or_false, Bool.and_false, Bool.false_eq_true, if_false]
theorem sign_one {s : ByteArray} {a : Nat} {r : ByteArray} (hr : r = s.extract a (a + signLen s.data.toList a)) (hn : NoTwo s.data.toList a) (ha : a < s.size) (h : ones.contains s[a] = true) : s.extract a (a + 1) = r := by
  have e : s.data.toList.getD a 0 = s[a] := by
    have hl : a < s.data.toList.length := by rw [← size_list]; exact ha
    rw [List.getD_eq_getElem?_getD, List.getElem?_eq_getElem hl, get_list s a ha hl]; rfl
  rw [hr, hn, e, if_pos h]
theorem sign_none {s : ByteArray} {a : Nat} {r : ByteArray} (hr : r = s.extract a (a + signLen s.data.toList a)) (hn : NoTwo s.data.toList a) (ha : a < s.size) (h : ones.contains s[a] = false) : (⟨#[]⟩ : ByteArray) = r := by
  have e : s.data.toList.getD a 0 = s[a] := by
    have hl : a < s.data.toList.length := by rw [← size_list]; exact ha
    rw [List.getD_eq_getElem?_getD, List.getElem?_eq_getElem hl, get_list s a ha hl]; rfl
  rw [hr, hn, e, if_neg (by rw [h]; decide)]
  apply ByteArray.ext
  apply Array.toList_inj.1
  show [] = (s.extract a (a + 0)).data.toList
  rw [extract_list]; simp
set_option maxRecDepth 100000 in
set_option maxHeartbeats 4000000 in
theorem sign_calls (s : ByteArray) (a : Nat) (ha : a < s.size) (hs : s.size ≤ 65536) (w : World) :
    Calls Tryd.prog 54 #[.string s, .int .i64 a] w fun e w' => e = .returned (.string (s.extract a (a + signLen s.data.toList a))) ∧ w = w' := by
  obtain ⟨r, hr⟩ : ∃ r, r = s.extract a (a + signLen s.data.toList a) := ⟨_, rfl⟩
  rw [← hr]
  have HR := Lib.hid hr
  clear hr
  by_cases h1 : a + 1 < s.size
  · have b1 : ((a : Int) + 2) ≤ (s.size : Int) := by omega
    have b2 : (0 : Int) ≤ (a : Int) + 2 := by omega
    have HL := Lib.hid (two_list s a h1)
    by_cases t1 : (s.extract a (a + 2)).toList = [60, 60] ∨ (s.extract a (a + 2)).toList = [62, 62] ∨ (s.extract a (a + 2)).toList = [61, 61]
    · have HE : Hid (s.extract a (a + 2) = r) := Lib.hid (by rw [HR.out, two_len s.data.toList a (by rw [← size_list]; exact h1) (by rw [← HL.out]; exact t1)])
      rcases t1 with t | t | t
      all_goals
        have HT := Lib.hid t
        clear t
      · have q1 : ((s.extract a (a + 2)).toList == [60, 60]) = true := by rw [HT.out]; rfl
        clear HT HL
        go_enter Tryd.func54, Tryd.ntmps54
        go_wp2
        go_ret
        exact ⟨by rw [← HE.out]; rfl, rfl⟩
      · have q1 : ((s.extract a (a + 2)).toList == [60, 60]) = false := by rw [HT.out]; rfl
        have q2 : ((s.extract a (a + 2)).toList == [62, 62]) = true := by rw [HT.out]; rfl
        clear HT HL
        go_enter Tryd.func54, Tryd.ntmps54
        go_wp2
        go_ret
        exact ⟨by rw [← HE.out]; rfl, rfl⟩
      · have q1 : ((s.extract a (a + 2)).toList == [60, 60]) = false := by rw [HT.out]; rfl
        have q2 : ((s.extract a (a + 2)).toList == [62, 62]) = false := by rw [HT.out]; rfl
        have q3 : ((s.extract a (a + 2)).toList == [61, 61]) = true := by rw [HT.out]; rfl
        clear HT HL
        go_enter Tryd.func54, Tryd.ntmps54
        go_wp2
        go_ret
        exact ⟨by rw [← HE.out]; rfl, rfl⟩
    · have t2 : (s.extract a (a + 2)).toList ≠ [60, 60] ∧ (s.extract a (a + 2)).toList ≠ [62, 62] ∧ (s.extract a (a + 2)).toList ≠ [61, 61] := ⟨fun h => t1 (.inl h), fun h => t1 (.inr (.inl h)), fun h => t1 (.inr (.inr h))⟩
      have HN : Hid (NoTwo s.data.toList a) := Lib.hid (noTwo_of _ _ (by rw [← HL.out]; exact t2.1) (by rw [← HL.out]; exact t2.2.1) (by rw [← HL.out]; exact t2.2.2))
      have q1 : ((s.extract a (a + 2)).toList == [60, 60]) = false := by rw [beq_eq_false_iff_ne]; exact t2.1
      have q2 : ((s.extract a (a + 2)).toList == [62, 62]) = false := by rw [beq_eq_false_iff_ne]; exact t2.2.1
      have q3 : ((s.extract a (a + 2)).toList == [61, 61]) = false := by rw [beq_eq_false_iff_ne]; exact t2.2.2
      clear t1 t2 HL
      go_enter Tryd.func54, Tryd.ntmps54
      go_wp2
      all_goals
        go_ret
        refine ⟨congrArg (fun x => Ending.returned (.string x)) ?_, rfl⟩
        first
          | exact sign_one HR.out HN.out ha (one_59 (by assumption))
          | exact sign_one HR.out HN.out ha (one_61 (by assumption))
          | exact sign_one HR.out HN.out ha (one_91 (by assumption))
          | exact sign_one HR.out HN.out ha (one_93 (by assumption))
          | exact sign_one HR.out HN.out ha (one_123 (by assumption))
          | exact sign_one HR.out HN.out ha (one_125 (by assumption))
          | exact sign_one HR.out HN.out ha (one_40 (by assumption))
          | exact sign_one HR.out HN.out ha (one_41 (by assumption))
          | exact sign_one HR.out HN.out ha (one_44 (by assumption))
          | exact sign_one HR.out HN.out ha (one_43 (by assumption))
          | exact sign_one HR.out HN.out ha (one_45 (by assumption))
          | exact sign_one HR.out HN.out ha (one_42 (by assumption))
          | exact sign_one HR.out HN.out ha (one_38 (by assumption))
          | exact sign_one HR.out HN.out ha (one_124 (by assumption))
          | exact sign_one HR.out HN.out ha (one_94 (by assumption))
          | exact sign_one HR.out HN.out ha (one_60 (by assumption))
          | exact sign_one HR.out HN.out ha (one_126 (by assumption))
          | exact sign_none HR.out HN.out ha (none_of (by assumption) (by assumption) (by assumption) (by assumption) (by assumption) (by assumption) (by assumption) (by assumption) (by assumption) (by assumption) (by assumption) (by assumption) (by assumption) (by assumption) (by assumption) (by assumption) (by assumption))
  · have HN : Hid (NoTwo s.data.toList a) := Lib.hid (noTwo_last _ _ (by rw [← size_list]; exact h1))
    go_enter Tryd.func54, Tryd.ntmps54
    go_wp2
    all_goals
      go_ret
      refine ⟨congrArg (fun x => Ending.returned (.string x)) ?_, rfl⟩
      first
        | exact sign_one HR.out HN.out ha (one_59 (by assumption))
        | exact sign_one HR.out HN.out ha (one_61 (by assumption))
        | exact sign_one HR.out HN.out ha (one_91 (by assumption))
        | exact sign_one HR.out HN.out ha (one_93 (by assumption))
        | exact sign_one HR.out HN.out ha (one_123 (by assumption))
        | exact sign_one HR.out HN.out ha (one_125 (by assumption))
        | exact sign_one HR.out HN.out ha (one_40 (by assumption))
        | exact sign_one HR.out HN.out ha (one_41 (by assumption))
        | exact sign_one HR.out HN.out ha (one_44 (by assumption))
        | exact sign_one HR.out HN.out ha (one_43 (by assumption))
        | exact sign_one HR.out HN.out ha (one_45 (by assumption))
        | exact sign_one HR.out HN.out ha (one_42 (by assumption))
        | exact sign_one HR.out HN.out ha (one_38 (by assumption))
        | exact sign_one HR.out HN.out ha (one_124 (by assumption))
        | exact sign_one HR.out HN.out ha (one_94 (by assumption))
        | exact sign_one HR.out HN.out ha (one_60 (by assumption))
        | exact sign_one HR.out HN.out ha (one_126 (by assumption))
        | exact sign_none HR.out HN.out ha (none_of (by assumption) (by assumption) (by assumption) (by assumption) (by assumption) (by assumption) (by assumption) (by assumption) (by assumption) (by assumption) (by assumption) (by assumption) (by assumption) (by assumption) (by assumption) (by assumption) (by assumption))
end Go.Proofs.YtcdgjgoplogiiaaDoor.PT
