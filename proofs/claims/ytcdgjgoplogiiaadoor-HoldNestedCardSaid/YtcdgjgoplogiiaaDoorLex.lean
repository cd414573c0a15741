/- lex: what bytes are, where runs of them end, numbers, signs. -/
import Derived.Test.YtcdgjgoplogiiaaDoorPm
import Derived.LoopTactic
import Derived.KernelRfl
import Derived.Handy
namespace Go.Proofs.YtcdgjgoplogiiaaDoor.PT
open Go.RowKit Go.Lib
set_option linter.unusedVariables false
set_option linter.unusedSimpArgs false

theorem u8_le (a b : UInt8) : (a ≤ b) = (a.toNat ≤ b.toNat) := propext UInt8.le_iff_toNat_le
theorem beq_nat (c : UInt8) (k : Nat) (hk : k < 256) : (c == UInt8.ofNat k) = decide ((c.toNat : Int) = (k : Int)) := by
  rw [Bool.eq_iff_iff]
  simp only [beq_iff_eq, decide_eq_true_eq]
  constructor
  · rintro rfl
    rw [UInt8.toNat_ofNat', Nat.mod_eq_of_lt hk]
  · intro h
    apply UInt8.toNat_inj.1
    rw [UInt8.toNat_ofNat', Nat.mod_eq_of_lt hk]
    omega
theorem letter_iff (c : UInt8) : letter c = decide ((97 ≤ (c.toNat : Int) ∧ (c.toNat : Int) ≤ 122) ∨ (c.toNat : Int) = 95) := by
  rw [Bool.eq_iff_iff]
  unfold letter
  rw [show (c == 95) = decide ((c.toNat : Int) = 95) from beq_nat c 95 (by omega)]
  simp [u8_le]; omega
theorem digit_iff (c : UInt8) : digit c = decide (48 ≤ (c.toNat : Int) ∧ (c.toNat : Int) ≤ 57) := by
  rw [Bool.eq_iff_iff]
  unfold digit
  simp [u8_le]; omega
/-- A call that only reckons a bool of a byte. -/
def ByteB (K : FuncId) (f : UInt8 → Bool) : Prop := ∀ (c : UInt8) (w : World), Calls Tryd.prog K #[.int .u8 c.toNat] w fun e w' => e = .returned (.bool (f c)) ∧ w = w'
theorem digit_byte : ByteB 51 digit := by
  intro c w
  rw [digit_iff]
  obtain ⟨x, hx⟩ : ∃ x : Int, x = (c.toNat : Int) := ⟨_, rfl⟩
  rw [← hx]
  clear hx
  by_cases h1 : 48 ≤ x
  · by_cases h2 : x ≤ 57
    · rw [show decide (48 ≤ x ∧ x ≤ 57) = true from decide_eq_true ⟨h1, h2⟩]
      have q1 : decide (48 ≤ x) = true := decide_eq_true h1
      have q2 : decide (x ≤ 57) = true := decide_eq_true h2
      go_enter Tryd.func51, Tryd.ntmps51
      go_wp2
      go_ret
      exact ⟨rfl, rfl⟩
    · rw [show decide (48 ≤ x ∧ x ≤ 57) = false from decide_eq_false (fun h => h2 h.2)]
      have q1 : decide (48 ≤ x) = true := decide_eq_true h1
      have q2 : decide (x ≤ 57) = false := decide_eq_false h2
      go_enter Tryd.func51, Tryd.ntmps51
      go_wp2
      go_ret
      exact ⟨rfl, rfl⟩
  · rw [show decide (48 ≤ x ∧ x ≤ 57) = false from decide_eq_false (fun h => h1 h.1)]
    have q1 : decide (48 ≤ x) = false := decide_eq_false h1
    go_enter Tryd.func51, Tryd.ntmps51
    go_wp2
    go_ret
    exact ⟨rfl, rfl⟩
theorem letter_byte : ByteB 49 letter := by
  intro c w
  rw [letter_iff]
  obtain ⟨x, hx⟩ : ∃ x : Int, x = (c.toNat : Int) := ⟨_, rfl⟩
  rw [← hx]
  clear hx
  by_cases h1 : 97 ≤ x
  · by_cases h2 : x ≤ 122
    · rw [show decide ((97 ≤ x ∧ x ≤ 122) ∨ x = 95) = true from decide_eq_true (.inl ⟨h1, h2⟩)]
      have q1 : decide (97 ≤ x) = true := decide_eq_true h1
      have q2 : decide (x ≤ 122) = true := decide_eq_true h2
      go_enter Tryd.func49, Tryd.ntmps49
      go_wp2
      go_ret
      exact ⟨rfl, rfl⟩
    · rw [show decide ((97 ≤ x ∧ x ≤ 122) ∨ x = 95) = false from decide_eq_false (by omega)]
      have q1 : decide (97 ≤ x) = true := decide_eq_true h1
      have q2 : decide (x ≤ 122) = false := decide_eq_false h2
      have q3 : (x == 95) = false := by rw [beq_eq_false_iff_ne]; omega
      go_enter Tryd.func49, Tryd.ntmps49
      go_wp2
      go_ret
      exact ⟨rfl, rfl⟩
  · have q1 : decide (97 ≤ x) = false := decide_eq_false h1
    by_cases h3 : x = 95
    · rw [show decide ((97 ≤ x ∧ x ≤ 122) ∨ x = 95) = true from decide_eq_true (.inr h3)]
      subst h3
      go_enter Tryd.func49, Tryd.ntmps49
      go_wp2
      go_ret
      exact ⟨rfl, rfl⟩
    · rw [show decide ((97 ≤ x ∧ x ≤ 122) ∨ x = 95) = false from decide_eq_false (by omega)]
      have q3 : (x == 95) = false := by rw [beq_eq_false_iff_ne]; exact h3
      go_enter Tryd.func49, Tryd.ntmps49
      go_wp2
      go_ret
      exact ⟨rfl, rfl⟩
theorem notnl_byte : ByteB 48 (fun x => x != 10) := by
  intro c w
  have e : (c != 10) = !decide ((c.toNat : Int) = 10) := by
    show (!(c == 10)) = _
    rw [show (c == (10 : UInt8)) = decide ((c.toNat : Int) = 10) from beq_nat c 10 (by omega)]
  show Calls _ _ _ _ fun e w' => e = .returned (.bool (c != 10)) ∧ w = w'
  rw [e]
  obtain ⟨x, hx⟩ : ∃ x : Int, x = (c.toNat : Int) := ⟨_, rfl⟩
  rw [← hx]
  clear hx e
  by_cases h : x = 10
  · subst h
    go_enter Tryd.func48, Tryd.ntmps48
    go_wp2
    go_ret
    exact ⟨rfl, rfl⟩
  · rw [show decide (x = 10) = false from decide_eq_false h]
    have q : (x != 10) = true := by simp [h]
    go_enter Tryd.func48, Tryd.ntmps48
    go_wp2
    go_ret
    exact ⟨rfl, rfl⟩
theorem word_byte : ByteB 50 (fun x => letter x || digit x) := by
  intro c w
  have L := Lib.hid (letter_byte c)
  have D := Lib.hid (digit_byte c)
  show Calls _ _ _ _ fun e w' => e = .returned (.bool (letter c || digit c)) ∧ w = w'
  cases hl : letter c
  · cases hd : digit c
    all_goals
      rw [hl] at L
      rw [hd] at D
      clear hl hd
      go_enter Tryd.func50, Tryd.ntmps50
      go_wp2_with (first | (go_at_call 49; refine (L.out _).mono ?_; rintro e w' ⟨rfl, rfl⟩) | (go_at_call 51; refine (D.out _).mono ?_; rintro e w' ⟨rfl, rfl⟩))
      go_ret
      exact ⟨rfl, rfl⟩
  · rw [hl] at L
    clear hl
    go_enter Tryd.func50, Tryd.ntmps50
    go_wp2_with (first | (go_at_call 49; refine (L.out _).mono ?_; rintro e w' ⟨rfl, rfl⟩))
    go_ret
    exact ⟨rfl, rfl⟩
theorem runTo_step {f : UInt8 → Bool} {l : List UInt8} {k : Nat} (h : k < l.length) (hf : f l[k] = true) : runTo f l k = runTo f l (k + 1) := by
  unfold runTo
  rw [List.drop_eq_getElem_cons h, List.takeWhile_cons, if_pos hf, List.length_cons]; omega
theorem runTo_stop {f : UInt8 → Bool} {l : List UInt8} {k : Nat} (h : k < l.length) (hf : f l[k] = false) : runTo f l k = k := by
  unfold runTo
  rw [List.drop_eq_getElem_cons h, List.takeWhile_cons, if_neg (by simp [hf])]; rfl
theorem runTo_end {f : UInt8 → Bool} {l : List UInt8} {k : Nat} (h : l.length ≤ k) : runTo f l k = k := by
  unfold runTo
  rw [List.drop_eq_nil_of_le h]; rfl
theorem runTo_ge (f : UInt8 → Bool) (l : List UInt8) (k : Nat) : k ≤ runTo f l k := by unfold runTo; omega
theorem runTo_le (f : UInt8 → Bool) (l : List UInt8) (k : Nat) (h : k ≤ l.length) : runTo f l k ≤ l.length := by
  unfold runTo
  have h1 : ((l.drop k).takeWhile f).length ≤ (l.drop k).length := (List.takeWhile_sublist f).length_le
  rw [List.length_drop] at h1
  omega
theorem size_list (s : ByteArray) : s.size = s.data.toList.length := Array.length_toList.symm
theorem get_list (s : ByteArray) (k : Nat) (h : k < s.size) (h' : k < s.data.toList.length) : s[k] = s.data.toList[k] := by
  rw [Array.getElem_toList]; rfl
set_option maxHeartbeats 1000000 in
theorem run_nl (s : ByteArray) (a : Nat) (ha : a ≤ s.size) (hs : s.size ≤ 65536) (w : World) :
    Calls Tryd.prog 47 #[.string s, .int .i64 a, .func (.func 48) #[] #[]] w fun e w' => e = .returned (.int .i64 (runTo (fun x => x != 10) s.data.toList a)) ∧ w = w' := by
  obtain ⟨f, hff⟩ : ∃ f : UInt8 → Bool, f = (fun x => x != 10) := ⟨_, rfl⟩
  have HF : Hid (ByteB 48 f) := Lib.hid (by rw [hff]; exact notnl_byte)
  rw [← hff]
  clear hff
  go_enter Tryd.func47, Tryd.ntmps47
  go_wp2
  go_loop [1] (fun i => ∃ k : Nat, k ≤ s.size ∧ i = .int .i64 k ∧ Hid (runTo f s.data.toList a = runTo f s.data.toList k)) (fun i => s.size - (RowKit.intOf i).toNat)
  case atStart => exact ⟨a, ha, rfl, Lib.hid rfl⟩
  case round =>
    obtain ⟨k, hk, rfl, HR⟩ := hrel
    by_cases hlt : k < s.size
    · have hlt' : k < s.data.toList.length := by rw [← size_list]; exact hlt
      have HL := Lib.hid hlt'
      clear hlt'
      go_wp2_with fail
      refine (HF.out (s[k]'hlt) _).mono ?_
      rintro e w' ⟨rfl, rfl⟩
      cases hb : f (s[k]'hlt)
      · have HR2 : Hid (runTo f s.data.toList a = k) := Lib.hid (HR.out.trans (runTo_stop HL.out (by rw [← get_list s k hlt HL.out]; exact hb)))
        clear hb
        go_wp2
        go_ret
        exact ⟨ret_int (by rw [HR2.out]), rfl⟩
      · have HR2 : Hid (runTo f s.data.toList a = runTo f s.data.toList (k + 1)) := Lib.hid (HR.out.trans (runTo_step HL.out (by rw [← get_list s k hlt HL.out]; exact hb)))
        clear hb
        go_wp2
        go_round
        case rel => exact ⟨k + 1, by omega, by go_num, HR2⟩
        case measure => simp [RowKit.intOf]; omega
    · have HR2 : Hid (runTo f s.data.toList a = k) := Lib.hid (HR.out.trans (runTo_end (by rw [← size_list]; omega)))
      go_wp2
      go_ret
      exact ⟨ret_int (by rw [HR2.out]), rfl⟩
set_option maxHeartbeats 1000000 in
theorem run_word (s : ByteArray) (a : Nat) (ha : a ≤ s.size) (hs : s.size ≤ 65536) (w : World) :
    Calls Tryd.prog 47 #[.string s, .int .i64 a, .func (.func 50) #[] #[]] w fun e w' => e = .returned (.int .i64 (runTo (fun x => letter x || digit x) s.data.toList a)) ∧ w = w' := by
  obtain ⟨f, hff⟩ : ∃ f : UInt8 → Bool, f = (fun x => letter x || digit x) := ⟨_, rfl⟩
  have HF : Hid (ByteB 50 f) := Lib.hid (by rw [hff]; exact word_byte)
  rw [← hff]
  clear hff
  go_enter Tryd.func47, Tryd.ntmps47
  go_wp2
  go_loop [1] (fun i => ∃ k : Nat, k ≤ s.size ∧ i = .int .i64 k ∧ Hid (runTo f s.data.toList a = runTo f s.data.toList k)) (fun i => s.size - (RowKit.intOf i).toNat)
  case atStart => exact ⟨a, ha, rfl, Lib.hid rfl⟩
  case round =>
    obtain ⟨k, hk, rfl, HR⟩ := hrel
    by_cases hlt : k < s.size
    · have hlt' : k < s.data.toList.length := by rw [← size_list]; exact hlt
      have HL := Lib.hid hlt'
      clear hlt'
      go_wp2_with fail
      refine (HF.out (s[k]'hlt) _).mono ?_
      rintro e w' ⟨rfl, rfl⟩
      cases hb : f (s[k]'hlt)
      · have HR2 : Hid (runTo f s.data.toList a = k) := Lib.hid (HR.out.trans (runTo_stop HL.out (by rw [← get_list s k hlt HL.out]; exact hb)))
        clear hb
        go_wp2
        go_ret
        exact ⟨ret_int (by rw [HR2.out]), rfl⟩
      · have HR2 : Hid (runTo f s.data.toList a = runTo f s.data.toList (k + 1)) := Lib.hid (HR.out.trans (runTo_step HL.out (by rw [← get_list s k hlt HL.out]; exact hb)))
        clear hb
        go_wp2
        go_round
        case rel => exact ⟨k + 1, by omega, by go_num, HR2⟩
        case measure => simp [RowKit.intOf]; omega
    · have HR2 : Hid (runTo f s.data.toList a = k) := Lib.hid (HR.out.trans (runTo_end (by rw [← size_list]; omega)))
      go_wp2
      go_ret
      exact ⟨ret_int (by rw [HR2.out]), rfl⟩
set_option maxHeartbeats 1000000 in
theorem run_digit (s : ByteArray) (a : Nat) (ha : a ≤ s.size) (hs : s.size ≤ 65536) (w : World) :
    Calls Tryd.prog 47 #[.string s, .int .i64 a, .func (.func 51) #[] #[]] w fun e w' => e = .returned (.int .i64 (runTo digit s.data.toList a)) ∧ w = w' := by
  obtain ⟨f, hff⟩ : ∃ f : UInt8 → Bool, f = digit := ⟨_, rfl⟩
  have HF : Hid (ByteB 51 f) := Lib.hid (by rw [hff]; exact digit_byte)
  rw [← hff]
  clear hff
  go_enter Tryd.func47, Tryd.ntmps47
  go_wp2
  go_loop [1] (fun i => ∃ k : Nat, k ≤ s.size ∧ i = .int .i64 k ∧ Hid (runTo f s.data.toList a = runTo f s.data.toList k)) (fun i => s.size - (RowKit.intOf i).toNat)
  case atStart => exact ⟨a, ha, rfl, Lib.hid rfl⟩
  case round =>
    obtain ⟨k, hk, rfl, HR⟩ := hrel
    by_cases hlt : k < s.size
    · have hlt' : k < s.data.toList.length := by rw [← size_list]; exact hlt
      have HL := Lib.hid hlt'
      clear hlt'
      go_wp2_with fail
      refine (HF.out (s[k]'hlt) _).mono ?_
      rintro e w' ⟨rfl, rfl⟩
      cases hb : f (s[k]'hlt)
      · have HR2 : Hid (runTo f s.data.toList a = k) := Lib.hid (HR.out.trans (runTo_stop HL.out (by rw [← get_list s k hlt HL.out]; exact hb)))
        clear hb
        go_wp2
        go_ret
        exact ⟨ret_int (by rw [HR2.out]), rfl⟩
      · have HR2 : Hid (runTo f s.data.toList a = runTo f s.data.toList (k + 1)) := Lib.hid (HR.out.trans (runTo_step HL.out (by rw [← get_list s k hlt HL.out]; exact hb)))
        clear hb
        go_wp2
        go_round
        case rel => exact ⟨k + 1, by omega, by go_num, HR2⟩
        case measure => simp [RowKit.intOf]; omega
    · have HR2 : Hid (runTo f s.data.toList a = k) := Lib.hid (HR.out.trans (runTo_end (by rw [← size_list]; omega)))
      go_wp2
      go_ret
      exact ⟨ret_int (by rw [HR2.out]), rfl⟩
/-! ### Numbers -/
theorem numv_snoc (l : List UInt8) (c : UInt8) (a : Nat) : numv (l ++ [c]) a = (numv l a).bind fun n => if (18446744073709551615 - (c.toNat - 48)) / 10 < n then none else some (n * 10 + (c.toNat - 48)) := by
  induction l generalizing a with
  | nil =>
    show numv [c] a = _
    simp only [numv, Option.bind_some]
  | cons d r ih =>
    show numv (d :: (r ++ [c])) a = _
    simp only [numv]
    split
    · rfl
    · exact ih _
theorem numv_take (s : ByteArray) (k : Nat) (h : k < s.size) (h' : k < s.data.toList.length) : numv (s.data.toList.take (k + 1)) 0 = (numv (s.data.toList.take k) 0).bind fun n => if (18446744073709551615 - (s[k].toNat - 48)) / 10 < n then none else some (n * 10 + (s[k].toNat - 48)) := by
  rw [List.take_succ_eq_append_getElem h', numv_snoc, get_list s k h h']
theorem numv_none (l m : List UInt8) (a : Nat) (h : numv l a = none) : numv (l ++ m) a = none := by
  induction l generalizing a with
  | nil => simp [numv] at h
  | cons d r ih =>
    simp only [List.cons_append, numv] at *
    split
    · rfl
    · rename_i hh
      rw [if_neg hh] at h
      exact ih _ h
def numR : Option Nat → Value
  | some n => .tuple #[.int .u64 n, .bool true]
  | none => .tuple #[.int .u64 0, .bool false]
set_option maxHeartbeats 1000000 in
theorem number_calls (s : ByteArray) (hs : s.size ≤ 65536) (hd : ∀ (k : Nat) (h : k < s.size), 48 ≤ (s[k]'h).toNat ∧ (s[k]'h).toNat ≤ 57) (w : World) :
    Calls Tryd.prog 53 #[.string s] w fun e w' => e = .returned (numR (numv s.data.toList 0)) ∧ w = w' := by
  have HD := Lib.hid hd
  clear hd
  go_enter Tryd.func53, Tryd.ntmps53
  go_wp2
  go_loop [4, 5] (fun a i => ∃ k n : Nat, k ≤ s.size ∧ i = .int .i64 k ∧ a = .int .u64 n ∧ Hid (numv (s.data.toList.take k) 0 = some n)) (fun _ i => s.size - (RowKit.intOf i).toNat)
  case atStart => exact ⟨0, 0, Nat.zero_le _, rfl, rfl, Lib.hid rfl⟩
  case round =>
    obtain ⟨k, n, hk, rfl, rfl, HR⟩ := hrel
    by_cases hlt : k < s.size
    · go_wp2_with fail
      · rename_i htest _
        have h1 := HD.out k hlt
        have e : numv (s.data.toList.take (k + 1)) 0 = none := by
          rw [numv_take s k hlt (by rw [← size_list]; exact hlt), HR.out, Option.bind_some, if_pos (by omega)]
        have e2 : numv s.data.toList 0 = none := by
          rw [← List.take_append_drop (k + 1) s.data.toList]; exact numv_none _ _ _ e
        go_ret2
        exact ⟨by rw [e2]; rfl, rfl⟩
      · rename_i htest
        have h1 := HD.out k hlt
        have e : numv (s.data.toList.take (k + 1)) 0 = some (n * 10 + (s[k].toNat - 48)) := by
          rw [numv_take s k hlt (by rw [← size_list]; exact hlt), HR.out, Option.bind_some, if_neg (by omega)]
        refine ⟨⟨k + 1, n * 10 + (s[k].toNat - 48), by omega, by go_num, ?_, Lib.hid e⟩, by simp [RowKit.intOf]; omega⟩
        have : (((s[k].toNat : Int) - 48) % 256) = ((s[k].toNat - 48 : Nat) : Int) := by omega
        rw [this]; go_num
    · have hk2 : k = s.data.toList.length := by rw [← size_list]; omega
      have HA : Hid (numv s.data.toList 0 = some n) := Lib.hid (by have h := HR.out; rw [hk2, List.take_length] at h; exact h)
      clear hk2 HR
      go_wp2
      go_ret2
      exact ⟨by rw [HA.out]; rfl, rfl⟩
end Go.Proofs.YtcdgjgoplogiiaaDoor.PT
