/- CodeText: texts as lists of bytes; digits and number. -/
import Derived.Test.YtcgnbknbnbgcmaaDoorV3
import Derived.Test.YtcgnbknbnbgcmaaDoorSpecB
import Derived.Test.YtcgnbknbnbgcmaaDoorOpen
import Derived.Lib.ItoaLen
namespace Go.Proofs.YtcgnbknbnbgcmaaDoor.PQ.V
open Go.RowKit Go.Proofs.YtcgnbknbnbgcmaaDoorW.PrintWords
set_option linter.unusedVariables false

/-- A text out of its bytes. -/
def tx (l : List UInt8) : ByteArray := ⟨l.toArray⟩
theorem tx_app (a b : List UInt8) : tx a ++ tx b = tx (a ++ b) := by
  apply ByteArray.ext
  simp [tx, ByteArray.data_append]
theorem tx_size (a : List UInt8) : (tx a).size = a.length := by simp [tx, ByteArray.size]
theorem toList_loop (b : ByteArray) (d : Nat) : ∀ (i : Nat) (r : List UInt8), b.size - i = d → i ≤ b.size → ByteArray.toList.loop b i r = r.reverse ++ b.data.toList.drop i := by
  induction d with
  | zero =>
    intro i r hd hi
    rw [ByteArray.toList.loop, if_neg (by omega), List.drop_eq_nil_of_le (by rw [Array.length_toList]; show b.size ≤ i; omega), List.append_nil]
  | succ d ih =>
    intro i r hd hi
    have hlt : i < b.data.toList.length := by rw [Array.length_toList]; show i < b.size; omega
    rw [ByteArray.toList.loop, if_pos (by omega), ih (i + 1) _ (by omega) (by omega), List.drop_eq_getElem_cons hlt, List.reverse_cons, List.append_assoc]
    have : b.get! i = b.data.toList[i] := by
      obtain ⟨bs⟩ := b
      show bs[i]! = bs.toList[i]
      rw [getElem!_pos bs i (by simpa using hlt)]
      simp
    rw [this]
    rfl
theorem tx_toList (a : List UInt8) : (tx a).toList = a := by
  unfold ByteArray.toList
  rw [toList_loop (tx a) _ 0 [] rfl (by omega)]
  simp [tx]
theorem enc_ascii (n : Nat) (h : n < 128) : Utf8.encode (n : Int) = tx [UInt8.ofNat n] := by
  have hv : Utf8.valid (n : Int) = true := by
    unfold Utf8.valid
    simp; omega
  unfold Utf8.encode
  simp [hv, h, tx]

theorem digit_enc (n : Nat) : Utf8.encode (wrap32 (IntKind.u64.wrap (48 + (Int.tmod (n : Int) 10)))) = tx [UInt8.ofNat (48 + n % 10)] := by
  have q : Int.tmod (n : Int) 10 = ((n % 10 : Nat) : Int) := (Int.ofNat_tmod n 10).symm
  have e : wrap32 (IntKind.u64.wrap (48 + (Int.tmod (n : Int) 10))) = ((48 + n % 10 : Nat) : Int) := by
    rw [q, IntKind.wrap_u64]
    unfold wrap32
    omega
  rw [e, enc_ascii _ (by omega)]

theorem digits_loop (n : Nat) : ∀ s : List UInt8, n < 18446744073709551616 → 0 < n → s.length + Lib.nDigits n ≤ 100 → Evt (fun k => tautochronelaw12_digits.l0 k (n : Int) (tx s)) (tx (Lib.decDigits n ++ s)) := by
  induction n using Nat.strongRecOn with
  | _ n ih =>
    intro s hn h0 hs
    have hd : IntKind.u64.wrap (Int.tdiv (n : Int) 10) = ((n / 10 : Nat) : Int) := by
      have q : Int.tdiv (n : Int) 10 = ((n / 10 : Nat) : Int) := (Int.ofNat_tdiv n 10).symm
      rw [q, IntKind.wrap_u64]; omega
    have hstep : ∀ r, Evt (fun k => tautochronelaw12_digits.l0 k ((n / 10 : Nat) : Int) (tx (UInt8.ofNat (48 + n % 10) :: s))) r → Evt (fun k => tautochronelaw12_digits.l0 k (n : Int) (tx s)) r := by
      intro r h
      refine Evt.succ (fun k => ?_) h
      simp only [tautochronelaw12_digits.l0]
      rw [if_pos (by omega), digit_enc, hd, if_pos (by rw [tx_size, tx_size]; simp; omega), tx_app]
      rfl
    by_cases h10 : n < 10
    · rw [Lib.decDigits, dif_pos h10]
      refine hstep _ ?_
      have e1 : n / 10 = 0 := by omega
      have e2 : n % 10 = n := by omega
      rw [e1, e2]
      refine ⟨1, fun k hk => ?_⟩
      obtain ⟨k, rfl⟩ : ∃ m, k = m + 1 := ⟨k - 1, by omega⟩
      simp only [tautochronelaw12_digits.l0]
      rw [if_neg (by omega), tx_toList, if_neg (by simp)]
      rfl
    · have hnd : Lib.nDigits n = Lib.nDigits (n / 10) + 1 := by rw [Lib.nDigits, dif_neg h10]
      rw [Lib.decDigits, dif_neg h10, List.append_assoc]
      refine hstep _ ?_
      exact ih (n / 10) (by omega) _ (by omega) (by omega) (by simp; omega)

theorem digits_eq (n : Nat) (hn : n < 18446744073709551616) : Evt (fun k => tautochronelaw12_digits.f k (n : Int)) (tx (Lib.decDigits n)) := by
  by_cases h0 : n = 0
  · subst h0
    refine ⟨2, fun k hk => ?_⟩
    obtain ⟨k, rfl⟩ : ∃ m, k = m + 2 := ⟨k - 2, by omega⟩
    have e := digit_enc 0
    have q : tx ([] : List UInt8) = ⟨#[]⟩ := rfl
    unfold tautochronelaw12_digits.f
    simp only [tautochronelaw12_digits.l0]
    rw [← q, if_neg (by omega), tx_toList, if_pos rfl]
    rw [show ((0 : Nat) : Int) = 0 from rfl] at *
    rw [e, if_pos (by rw [tx_size, tx_size]; simp), tx_app, if_neg (by decide), tx_toList, if_neg (by simp), Lib.decDigits, dif_pos (by omega)]
    rfl
  · have := digits_loop n [] hn (by omega) (by have := Lib.nDigits_le20 n (by omega); simp; omega)
    rw [List.append_nil] at this
    exact this

theorem number_eq (n : Int) (h0 : -9223372036854775808 ≤ n) (h1 : n ≤ 9223372036854775807) : Evt (fun k => tautochronelaw12_number.f k n) (tx (Lib.itoa n)) := by
  by_cases hneg : n < 0
  · obtain ⟨u, rfl⟩ : ∃ u : Nat, n = -(u : Int) := ⟨n.natAbs, by omega⟩
    have e : IntKind.u64.wrap ((IntKind.u64.wrap (wrap64 (-(wrap64 (-(u : Int) + 1))))) + 1) = (u : Int) := by
      have w1 : wrap64 (-(u : Int) + 1) = -(u : Int) + 1 := w64 (by omega) (by omega)
      rw [w1, w64 (by omega) (by omega), IntKind.wrap_u64, IntKind.wrap_u64]; omega
    have h := digits_eq u (by omega)
    have hl := Lib.nDigits_le20 u (by omega)
    have h2 := Evt.bind (f := fun t k => if 1 + t.size ≤ 9223372036854775807 then some ((⟨#[45]⟩ : ByteArray) ++ t) else none) (r := tx (Lib.itoa (-(u : Int)))) h (Evt.const (fun k => by
      rw [if_pos (by rw [tx_size, Lib.decDigits_length]; omega), Lib.itoa_neg u (by omega)]
      exact congrArg some (tx_app [45] _)))
    refine Evt.congr (fun k => ?_) h2
    unfold tautochronelaw12_number.f
    rw [if_pos hneg, e]
  · obtain ⟨u, rfl⟩ : ∃ u : Nat, n = u := ⟨n.toNat, by omega⟩
    have e : IntKind.u64.wrap (u : Int) = (u : Int) := by rw [IntKind.wrap_u64]; omega
    have h := digits_eq u (by omega)
    have h2 := Evt.bind (f := fun t k => some t) h (Evt.const (fun k => rfl))
    rw [Lib.itoa_nonneg]
    refine Evt.congr (fun k => ?_) h2
    unfold tautochronelaw12_number.f
    rw [if_neg hneg, e]
theorem Itoa_eq (n : Int) (h0 : -9223372036854775808 ≤ n) (h1 : n ≤ 9223372036854775807) : strconv_Itoa.f n = some (tx (Lib.itoa n)) := by
  unfold strconv_Itoa.f
  rw [if_pos ⟨h0, h1⟩]
  rfl
theorem itoa_len (n : Int) (h0 : -9223372036854775808 ≤ n) (h1 : n ≤ 9223372036854775807) : (Lib.itoa n).length ≤ 21 := Lib.itoa_length_le n h0 h1
end Go.Proofs.YtcgnbknbnbgcmaaDoor.PQ.V
