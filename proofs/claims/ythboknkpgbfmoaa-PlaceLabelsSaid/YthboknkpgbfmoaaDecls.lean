/- law10: what decls makes, in plain words. -/
import Derived.Test.YthboknkpgbfmoaaAwake
namespace Go.Proofs.Ythboknkpgbfmoaa.PQ
open Go.RowKit Go.WideMaps Go.Maps Go.Proofs.YthboknkpgbfmoaaW.PrintWords Go.Proofs.YthboknkpgbfmoaaW.PrintLast Go.Proofs.YthboknkpgbfmoaaW.PrintMore

/-- With enough rounds: this answer. -/
def Evt {α : Type} (g : Nat → Option α) (r : α) : Prop := ∃ K, ∀ k, K ≤ k → g k = some r
theorem Evt.const {α : Type} {g : Nat → Option α} {r : α} (h : ∀ k, g k = some r) : Evt g r := ⟨0, fun k _ => h k⟩
theorem Evt.succ {α : Type} {g h : Nat → Option α} {r : α} (e : ∀ k, h (k + 1) = g k) (H : Evt g r) : Evt h r := by
  obtain ⟨K, hK⟩ := H
  refine ⟨K + 1, fun k hk => ?_⟩
  obtain ⟨k, rfl⟩ : ∃ m, k = m + 1 := ⟨k - 1, by omega⟩
  rw [e]
  exact hK k (by omega)
theorem Evt.congr {α : Type} {g h : Nat → Option α} {r : α} (e : ∀ k, h k = g k) (H : Evt g r) : Evt h r := by
  obtain ⟨K, hK⟩ := H
  exact ⟨K, fun k hk => (e k).trans (hK k hk)⟩
theorem Evt.bind {α β : Type} {g : Nat → Option α} {f : α → Nat → Option β} {a : α} {r : β} (Hg : Evt g a) (Hf : Evt (f a) r) : Evt (fun k => (g k).bind (fun x => f x k)) r := by
  obtain ⟨K, hK⟩ := Hg
  obtain ⟨K', hK'⟩ := Hf
  refine ⟨max K K', fun k hk => ?_⟩
  show (g k).bind _ = _
  rw [hK k (by omega)]
  exact hK' k (by omega)
theorem Evt.ex {α : Type} {g : Nat → Option α} {r : α} (H : Evt g r) : ∃ k, g k = some r := by
  obtain ⟨K, hK⟩ := H
  exact ⟨K, hK K (Nat.le_refl _)⟩

theorem enc_ascii (n : Nat) (h : n < 128) : Utf8.encode (n : Int) = ⟨#[UInt8.ofNat n]⟩ := by
  have hv : Utf8.valid (n : Int) = true := by
    unfold Utf8.valid
    simp; omega
  unfold Utf8.encode
  simp [hv, h]
/-- The k-th name. -/
def nameK (k : Nat) : ByteArray := ⟨#[110, UInt8.ofNat (97 + k / 26), UInt8.ofNat (97 + k % 26)]⟩
def declOf (k : Nat) (n : Int) (secret : Bool) : S28 :=
  ⟨Int.tmod n 7 == 6, if secret then 1 else 0, nameK k, if Int.tmod n 7 = 6 then 0 else n, ⟨#[]⟩, 0⟩
/-- What decls makes of its first k numbers. -/
def declsTo (ns : List Int) (ls : List Bool) (k : Nat) : List S28 := (List.range k).map (fun j => declOf j (rd ns j) (ls.getD j false))
theorem declsTo_succ (ns : List Int) (ls : List Bool) (k : Nat) : declsTo ns ls (k + 1) = declsTo ns ls k ++ [declOf k (rd ns k) (ls.getD k false)] := by
  unfold declsTo
  rw [List.range_succ, List.map_append]
  rfl
theorem declsTo_len (ns : List Int) (ls : List Bool) (k : Nat) : (declsTo ns ls k).length = k := by simp [declsTo]
/-- How many it makes. -/
def made (ns : List Int) : Nat := min ns.length 600

theorem name_walk (k : Nat) (h : k < 601) : ((⟨#[110]⟩ : ByteArray) ++ (Utf8.encode (wrap32 (wrap64 (97 + (Int.tmod (wrap64 (Int.tdiv (k : Int) 26)) 26)))))) ++ (Utf8.encode (wrap32 (wrap64 (97 + (Int.tmod (k : Int) 26))))) = nameK k := by
  have e1 : wrap32 (wrap64 (97 + (Int.tmod (wrap64 (Int.tdiv (k : Int) 26)) 26))) = ((97 + k / 26 : Nat) : Int) := by
    have q0 : Int.tdiv (k : Int) 26 = ((k / 26 : Nat) : Int) := (Int.ofNat_tdiv k 26).symm
    have q1 : wrap64 ((k / 26 : Nat) : Int) = ((k / 26 : Nat) : Int) := w64 (by omega) (by omega)
    have q2 : Int.tmod ((k / 26 : Nat) : Int) 26 = ((k / 26 % 26 : Nat) : Int) := (Int.ofNat_tmod (k / 26) 26).symm
    rw [q0, q1, q2, w64 (by omega) (by omega)]
    unfold wrap32
    omega
  have e2 : wrap32 (wrap64 (97 + (Int.tmod (k : Int) 26))) = ((97 + k % 26 : Nat) : Int) := by
    have q2 : Int.tmod (k : Int) 26 = ((k % 26 : Nat) : Int) := (Int.ofNat_tmod k 26).symm
    rw [q2, w64 (by omega) (by omega)]
    unfold wrap32
    omega
  rw [e1, e2, enc_ascii _ (by omega), enc_ascii _ (by omega)]
  rfl

theorem decls_loop (ns : List Int) (ls : List Bool) (hm : ns.length ≤ maxLen) (hw : ∀ x ∈ ns, -128 ≤ x ∧ x ≤ 127) (d : Nat) :
    ∀ k : Nat, made ns - k = d → k ≤ made ns → Evt (fun q => tautochronelaw10_decls.l0 q ls (declsTo ns ls k) ns (ns.length : Int) (k : Int)) (declsTo ns ls (made ns)) := by
  unfold maxLen at hm
  induction d with
  | zero =>
    intro k hd hk
    obtain rfl : k = made ns := by omega
    refine Evt.succ (g := fun _ => some (declsTo ns ls (made ns))) (fun q => ?_) (Evt.const fun _ => rfl)
    have hmd : made ns = ns.length ∨ made ns = 600 ∧ 600 < ns.length := by unfold made; omega
    have hk6 : made ns ≤ 600 := by unfold made; omega
    generalize made ns = k at *
    simp only [tautochronelaw10_decls.l0]
    rcases hmd with hmd | ⟨hmd, hlt⟩
    · rw [if_neg (by omega)]
    · have hn := name_walk k (by omega)
      have hs : ((⟨#[110]⟩ : ByteArray) ++ (Utf8.encode (wrap32 (wrap64 (97 + (Int.tmod (wrap64 (Int.tdiv (k : Int) 26)) 26)))))).size + (Utf8.encode (wrap32 (wrap64 (97 + (Int.tmod (k : Int) 26))))).size = 3 := by
        have := congrArg ByteArray.size hn
        rw [ByteArray.size_append] at this
        rw [this]
        rfl
      have hs1 : 1 + (Utf8.encode (wrap32 (wrap64 (97 + (Int.tmod (wrap64 (Int.tdiv (k : Int) 26)) 26))))).size ≤ 9223372036854775807 := by
        rw [ByteArray.size_append] at hs
        have : (⟨#[110]⟩ : ByteArray).size = 1 := rfl
        omega
      rw [if_pos (by omega), if_pos (by omega), if_pos (by omega), if_pos hs1, if_pos (by omega), if_pos (by omega)]
  | succ d ih =>
    intro k hd hk
    have hlt : k < ns.length := by unfold made at hd; omega
    have hk6 : k < 600 := by unfold made at hd; omega
    have hn := name_walk k (by omega)
    have hx : -128 ≤ rd ns (k : Int) ∧ rd ns (k : Int) ≤ 127 := by
      unfold Go.Proofs.YthboknkpgbfmoaaW.PrintWords.rd
      rw [Int.toNat_natCast, List.getD_eq_getElem?_getD, List.getElem?_eq_getElem hlt]
      exact hw _ (List.getElem_mem hlt)
    have hs : ((⟨#[110]⟩ : ByteArray) ++ (Utf8.encode (wrap32 (wrap64 (97 + (Int.tmod (wrap64 (Int.tdiv (k : Int) 26)) 26)))))).size + (Utf8.encode (wrap32 (wrap64 (97 + (Int.tmod (k : Int) 26))))).size = 3 := by
      have := congrArg ByteArray.size hn
      rw [ByteArray.size_append] at this
      rw [this]
      rfl
    have hs1 : 1 + (Utf8.encode (wrap32 (wrap64 (97 + (Int.tmod (wrap64 (Int.tdiv (k : Int) 26)) 26))))).size ≤ 9223372036854775807 := by
      rw [ByteArray.size_append] at hs
      have : (⟨#[110]⟩ : ByteArray).size = 1 := rfl
      omega
    have wk : wrap64 ((k : Int) + 1) = ((k + 1 : Nat) : Int) := by rw [w64 (by omega) (by omega)]; rfl
    have hlen : (declsTo ns ls k).length < 2199023255552 := by rw [declsTo_len]; omega
    have hrec := ih (k + 1) (by omega) (by omega)
    rw [declsTo_succ] at hrec
    have hj : ∀ b, b = ls.getD k false → Evt (fun q => tautochronelaw10_decls.j1 q ls (declsTo ns ls k) (rd ns (k : Int)) ns (ns.length : Int) (k : Int) b false 0 (nameK k) (wrap64 (rd ns (k : Int))) (⟨#[]⟩ : ByteArray) 0) (declsTo ns ls (made ns)) := by
      rintro b rfl
      refine Evt.succ (fun q => ?_) hrec
      simp only [tautochronelaw10_decls.j1]
      have wx : wrap64 (rd ns (k : Int)) = rd ns (k : Int) := w64 (by omega) (by omega)
      rw [wx, wk]
      unfold declOf
      have hb : (Int.tmod (rd ns (k : Int)) 7 == 6) = decide (Int.tmod (rd ns (k : Int)) 7 = 6) := rfl
      rw [hb]
      cases ls.getD k false <;> by_cases h6 : Int.tmod (rd ns (k : Int)) 7 = 6 <;> simp [h6, hlen]
    refine Evt.succ (fun q => ?_) (hj _ rfl)
    simp only [tautochronelaw10_decls.l0]
    rw [if_pos (by omega), if_pos (by omega), if_pos (by omega), if_pos hs1, if_pos (by omega), if_neg (by omega), hn]
    by_cases hl : (k : Int) < (ls.length : Int)
    · rw [if_pos hl]
      unfold rdOf
      rw [Int.toNat_natCast]
    · rw [if_neg hl]
      have : ls.getD k false = false := by rw [List.getD_eq_getElem?_getD, List.getElem?_eq_none (by omega)]; rfl
      rw [this]

theorem decls_eq (ns : List Int) (ls : List Bool) (hm : ns.length ≤ maxLen) (hw : ∀ x ∈ ns, -128 ≤ x ∧ x ≤ 127) : Evt (fun q => tautochronelaw10_decls.f q ns ls) (declsTo ns ls (made ns)) := by
  have := decls_loop ns ls hm hw _ 0 rfl (by omega)
  exact this

theorem name_size (k : Nat) : (nameK k).size = 3 := rfl
theorem name_inj {j k : Nat} (hj : j < 600) (hk : k < 600) (h : nameK j = nameK k) : j = k := by
  unfold nameK at h
  simp only [ByteArray.mk.injEq, Array.mk.injEq, List.cons.injEq, and_true, true_and] at h
  obtain ⟨h1, h2⟩ := h
  have a1 := congrArg UInt8.toNat h1
  have a2 := congrArg UInt8.toNat h2
  simp only [UInt8.toNat_ofNat'] at a1 a2
  omega
theorem decls_names (ns : List Int) (ls : List Bool) : ((declsTo ns ls (made ns)).map (·.f2)).Nodup := by
  unfold declsTo
  rw [List.map_map]
  unfold List.Nodup
  rw [List.pairwise_map]
  refine List.Pairwise.imp_of_mem ?_ List.pairwise_lt_range
  intro a b ha hb hlt e
  have ha := List.mem_range.1 ha
  have hb := List.mem_range.1 hb
  have h6 : made ns ≤ 600 := by unfold made; omega
  have := name_inj (show a < 600 by omega) (show b < 600 by omega) e
  omega
end Go.Proofs.Ythboknkpgbfmoaa.PQ
