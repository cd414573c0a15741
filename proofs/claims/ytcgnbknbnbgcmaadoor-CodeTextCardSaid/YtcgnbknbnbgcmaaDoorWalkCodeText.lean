/- CodeText: the law joins the same parts; the law's walk. -/
import Derived.Test.YtcgnbknbnbgcmaaDoorSpecU
import Derived.Test.YtcgnbknbnbgcmaaDoorOpen
namespace Go.Proofs.YtcgnbknbnbgcmaaDoor.PQ.V
open Go.RowKit Go.Proofs.YtcgnbknbnbgcmaaDoorW.PrintWords
set_option linter.unusedVariables false

theorem usesSets_eq (c : S26) : tautochronelaw12_sets.f c.f0 c.f1 c.f2 c.f3 c.f4 c.f5 c.f6 c.f7 = some (db c) := by
  unfold tautochronelaw12_sets.f db
  by_cases h0 : c.f0 = 0
  · simp [h0]
  by_cases h1 : c.f0 = 1
  · simp [h1]
  by_cases h2 : c.f0 = 2
  · simp [h2]
  by_cases h3 : c.f0 = 3
  · simp [h3]
  have : (c.f0 == 4) = decide (c.f0 = 4) := rfl
  simp [h0, h1, h2, h3, this]
theorem usesLaw_eq (c : S26) : Evt (fun k => tautochronelaw12_uses.f k c.f0 c.f1 c.f2 c.f3 c.f4 c.f5 c.f6 c.f7) (us c) := by
  refine Evt.succ (g := fun k => tautochronelaw12_uses.f (k + 1) c.f0 c.f1 c.f2 c.f3 c.f4 c.f5 c.f6 c.f7) (fun _ => rfl) (Evt.const fun k => ?_)
  unfold tautochronelaw12_uses.f us
  simp only [tautochronelaw12_uses.j0]
  by_cases h1 : c.f0 = 1
  · simp [h1]
  by_cases h7 : c.f0 = 7
  · simp [h7]
  by_cases h10 : c.f0 = 10
  · simp [h10]
  by_cases h12 : c.f0 = 12
  · simp [h12]
  by_cases h2 : c.f0 = 2
  · simp [h2]
  by_cases h3 : c.f0 = 3
  · simp [h3]
  by_cases h4 : c.f0 = 4
  · by_cases h : c.f3 ≥ 0 <;> simp [h4, h]
  by_cases h5 : c.f0 = 5
  · by_cases h : c.f3 ≥ 0 <;> simp [h5, h]
  simp [h1, h7, h10, h12, h2, h3, h4, h5]


abbrev CT (c : S26) : Nat → Option ByteArray := fun k => code_Text.f k c.f0 c.f1 c.f2 c.f3 c.f4 c.f5 c.f6 c.f7
theorem fin_eq (c : S26) (r : List UInt8) (Hc : Evt (CT c) (tx r)) (s : ByteArray) (hs : s = tx r) : Evt (fun k => (CT c k).bind fun t => some (t.toList == s.toList)) true := by
  subst hs
  exact Evt.bind (f := fun t k => some (t.toList == (tx r).toList)) (r := true) Hc (Evt.const (fun k => by simp))
theorem add_num {ps : List (List UInt8)} {n : Nat} (h : Sh ps n) (ch : UInt8) (q : List UInt8) : (tx (jo ps) ++ (⟨#[32, ch]⟩ : ByteArray)) ++ tx q = tx (jo (ps ++ [ch :: q])) := by
  rw [show (⟨#[32, ch]⟩ : ByteArray) = tx [32, ch] from rfl, tx_app, tx_app, h.jo_snoc]
  simp
theorem add_text {ps : List (List UInt8)} {n : Nat} (h : Sh ps n) (q : List UInt8) : (tx (jo ps) ++ (⟨#[32]⟩ : ByteArray)) ++ tx q = tx (jo (ps ++ [q])) := by
  rw [show (⟨#[32]⟩ : ByteArray) = tx [32] from rfl, tx_app, tx_app, h.jo_snoc]
  simp
theorem size_two {ps : List (List UInt8)} {n : Nat} (h : Sh ps n) (hn : n ≤ 90) : (tx (jo ps)).size ≤ 2250 := by
  have := jo_len ps h.2.2
  have := h.1
  rw [tx_size]; omega
theorem size_lit (x : List UInt8) (ch : UInt8) : (tx x ++ (⟨#[32, ch]⟩ : ByteArray)).size = x.length + 2 := by
  rw [show (⟨#[32, ch]⟩ : ByteArray) = tx [32, ch] from rfl, tx_app, tx_size]; simp
theorem size_lit1 (x : List UInt8) : (tx x ++ (⟨#[32]⟩ : ByteArray)).size = x.length + 1 := by
  rw [show (⟨#[32]⟩ : ByteArray) = tx [32] from rfl, tx_app, tx_size]; simp

theorem law_j6 (c : S26) (hw : c.wf) (Hc : Evt (CT c) (tx (jo (parts c)))) (ps : List (List UInt8)) (n : Nat) (hs : Sh ps n) (hn : n ≤ 90) (hp : ps ++ last6 c = parts c) (b : Bool) (hb : b = decide (c.f0 = 6 ∨ c.f0 = 7)) :
    Evt (fun k => tautochronelaw12_CodeText.j6 k (tx (jo ps)) b c.f0 c.f1 c.f2 c.f3 c.f4 c.f5 c.f6 c.f7) true := by
  obtain ⟨h7a, h7b⟩ := wf64 hw.2.2.2.2.2.2.2
  have hi := itoa_len c.f7 h7a h7b
  have hz := size_two hs hn
  rw [tx_size] at hz
  unfold last6 at hp
  by_cases h : c.f0 = 6 ∨ c.f0 = 7
  · rw [decide_eq_true h] at hb
    rw [if_pos h] at hp
    have hf := fin_eq c _ Hc ((tx (jo ps) ++ (⟨#[32, 64]⟩ : ByteArray)) ++ tx (Lib.itoa c.f7)) (by rw [add_num hs, hp])
    have h2 := Evt.bind (f := fun t k => if (tx (jo ps) ++ (⟨#[32, 64]⟩ : ByteArray)).size + t.size ≤ 9223372036854775807 then (CT c k).bind fun t' => some (t'.toList == ((tx (jo ps) ++ (⟨#[32, 64]⟩ : ByteArray)) ++ t).toList) else none) (number_eq c.f7 h7a h7b) (Evt.congr (fun k => by rw [if_pos (by rw [size_lit, tx_size]; omega)]) hf)
    refine Evt.succ (fun k => ?_) h2
    simp only [tautochronelaw12_CodeText.j6]
    rw [if_pos hb, if_pos (by rw [tx_size]; omega)]
  · rw [decide_eq_false h] at hb
    rw [if_neg h, List.append_nil] at hp
    have hf := fin_eq c _ Hc (tx (jo ps)) (by rw [hp])
    refine Evt.succ (fun k => ?_) hf
    simp only [tautochronelaw12_CodeText.j6]
    rw [hb, if_neg (by simp)]

theorem law_j5 (c : S26) (hw : c.wf) (Hc : Evt (CT c) (tx (jo (parts c)))) (ps : List (List UInt8)) (n : Nat) (hs : Sh ps n) (hn : n ≤ 90) (hp : ps ++ last5 c = parts c) (b : Bool) (hb : b = decide (c.f0 = 0 ∨ c.f0 = 4 ∨ c.f0 = 5 ∨ c.f0 = 8 ∨ c.f0 = 9 ∨ c.f0 = 10)) :
    Evt (fun k => tautochronelaw12_CodeText.j5 k (tx (jo ps)) c.f0 b c.f0 c.f1 c.f2 c.f3 c.f4 c.f5 c.f6 c.f7) true := by
  obtain ⟨h6a, h6b⟩ := wfu64 hw.2.2.2.2.2.2.1
  have hz := size_two hs hn
  rw [tx_size] at hz
  unfold last5 at hp
  by_cases h : c.f0 = 0 ∨ c.f0 = 4 ∨ c.f0 = 5 ∨ c.f0 = 8 ∨ c.f0 = 9 ∨ c.f0 = 10
  · rw [decide_eq_true h] at hb
    rw [if_pos h] at hp
    have hnd := Lib.nDigits_le20 c.f6.toNat (by omega)
    have hD := digits_eq c.f6.toNat (by omega)
    rw [Int.toNat_of_nonneg h6a] at hD
    have hf := fin_eq c _ Hc ((tx (jo ps) ++ (⟨#[32]⟩ : ByteArray)) ++ tx (Lib.decDigits c.f6.toNat)) (by rw [add_text hs, hp])
    have h2 := Evt.bind (f := fun t k => if (tx (jo ps) ++ (⟨#[32]⟩ : ByteArray)).size + t.size ≤ 9223372036854775807 then (CT c k).bind fun t' => some (t'.toList == ((tx (jo ps) ++ (⟨#[32]⟩ : ByteArray)) ++ t).toList) else none) hD (Evt.congr (fun k => by rw [if_pos (by rw [size_lit1, tx_size, Lib.decDigits_length]; omega)]) hf)
    refine Evt.succ (fun k => ?_) h2
    simp only [tautochronelaw12_CodeText.j5]
    rw [if_pos hb, if_pos (by rw [tx_size]; omega)]
  · rw [decide_eq_false h] at hb
    rw [if_neg h] at hp
    by_cases h6 : c.f0 = 6
    · refine Evt.succ (fun k => ?_) (law_j6 c hw Hc ps n hs hn hp true (by rw [decide_eq_true (Or.inl h6)]))
      simp only [tautochronelaw12_CodeText.j5]
      rw [hb, if_neg (by simp), if_pos h6]
    · refine Evt.succ (fun k => ?_) (law_j6 c hw Hc ps n hs hn hp (c.f0 == 7) (by simp only [h6, false_or]; rfl))
      simp only [tautochronelaw12_CodeText.j5]
      rw [hb, if_neg (by simp), if_neg h6]

theorem law_l0 (c : S26) (hw : c.wf) (Hc : Evt (CT c) (tx (jo (parts c)))) (ys : List Int) (hy : ys.length ≤ 3) (hyw : ∀ u ∈ ys, -9223372036854775808 ≤ u ∧ u ≤ 9223372036854775807) (d : Nat) : ∀ (i : Nat) (ps : List (List UInt8)) (n : Nat), d = ys.length - i → i ≤ ys.length → Sh ps n → n + d ≤ 90 → ps ++ ((ys.drop i).map vt ++ last5 c) = parts c →
    Evt (fun k => tautochronelaw12_CodeText.l0 k (tx (jo ps)) ys (ys.length : Int) i c.f0 c.f1 c.f2 c.f3 c.f4 c.f5 c.f6 c.f7) true := by
  induction d with
  | zero =>
    intro i ps n hd hi hs hn hp
    have e : i = ys.length := by omega
    subst e
    rw [List.drop_length, List.map_nil, List.nil_append] at hp
    have hj := fun b hb => law_j5 c hw Hc ps n hs (by omega) hp b hb
    by_cases h0 : c.f0 = 0
    · refine Evt.succ (fun k => ?_) (hj true (by simp [h0]))
      simp only [tautochronelaw12_CodeText.l0]
      rw [if_neg (by omega), if_pos h0]
    by_cases h4 : c.f0 = 4
    · refine Evt.succ (fun k => ?_) (hj true (by simp [h4]))
      simp only [tautochronelaw12_CodeText.l0]
      rw [if_neg (by omega), if_neg h0, if_pos h4]
    by_cases h5 : c.f0 = 5
    · refine Evt.succ (fun k => ?_) (hj true (by simp [h5]))
      simp only [tautochronelaw12_CodeText.l0]
      rw [if_neg (by omega), if_neg h0, if_neg h4, if_pos h5]
    by_cases h8 : c.f0 = 8
    · refine Evt.succ (fun k => ?_) (hj true (by simp [h8]))
      simp only [tautochronelaw12_CodeText.l0]
      rw [if_neg (by omega), if_neg h0, if_neg h4, if_neg h5, if_pos h8]
    by_cases h9 : c.f0 = 9
    · refine Evt.succ (fun k => ?_) (hj true (by simp [h9]))
      simp only [tautochronelaw12_CodeText.l0]
      rw [if_neg (by omega), if_neg h0, if_neg h4, if_neg h5, if_neg h8, if_pos h9]
    · refine Evt.succ (fun k => ?_) (hj (c.f0 == 10) (by simp only [h0, h4, h5, h8, h9, false_or]; rfl))
      simp only [tautochronelaw12_CodeText.l0]
      rw [if_neg (by omega), if_neg h0, if_neg h4, if_neg h5, if_neg h8, if_neg h9]
  | succ d ih =>
    intro i ps n hd hi hs hn hp
    have hlt : i < ys.length := by omega
    have wk : wrap64 ((i : Int) + 1) = ((i + 1 : Nat) : Int) := by rw [w64 (by omega) (by omega)]; rfl
    have hu := hyw ys[i] (List.getElem_mem hlt)
    have hil := itoa_len ys[i] hu.1 hu.2
    have hz := size_two hs (by omega)
    rw [tx_size] at hz
    rw [List.drop_eq_getElem_cons hlt, List.map_cons] at hp
    have h2 := ih (i + 1) (ps ++ [vt ys[i]]) (n + 1) (by omega) (by omega) (hs.snoc (by simp [vt]; omega)) (by omega) (by rw [List.append_assoc]; exact hp)
    have h3 := Evt.bind (f := fun t k => if (tx (jo ps) ++ (⟨#[32, 118]⟩ : ByteArray)).size + t.size ≤ 9223372036854775807 then tautochronelaw12_CodeText.l0 k ((tx (jo ps) ++ (⟨#[32, 118]⟩ : ByteArray)) ++ t) ys (ys.length : Int) ((i + 1 : Nat) : Int) c.f0 c.f1 c.f2 c.f3 c.f4 c.f5 c.f6 c.f7 else none) (number_eq ys[i] hu.1 hu.2) (Evt.congr (fun k => by rw [if_pos (by rw [size_lit, tx_size]; omega), add_num hs]; rfl) h2)
    refine Evt.succ (fun k => ?_) h3
    simp only [tautochronelaw12_CodeText.l0]
    rw [if_pos (by omega), if_pos (by omega), if_pos (by omega), if_pos (by rw [tx_size]; omega), rd_at ys i hlt, wk]

theorem law_j3 (c : S26) (hw : c.wf) (Hc : Evt (CT c) (tx (jo (parts c)))) (ps : List (List UInt8)) (n : Nat) (hs : Sh ps n) (hn : n ≤ 50) (hp : ps ++ ((us c).map vt ++ last5 c) = parts c) :
    Evt (fun k => tautochronelaw12_CodeText.j3 k (tx (jo ps)) c.f0 c.f1 c.f2 c.f3 c.f4 c.f5 c.f6 c.f7) true := by
  have hl3 := us_len c
  have h2 := law_l0 c hw Hc (us c) hl3 (us_wf c hw) _ 0 ps n rfl (by omega) hs (by omega) (by rw [List.drop_zero]; exact hp)
  have h := Evt.bind (f := fun t k => tautochronelaw12_CodeText.l0 k (tx (jo ps)) t (t.length : Int) 0 c.f0 c.f1 c.f2 c.f3 c.f4 c.f5 c.f6 c.f7) (usesLaw_eq c) h2
  exact Evt.succ (fun k => rfl) h

theorem law_j2 (c : S26) (hw : c.wf) (Hc : Evt (CT c) (tx (jo (parts c)))) (ps : List (List UInt8)) (n : Nat) (hs : Sh ps n) (hn : n ≤ 40) (hp : ps ++ (sgn c ++ ((us c).map vt ++ last5 c)) = parts c) (b : Bool) (hb : b = decide (c.f0 = 2 ∧ opr c.f1 = true)) :
    Evt (fun k => tautochronelaw12_CodeText.j2 k (tx (jo ps)) b c.f0 c.f1 c.f2 c.f3 c.f4 c.f5 c.f6 c.f7) true := by
  have hz := size_two hs (by omega)
  rw [tx_size] at hz
  unfold sgn at hp
  by_cases h : c.f0 = 2 ∧ opr c.f1 = true
  · rw [decide_eq_true h] at hb
    have ho : 0 ≤ c.f1 ∧ c.f1 < 10 := by simpa [opr] using h.2
    obtain ⟨t, ht, hlen, hrd, hsl⟩ := Signs_at c.f1 ho.1 ho.2
    rw [if_pos h] at hp
    have h2 := law_j3 c hw Hc (ps ++ [sg c.f1]) (n + 1) (hs.snoc (by omega)) (by omega) (by rw [List.append_assoc]; exact hp)
    refine Evt.succ (fun k => ?_) h2
    simp only [tautochronelaw12_CodeText.j2]
    rw [if_pos hb, if_pos (by rw [tx_size]; omega), ht, Option.bind_some, if_pos ho.1, if_pos (by omega), hrd, if_pos (by rw [size_lit1, tx_size]; omega), add_text hs]
  · rw [decide_eq_false h] at hb
    rw [if_neg h, List.nil_append] at hp
    refine Evt.succ (fun k => ?_) (law_j3 c hw Hc ps n hs (by omega) hp)
    simp only [tautochronelaw12_CodeText.j2]
    rw [hb, if_neg (by simp)]

theorem law_j1 (c : S26) (hw : c.wf) (Hc : Evt (CT c) (tx (jo (parts c)))) (ps : List (List UInt8)) (n : Nat) (hs : Sh ps n) (hn : n ≤ 40) (hp : ps ++ (sgn c ++ ((us c).map vt ++ last5 c)) = parts c) :
    Evt (fun k => tautochronelaw12_CodeText.j1 k (tx (jo ps)) c.f0 c.f1 c.f2 c.f3 c.f4 c.f5 c.f6 c.f7) true := by
  have hj := fun b hb => law_j2 c hw Hc ps n hs hn hp b hb
  by_cases h2 : c.f0 = 2
  · by_cases h0 : c.f1 ≥ 0
    · refine Evt.succ (fun k => ?_) (hj (decide (c.f1 < 10)) (by unfold opr; simp [h2, h0]))
      simp only [tautochronelaw12_CodeText.j1]
      rw [if_pos h2, if_pos h0]
    · refine Evt.succ (fun k => ?_) (hj false (by unfold opr; simp [h2]; omega))
      simp only [tautochronelaw12_CodeText.j1]
      rw [if_pos h2, if_neg h0]
  · refine Evt.succ (fun k => ?_) (hj false (by simp [h2]))
    simp only [tautochronelaw12_CodeText.j1]
    rw [if_neg h2]

theorem law_j0 (c : S26) (hw : c.wf) (h0 : 0 ≤ c.f0) (h1 : c.f0 < 14) : Evt (fun k => tautochronelaw12_CodeText.j0 k false c.f0 c.f1 c.f2 c.f3 c.f4 c.f5 c.f6 c.f7) true := by
  have Hc : Evt (CT c) (tx (jo (parts c))) := code_eq c hw h0 h1
  obtain ⟨hn, hnl⟩ := names_at c.f0 h0 h1
  have h2w := wf64 hw.2.2.1
  have hil := itoa_len c.f2 h2w.1 h2w.2
  have hs1 : Sh [nm c] 1 := ⟨by simp, by simp, fun p hp => by rw [List.mem_singleton.1 hp]; unfold nm; omega⟩
  have hj : tx (nm c) = tx (jo [nm c]) := by simp [jo]
  have hnm : rdOf ByteArray.empty namesB c.f0 = tx (jo [nm c]) := hn.trans hj
  have hz := size_two hs1 (by omega)
  have hz2 := hz
  rw [tx_size] at hz2
  have hp : parts c = parts c := rfl
  by_cases hd : db c = true
  · have h2 := law_j1 c hw Hc ([nm c] ++ [vt c.f2]) 2 (hs1.snoc (by simp [vt]; omega)) (by omega) (by unfold parts setp; rw [if_pos hd, List.append_assoc])
    have h3 := Evt.bind (f := fun t k => if (tx (jo [nm c]) ++ (⟨#[32, 118]⟩ : ByteArray)).size + t.size ≤ 9223372036854775807 then tautochronelaw12_CodeText.j1 k ((tx (jo [nm c]) ++ (⟨#[32, 118]⟩ : ByteArray)) ++ t) c.f0 c.f1 c.f2 c.f3 c.f4 c.f5 c.f6 c.f7 else none) (number_eq c.f2 h2w.1 h2w.2) (Evt.congr (fun k => by rw [if_pos (by rw [size_lit, tx_size]; omega), add_num hs1]; rfl) h2)
    refine Evt.succ (fun k => ?_) h3
    simp only [tautochronelaw12_CodeText.j0]
    rw [if_neg (by simp), Option.bind_some, if_pos h0, if_pos (by show c.f0 < 14; exact h1), usesSets_eq, Option.bind_some, if_pos hd]
    show (if (rdOf ByteArray.empty namesB c.f0).size + 2 ≤ 9223372036854775807 then ((tautochronelaw12_number.f k c.f2).bind fun t111 => (if ((rdOf ByteArray.empty namesB c.f0) ++ (⟨#[32, 118]⟩ : ByteArray)).size + t111.size ≤ 9223372036854775807 then (tautochronelaw12_CodeText.j1 k (((rdOf ByteArray.empty namesB c.f0) ++ (⟨#[32, 118]⟩ : ByteArray)) ++ t111) c.f0 c.f1 c.f2 c.f3 c.f4 c.f5 c.f6 c.f7) else none)) else none) = _
    rw [hnm, if_pos (by omega)]
  · have h2 := law_j1 c hw Hc [nm c] 1 hs1 (by omega) (by unfold parts setp; rw [if_neg hd, List.nil_append])
    refine Evt.succ (fun k => ?_) h2
    simp only [tautochronelaw12_CodeText.j0]
    rw [if_neg (by simp), Option.bind_some, if_pos h0, if_pos (by show c.f0 < 14; exact h1), usesSets_eq, Option.bind_some, if_neg hd]
    show tautochronelaw12_CodeText.j1 k (rdOf ByteArray.empty namesB c.f0) c.f0 c.f1 c.f2 c.f3 c.f4 c.f5 c.f6 c.f7 = _
    rw [hnm]

theorem law_bad (c : S26) (h : c.f0 < 0 ∨ c.f0 > 13) : Evt (fun k => tautochronelaw12_CodeText.j0 k true c.f0 c.f1 c.f2 c.f3 c.f4 c.f5 c.f6 c.f7) true := by
  have h2 := Evt.bind (f := fun t k => some (t.toList == ([63] : List UInt8))) (r := true) (code_bad c h) (Evt.const (fun k => by rw [tx_toList]; rfl))
  refine Evt.succ (fun k => ?_) h2
  simp only [tautochronelaw12_CodeText.j0]
  rw [if_pos trivial]

theorem pureCodeText (c : S26) (hw : c.wf) : ∃ k, tautochronelaw12_CodeText.f k c.f0 c.f1 c.f2 c.f3 c.f4 c.f5 c.f6 c.f7 = some true := by
  have key : Evt (fun k => if c.f0 < 0 then tautochronelaw12_CodeText.j0 k true c.f0 c.f1 c.f2 c.f3 c.f4 c.f5 c.f6 c.f7 else tautochronelaw12_CodeText.j0 k (decide (c.f0 > 13)) c.f0 c.f1 c.f2 c.f3 c.f4 c.f5 c.f6 c.f7) true := by
    by_cases h0 : c.f0 < 0
    · exact Evt.congr (fun k => by rw [if_pos h0]) (law_bad c (Or.inl h0))
    · by_cases h1 : c.f0 > 13
      · exact Evt.congr (fun k => by rw [if_neg h0, decide_eq_true h1]) (law_bad c (Or.inr h1))
      · exact Evt.congr (fun k => by rw [if_neg h0, decide_eq_false h1]) (law_j0 c hw (by omega) (by omega))
  have h := Evt.bind (f := fun t k => if t = true then (if c.f0 < 0 then tautochronelaw12_CodeText.j0 k true c.f0 c.f1 c.f2 c.f3 c.f4 c.f5 c.f6 c.f7 else tautochronelaw12_CodeText.j0 k (decide (c.f0 > 13)) c.f0 c.f1 c.f2 c.f3 c.f4 c.f5 c.f6 c.f7) else some false) awake_eq (Evt.congr (fun k => by rw [if_pos rfl]) key)
  obtain ⟨k, hk⟩ := h.ex
  exact ⟨k, hk⟩

theorem walkCodeText (W : World) (ht : TB W) (c : S26) (hw : c.wf) :
    Calls Tryd.prog 4 #[.agg #[.int .i64 c.f0, .int .i64 c.f1, .int .i64 c.f2, .int .i64 c.f3, .int .i64 c.f4, .int .i64 c.f5, .int .u64 c.f6, .int .i64 c.f7]] W fun e W' => e = .returned (.bool true) ∧ Below W.heap.size W W' := by
  obtain ⟨k, h⟩ := pureCodeText c hw
  exact tautochronelaw12_CodeText.calls k c.f0 c.f1 c.f2 c.f3 c.f4 c.f5 c.f6 c.f7 true W h ht
end Go.Proofs.YtcgnbknbnbgcmaaDoor.PQ.V
