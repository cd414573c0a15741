/- CodeText: what code.Text answers, and what the law joins: the same parts. -/
import Derived.Test.YtcgnbknbnbgcmaaDoorSpecT
namespace Go.Proofs.YtcgnbknbnbgcmaaDoor.PQ.V
open Go.RowKit Go.Proofs.YtcgnbknbnbgcmaaDoorW.PrintWords
set_option linter.unusedVariables false

/-- Parts with blanks between them. -/
def jo : List (List UInt8) → List UInt8
  | [] => []
  | p :: ps => p ++ ps.flatMap (fun q => 32 :: q)
theorem jo_snoc (p : List UInt8) (ps : List (List UInt8)) (q : List UInt8) : jo (p :: ps ++ [q]) = jo (p :: ps) ++ 32 :: q := by
  simp [jo, List.flatMap_append]
theorem jo_len (ps : List (List UInt8)) (h : ∀ p ∈ ps, p.length ≤ 24) : (jo ps).length ≤ 25 * ps.length := by
  cases ps with
  | nil => simp [jo]
  | cons p ps =>
    have h0 := h p (by simp)
    have h1 : (ps.flatMap (fun q => 32 :: q)).length ≤ 25 * ps.length := by
      have hh : ∀ q ∈ ps, q.length ≤ 24 := fun q hq => h q (by simp [hq])
      clear h h0
      induction ps with
      | nil => simp
      | cons q ps ih =>
        have := hh q (by simp)
        have := ih (fun r hr => hh r (by simp [hr]))
        simp only [List.flatMap_cons, List.length_append, List.length_cons]
        omega
    simp only [jo, List.length_append, List.length_cons]
    omega
theorem tx_data (a : List UInt8) : (tx a).data.toList = a := by simp [tx]
theorem join_tx (ps : List (List UInt8)) : joinBytes (ps.map tx) (⟨#[32]⟩ : ByteArray) = jo ps := by
  unfold joinBytes
  rw [List.map_map]
  have e : (ps.map ((fun (x : ByteArray) => x.data.toList) ∘ tx)) = ps := by
    conv => rhs; rw [← List.map_id ps]
    exact List.map_congr_left (fun p _ => tx_data p)
  rw [e]
  show Lib.join ps [32] = jo ps
  cases ps with
  | nil => rfl
  | cons p ps =>
    rw [Lib.join_cons]
    show p ++ (ps.map (fun x => [32] ++ x)).flatten = p ++ ps.flatMap (fun q => 32 :: q)
    rw [List.flatMap_def]
    rfl
theorem Join_eq (ps : List (List UInt8)) (h0 : ps.length ≤ 100) (h : ∀ p ∈ ps, p.length ≤ 24) : strings_Join.f (ps.map tx) (⟨#[32]⟩ : ByteArray) = some (tx (jo ps)) := by
  have hl := jo_len ps h
  unfold strings_Join.f
  rw [join_tx, if_pos ⟨by simp; omega, by omega⟩]
  rfl
theorem FormatUint_eq (n : Nat) (h : n < 18446744073709551616) : strconv_FormatUint.f (n : Int) 10 = some (tx (Lib.decDigits n)) := by
  unfold strconv_FormatUint.f
  rw [if_pos ⟨⟨by omega, by omega⟩, rfl⟩]
  rfl

/-- Short parts. -/
def Sh (ps : List (List UInt8)) (n : Nat) : Prop := ps.length ≤ n ∧ 0 < ps.length ∧ ∀ p ∈ ps, p.length ≤ 24
theorem Sh.snoc {ps : List (List UInt8)} {n : Nat} {q : List UInt8} (h : Sh ps n) (hq : q.length ≤ 24) : Sh (ps ++ [q]) (n + 1) :=
  ⟨by simp; exact h.1, by simp, fun p hp => by
    rcases List.mem_append.1 hp with hp | hp
    · exact h.2.2 p hp
    · rw [List.mem_singleton.1 hp]; exact hq⟩
theorem Sh.mono {ps : List (List UInt8)} {n m : Nat} (h : Sh ps n) (hm : n ≤ m) : Sh ps m := ⟨Nat.le_trans h.1 hm, h.2⟩
theorem Sh.jo_snoc {ps : List (List UInt8)} {n : Nat} (h : Sh ps n) (q : List UInt8) : jo (ps ++ [q]) = jo ps ++ 32 :: q := by
  cases ps with
  | nil => exact absurd h.2.1 (by simp)
  | cons p ps => exact V.jo_snoc p ps q

/-- The number at the end. -/
def last6 (c : S26) : List (List UInt8) := if c.f0 = 6 ∨ c.f0 = 7 then [64 :: Lib.itoa c.f7] else []
def last5 (c : S26) : List (List UInt8) := if c.f0 = 0 ∨ c.f0 = 4 ∨ c.f0 = 5 ∨ c.f0 = 8 ∨ c.f0 = 9 ∨ c.f0 = 10 then [Lib.decDigits c.f6.toNat] else last6 c
theorem wf64 {n : Int} (h : (Lit.int .i64 n).wf = true) : -9223372036854775808 ≤ n ∧ n ≤ 9223372036854775807 := by
  simp only [Lit.wf, IntKind.min, IntKind.max, IntKind.signed, IntKind.bits, Bool.and_eq_true] at h
  simpa using h
theorem wfu64 {n : Int} (h : (Lit.int .u64 n).wf = true) : 0 ≤ n ∧ n < 18446744073709551616 := by
  simp only [Lit.wf, IntKind.min, IntKind.max, IntKind.signed, IntKind.bits, Bool.and_eq_true] at h
  have h2 : n ≤ 18446744073709551615 := by simpa using h.2
  have h1 : 0 ≤ n := by simpa using h.1
  exact ⟨h1, by omega⟩

theorem code_j6 (c : S26) (hw : c.wf) (ps : List (List UInt8)) (n : Nat) (hs : Sh ps n) (hn : n ≤ 90) (b : Bool) (hb : b = decide (c.f0 = 6 ∨ c.f0 = 7)) :
    Evt (fun k => code_Text.j6 k (ps.map tx) b c.f0 c.f1 c.f2 c.f3 c.f4 c.f5 c.f6 c.f7) (tx (jo (ps ++ last6 c))) := by
  obtain ⟨h7a, h7b⟩ := wf64 hw.2.2.2.2.2.2.2
  have hi := itoa_len c.f7 h7a h7b
  refine ⟨1, fun k hk => ?_⟩
  obtain ⟨k, rfl⟩ : ∃ m, k = m + 1 := ⟨k - 1, by omega⟩
  simp only [code_Text.j6]
  unfold last6
  by_cases h : c.f0 = 6 ∨ c.f0 = 7
  · rw [decide_eq_true h] at hb
    have hs2 := hs.snoc (q := 64 :: Lib.itoa c.f7) (by simp; omega)
    have hJ := Join_eq _ (Nat.le_trans hs2.1 (by omega)) hs2.2.2
    rw [List.map_append] at hJ
    have hl := hs.1
    rw [if_pos hb, if_pos h, Itoa_eq _ h7a h7b, Option.bind_some, tx_size, if_pos (by omega), if_pos (by simp; omega), show (⟨#[64]⟩ : ByteArray) = tx [64] from rfl, tx_app]
    rw [show (tx ([64] ++ Lib.itoa c.f7) :: []) = List.map tx [64 :: Lib.itoa c.f7] from rfl, hJ]
    rfl
  · rw [decide_eq_false h] at hb
    have hJ := Join_eq _ (Nat.le_trans hs.1 (by omega)) hs.2.2
    rw [hb, if_neg (by simp), if_neg h, hJ, List.append_nil]
    rfl

theorem code_j5 (c : S26) (hw : c.wf) (ps : List (List UInt8)) (n : Nat) (hs : Sh ps n) (hn : n ≤ 90) (b : Bool) (hb : b = decide (c.f0 = 0 ∨ c.f0 = 4 ∨ c.f0 = 5 ∨ c.f0 = 8 ∨ c.f0 = 9 ∨ c.f0 = 10)) :
    Evt (fun k => code_Text.j5 k (ps.map tx) c.f0 b c.f0 c.f1 c.f2 c.f3 c.f4 c.f5 c.f6 c.f7) (tx (jo (ps ++ last5 c))) := by
  obtain ⟨h6a, h6b⟩ := wfu64 hw.2.2.2.2.2.2.1
  have hl := hs.1
  unfold last5
  by_cases h : c.f0 = 0 ∨ c.f0 = 4 ∨ c.f0 = 5 ∨ c.f0 = 8 ∨ c.f0 = 9 ∨ c.f0 = 10
  · rw [decide_eq_true h] at hb
    have hF := FormatUint_eq c.f6.toNat (by omega)
    rw [Int.toNat_of_nonneg h6a] at hF
    have hnd := Lib.nDigits_le20 c.f6.toNat (by omega)
    have hs2 := hs.snoc (q := Lib.decDigits c.f6.toNat) (by rw [Lib.decDigits_length]; omega)
    have hJ := Join_eq _ (Nat.le_trans hs2.1 (by omega)) hs2.2.2
    rw [List.map_append] at hJ
    refine ⟨1, fun k hk => ?_⟩
    obtain ⟨k, rfl⟩ : ∃ m, k = m + 1 := ⟨k - 1, by omega⟩
    simp only [code_Text.j5]
    rw [if_pos hb, if_pos h, hF, Option.bind_some, if_pos (by simp; omega)]
    rw [show (tx (Lib.decDigits c.f6.toNat) :: []) = List.map tx [Lib.decDigits c.f6.toNat] from rfl, hJ]
    rfl
  · rw [decide_eq_false h] at hb
    rw [if_neg h]
    by_cases h6 : c.f0 = 6
    · refine Evt.succ (fun k => ?_) (code_j6 c hw ps n hs hn true (by rw [decide_eq_true (Or.inl h6)]))
      simp only [code_Text.j5]
      rw [hb, if_neg (by simp), if_pos h6, show (c.f0 == 6) = true by simpa using h6]
    · refine Evt.succ (fun k => ?_) (code_j6 c hw ps n hs hn (c.f0 == 7) (by simp only [h6, false_or]; rfl))
      simp only [code_Text.j5]
      rw [hb, if_neg (by simp), if_neg h6]

def vt (u : Int) : List UInt8 := 118 :: Lib.itoa u
theorem code_l0 (c : S26) (hw : c.wf) (ys : List Int) (hy : ys.length ≤ 3) (hyw : ∀ u ∈ ys, -9223372036854775808 ≤ u ∧ u ≤ 9223372036854775807) (d : Nat) : ∀ (i : Nat) (ps : List (List UInt8)) (n : Nat), d = ys.length - i → i ≤ ys.length → Sh ps n → n + d ≤ 90 →
    Evt (fun k => code_Text.l0 k (ps.map tx) ys (ys.length : Int) i c.f0 c.f1 c.f2 c.f3 c.f4 c.f5 c.f6 c.f7) (tx (jo (ps ++ ((ys.drop i).map vt ++ last5 c)))) := by
  induction d with
  | zero =>
    intro i ps n hd hi hs hn
    have e : i = ys.length := by omega
    subst e
    rw [List.drop_length, List.map_nil, List.nil_append]
    have hj := fun b hb => code_j5 c hw ps n hs (by omega) b hb
    by_cases h0 : c.f0 = 0
    · refine Evt.succ (fun k => ?_) (hj (c.f0 == 0) (by simp [h0]))
      simp only [code_Text.l0]
      rw [if_neg (by omega), if_pos h0]
    by_cases h4 : c.f0 = 4
    · refine Evt.succ (fun k => ?_) (hj (c.f0 == 4) (by simp [h4]))
      simp only [code_Text.l0]
      rw [if_neg (by omega), if_neg h0, if_pos h4]
    by_cases h5 : c.f0 = 5
    · refine Evt.succ (fun k => ?_) (hj (c.f0 == 5) (by simp [h5]))
      simp only [code_Text.l0]
      rw [if_neg (by omega), if_neg h0, if_neg h4, if_pos h5]
    by_cases h8 : c.f0 = 8
    · refine Evt.succ (fun k => ?_) (hj (c.f0 == 8) (by simp [h8]))
      simp only [code_Text.l0]
      rw [if_neg (by omega), if_neg h0, if_neg h4, if_neg h5, if_pos h8]
    by_cases h9 : c.f0 = 9
    · refine Evt.succ (fun k => ?_) (hj (c.f0 == 9) (by simp [h9]))
      simp only [code_Text.l0]
      rw [if_neg (by omega), if_neg h0, if_neg h4, if_neg h5, if_neg h8, if_pos h9]
    · refine Evt.succ (fun k => ?_) (hj (c.f0 == 10) (by simp only [h0, h4, h5, h8, h9, false_or]; rfl))
      simp only [code_Text.l0]
      rw [if_neg (by omega), if_neg h0, if_neg h4, if_neg h5, if_neg h8, if_neg h9]
  | succ d ih =>
    intro i ps n hd hi hs hn
    have hlt : i < ys.length := by omega
    have wk : wrap64 ((i : Int) + 1) = ((i + 1 : Nat) : Int) := by rw [w64 (by omega) (by omega)]; rfl
    have hu := hyw ys[i] (List.getElem_mem hlt)
    have hil := itoa_len ys[i] hu.1 hu.2
    have hl := hs.1
    have h2 := ih (i + 1) (ps ++ [vt ys[i]]) (n + 1) (by omega) (by omega) (hs.snoc (by simp [vt]; omega)) (by omega)
    rw [List.drop_eq_getElem_cons hlt, List.map_cons]
    rw [List.append_assoc, List.singleton_append, List.map_append] at h2
    refine Evt.succ (fun k => ?_) h2
    simp only [code_Text.l0]
    rw [if_pos (by omega), if_pos (by omega), if_pos (by omega), rd_at ys i hlt, Itoa_eq _ hu.1 hu.2, Option.bind_some, tx_size, if_pos (by omega), if_pos (by simp; omega), show (⟨#[118]⟩ : ByteArray) = tx [118] from rfl, tx_app, wk]
    rfl

theorem us_wf (c : S26) (hw : c.wf) : ∀ u ∈ us c, -9223372036854775808 ≤ u ∧ u ≤ 9223372036854775807 := by
  obtain ⟨_, _, _, h3, h4, h5, _, _⟩ := hw
  have a3 := wf64 h3
  have a4 := wf64 h4
  have a5 := wf64 h5
  intro u hu
  unfold us at hu
  repeat' split at hu
  all_goals simp at hu
  all_goals (repeat' (rcases hu with rfl | hu)) <;> (try subst hu) <;> assumption

theorem code_j3 (c : S26) (hw : c.wf) (ps : List (List UInt8)) (n : Nat) (hs : Sh ps n) (hn : n ≤ 50) :
    Evt (fun k => code_Text.j3 k (ps.map tx) c.f0 c.f1 c.f2 c.f3 c.f4 c.f5 c.f6 c.f7) (tx (jo (ps ++ ((us c).map vt ++ last5 c)))) := by
  have hl3 := us_len c
  have h2 := code_l0 c hw (us c) hl3 (us_wf c hw) _ 0 ps n rfl (by omega) hs (by omega)
  rw [List.drop_zero] at h2
  have h := Evt.bind (f := fun t k => code_Text.l0 k (ps.map tx) t (t.length : Int) 0 c.f0 c.f1 c.f2 c.f3 c.f4 c.f5 c.f6 c.f7) (Uses_eq c) h2
  exact Evt.succ (fun k => rfl) h

/-- The operators' signs. -/
def sg (o : Int) : List UInt8 := ([[43], [45], [42], [38], [124], [94], [60, 60], [62, 62], [61, 61], [60]] : List (List UInt8)).getD o.toNat []
theorem Signs_at (o : Int) (h0 : 0 ≤ o) (h1 : o < 10) : ∃ t, word_Signs.f = some t ∧ (t.length : Int) = 10 ∧ rdOf ByteArray.empty t o = tx (sg o) ∧ (sg o).length ≤ 2 := by
  refine ⟨_, rfl, rfl, ?_⟩
  have : o = 0 ∨ o = 1 ∨ o = 2 ∨ o = 3 ∨ o = 4 ∨ o = 5 ∨ o = 6 ∨ o = 7 ∨ o = 8 ∨ o = 9 := by omega
  rcases this with rfl | rfl | rfl | rfl | rfl | rfl | rfl | rfl | rfl | rfl <;> exact ⟨rfl, by decide⟩
def sgn (c : S26) : List (List UInt8) := if c.f0 = 2 ∧ opr c.f1 = true then [sg c.f1] else []

theorem code_j2 (c : S26) (hw : c.wf) (ps : List (List UInt8)) (n : Nat) (hs : Sh ps n) (hn : n ≤ 40) (b : Bool) (hb : b = decide (c.f0 = 2 ∧ opr c.f1 = true)) :
    Evt (fun k => code_Text.j2 k (ps.map tx) b c.f0 c.f1 c.f2 c.f3 c.f4 c.f5 c.f6 c.f7) (tx (jo (ps ++ (sgn c ++ ((us c).map vt ++ last5 c))))) := by
  have hl := hs.1
  unfold sgn
  by_cases h : c.f0 = 2 ∧ opr c.f1 = true
  · rw [decide_eq_true h] at hb
    have ho : 0 ≤ c.f1 ∧ c.f1 < 10 := by simpa [opr] using h.2
    obtain ⟨t, ht, hlen, hrd, hsl⟩ := Signs_at c.f1 ho.1 ho.2
    have h2 := code_j3 c hw (ps ++ [sg c.f1]) (n + 1) (hs.snoc (by omega)) (by omega)
    rw [List.append_assoc, List.map_append] at h2
    rw [if_pos h]
    refine Evt.succ (fun k => ?_) h2
    simp only [code_Text.j2]
    rw [if_pos hb, ht, Option.bind_some, if_pos ho.1, if_pos (by omega), if_pos (by simp; omega), hrd]
    rfl
  · rw [decide_eq_false h] at hb
    rw [if_neg h, List.nil_append]
    refine Evt.succ (fun k => ?_) (code_j3 c hw ps n hs (by omega))
    simp only [code_Text.j2]
    rw [hb, if_neg (by simp)]

theorem code_j1 (c : S26) (hw : c.wf) (ps : List (List UInt8)) (n : Nat) (hs : Sh ps n) (hn : n ≤ 40) :
    Evt (fun k => code_Text.j1 k (ps.map tx) c.f0 c.f1 c.f2 c.f3 c.f4 c.f5 c.f6 c.f7) (tx (jo (ps ++ (sgn c ++ ((us c).map vt ++ last5 c))))) := by
  by_cases h2 : c.f0 = 2
  · obtain ⟨t, ht, _, hd⟩ := Tight_eq c.f1
    refine Evt.succ (fun k => ?_) (code_j2 c hw ps n hs hn (decide (t > 0)) (by rw [hd]; simp [h2]))
    simp only [code_Text.j1]
    rw [if_pos h2, ht, Option.bind_some]
  · refine Evt.succ (fun k => ?_) (code_j2 c hw ps n hs hn false (by simp [h2]))
    simp only [code_Text.j1]
    rw [if_neg h2]

def names : List (List UInt8) := [[115, 101, 116], [109, 111, 118, 101], [100, 111], [99, 104, 111, 111, 115, 101], [114, 101, 97, 100], [119, 114, 105, 116, 101], [106, 117, 109, 112], [122, 101, 114, 111], [108, 111, 99, 107], [117, 110, 108, 111, 99, 107], [105, 110, 99], [109, 101, 110, 100], [116, 101, 108, 108], [104, 97, 108, 116]]
def nm (c : S26) : List UInt8 := names.getD c.f0.toNat []
def namesB : List ByteArray := [(⟨#[115, 101, 116]⟩ : ByteArray), (⟨#[109, 111, 118, 101]⟩ : ByteArray), (⟨#[100, 111]⟩ : ByteArray), (⟨#[99, 104, 111, 111, 115, 101]⟩ : ByteArray), (⟨#[114, 101, 97, 100]⟩ : ByteArray), (⟨#[119, 114, 105, 116, 101]⟩ : ByteArray), (⟨#[106, 117, 109, 112]⟩ : ByteArray), (⟨#[122, 101, 114, 111]⟩ : ByteArray), (⟨#[108, 111, 99, 107]⟩ : ByteArray), (⟨#[117, 110, 108, 111, 99, 107]⟩ : ByteArray), (⟨#[105, 110, 99]⟩ : ByteArray), (⟨#[109, 101, 110, 100]⟩ : ByteArray), (⟨#[116, 101, 108, 108]⟩ : ByteArray), (⟨#[104, 97, 108, 116]⟩ : ByteArray)]
theorem names_at (o : Int) (h0 : 0 ≤ o) (h1 : o < 14) : rdOf ByteArray.empty namesB o = tx (names.getD o.toNat []) ∧ (names.getD o.toNat []).length ≤ 6 := by
  have : o = 0 ∨ o = 1 ∨ o = 2 ∨ o = 3 ∨ o = 4 ∨ o = 5 ∨ o = 6 ∨ o = 7 ∨ o = 8 ∨ o = 9 ∨ o = 10 ∨ o = 11 ∨ o = 12 ∨ o = 13 := by omega
  rcases this with rfl | rfl | rfl | rfl | rfl | rfl | rfl | rfl | rfl | rfl | rfl | rfl | rfl | rfl <;> exact ⟨rfl, by decide⟩
def setp (c : S26) : List (List UInt8) := if db c = true then [vt c.f2] else []
def parts (c : S26) : List (List UInt8) := [nm c] ++ (setp c ++ (sgn c ++ ((us c).map vt ++ last5 c)))

theorem dv_of_db (c : S26) (h : db c = true) : dv c = c.f2 := by
  unfold db at h
  unfold dv
  rw [if_pos (of_decide_eq_true h)]

theorem code_eq (c : S26) (hw : c.wf) (h0 : 0 ≤ c.f0) (h1 : c.f0 < 14) : Evt (fun k => code_Text.f k c.f0 c.f1 c.f2 c.f3 c.f4 c.f5 c.f6 c.f7) (tx (jo (parts c))) := by
  obtain ⟨hn, hnl⟩ := names_at c.f0 h0 h1
  have h2w := wf64 hw.2.2.1
  have hil := itoa_len c.f2 h2w.1 h2w.2
  have hs1 : Sh [nm c] 1 := ⟨by simp, by simp, fun p hp => by rw [List.mem_singleton.1 hp]; unfold nm; omega⟩
  have hj0 : Evt (fun k => code_Text.j0 k namesB false c.f0 c.f1 c.f2 c.f3 c.f4 c.f5 c.f6 c.f7) (tx (jo (parts c))) := by
    unfold parts setp
    by_cases hd : db c = true
    · have h2 := code_j1 c hw ([nm c] ++ [vt c.f2]) 2 (hs1.snoc (by simp [vt]; omega)) (by omega)
      rw [List.append_assoc, List.map_append] at h2
      rw [if_pos hd]
      refine Evt.succ (fun k => ?_) h2
      simp only [code_Text.j0]
      rw [if_neg (by simp), if_pos h0, if_pos (by show c.f0 < 14; exact h1), Option.bind_some, Defines_eq, Option.bind_some, dv_of_db c hd, hd, if_pos rfl, Itoa_eq _ h2w.1 h2w.2, Option.bind_some, tx_size, if_pos (by omega), if_pos (by simp), hn, show (⟨#[118]⟩ : ByteArray) = tx [118] from rfl, tx_app]
      rfl
    · have h2 := code_j1 c hw [nm c] 1 hs1 (by omega)
      rw [if_neg hd, List.nil_append]
      refine Evt.succ (fun k => ?_) h2
      simp only [code_Text.j0]
      rw [if_neg (by simp), if_pos h0, if_pos (by show c.f0 < 14; exact h1), Option.bind_some, Defines_eq, Option.bind_some, if_neg hd, hn]
      rfl
  refine Evt.congr (fun k => ?_) hj0
  unfold code_Text.f
  rw [Option.bind_some, if_neg (by omega)]
  show code_Text.j0 k namesB (decide (c.f0 ≥ 14)) _ _ _ _ _ _ _ _ = _
  rw [decide_eq_false (by omega)]

theorem code_bad (c : S26) (h : c.f0 < 0 ∨ c.f0 > 13) : Evt (fun k => code_Text.f k c.f0 c.f1 c.f2 c.f3 c.f4 c.f5 c.f6 c.f7) (tx [63]) := by
  refine ⟨1, fun k hk => ?_⟩
  obtain ⟨k, rfl⟩ : ∃ m, k = m + 1 := ⟨k - 1, by omega⟩
  show code_Text.f (k + 1) c.f0 c.f1 c.f2 c.f3 c.f4 c.f5 c.f6 c.f7 = some (tx [63])
  unfold code_Text.f
  rw [Option.bind_some]
  by_cases h0 : c.f0 < 0
  · rw [if_pos h0]
    simp only [code_Text.j0]
    rfl
  · rw [if_neg h0]
    show code_Text.j0 (k + 1) namesB (decide (c.f0 ≥ 14)) _ _ _ _ _ _ _ _ = _
    rw [decide_eq_true (by omega)]
    simp only [code_Text.j0]
    rfl
end Go.Proofs.YtcgnbknbnbgcmaaDoor.PQ.V
