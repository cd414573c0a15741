/- lex.Cut. -/
import Derived.Test.YtcdgjgoplogiiaaDoorKey
import Derived.Test.YtcdgjgoplogiiaaDoorBld
import Derived.Maps.AppendAt
namespace Go.Proofs.YtcdgjgoplogiiaaDoor.PT
open Go.RowKit Go.Lib Go.WideMaps Go.Maps
set_option linter.unusedVariables false
set_option linter.unusedSimpArgs false
abbrev TK : TypeId := 88
abbrev TF : TypeId := 109
def tokC (t : Tok) : List Value := [.int .i64 t.k, .string t.s, .int .u64 t.v, .int .i64 t.p]
def tokCs (ts : List Tok) : List Value := ts.flatMap tokC
theorem tokCs_snoc (ts : List Tok) (t : Tok) : tokCs (ts ++ [t]) = tokCs ts ++ tokC t := by simp [tokCs]
theorem tokCs_len (ts : List Tok) : (tokCs ts).length = ts.length * 4 := by
  induction ts with
  | nil => rfl
  | cons t r ih =>
    rw [show tokCs (t :: r) = tokC t ++ tokCs r from rfl, List.length_append, ih, List.length_cons]
    show 4 + _ = _
    omega
theorem infoTK : (Tryd.prog.info? TK).map (fun i => (i.zero, i.size, i.bytes)) = some (some (.agg #[.int .i64 0, .string ByteArray.empty, .int .u64 0, .int .i64 0]), 4, 40) := by kernel_rfl
theorem wrap_calls (n p : Nat) (w : World) :
    Calls Tryd.prog 46 #[.iface 51 (.int .i64 n), .int .i64 p] w fun e w' => e = .returned (.iface 106 (.pointer (some ⟨w.heap.size, 0, none⟩))) ∧ w' = w.alloc (.cells #[.int .i64 p, .iface 51 (.int .i64 n)] TF) := by
  go_enter Tryd.func46, Tryd.ntmps46
  go_wp2
  go_ret
  exact ⟨rfl, rfl⟩
/-- The error n at place p. -/
def ErrV (w : World) (B : Nat) (v : Value) (n p : Nat) : Prop := ∃ g, B ≤ g ∧ v = .iface 106 (.pointer (some ⟨g, 0, none⟩)) ∧ w.heap[g]? = some (.cells #[.int .i64 p, .iface 51 (.int .i64 n)] TF (0, 0))
structure CI (s : ByteArray) (b : Nat) (v : Value) (k : Nat) (ts : List Tok) (w wr : World) : Prop where
  own : wr.ownsRow w.heap.size TK 4 v ts.length (tokCs ts)
  kt : KT wr b
  bel : Below w.heap.size w wr
  hb : w.heap.size ≤ b
  le : ts.length ≤ k
  eq : ∃ f, s.size ≤ k + f ∧ cutl s s.size 0 = (cutl s f k).map (ts ++ ·)
theorem getD_list (s : ByteArray) (k : Nat) (h : k < s.size) : s.data.toList.getD k 0 = s[k] := by
  have hl : k < s.data.toList.length := by rw [← size_list]; exact h
  rw [List.getD_eq_getElem?_getD, List.getElem?_eq_getElem hl, get_list s k h hl]; rfl
theorem map_ok {α β ε : Type} (f : α → β) (x : α) : (Except.ok x : Except ε α).map f = .ok (f x) := rfl
theorem map_map' {α β γ ε : Type} (f : α → β) (g : β → γ) (x : Except ε α) : (x.map f).map g = x.map (g ∘ f) := by cases x <;> rfl
theorem CI.skip {s : ByteArray} {b k k' : Nat} {v : Value} {ts : List Tok} {w wr : World} (h : CI s b v k ts w wr) (hk : k < s.size) (e : cutAt s k = .skip k') (hlt : k < k') : CI s b v k' ts w wr := by
  obtain ⟨h1, h2, h3, h4, h5, f, hf, he⟩ := h
  refine ⟨h1, h2, h3, h4, by omega, ?_⟩
  cases f with
  | zero => omega
  | succ f => exact ⟨f, by omega, by rw [he]; simp only [cutl]; rw [if_neg (by omega), e]⟩
theorem CI.tok {s : ByteArray} {b k k' : Nat} {v v' : Value} {ts : List Tok} {t : Tok} {w wr w' : World} (h : CI s b v k ts w wr) (hk : k < s.size) (e : cutAt s k = .tok t k') (hlt : k < k')
    (ho : w'.ownsRow w.heap.size TK 4 v' (ts.length + 1) (tokCs ts ++ tokC t)) (ht : KT w' b) (hb : Below w.heap.size w w') : CI s b v' k' (ts ++ [t]) w w' := by
  obtain ⟨h1, h2, h3, h4, h5, f, hf, he⟩ := h
  refine ⟨by rw [tokCs_snoc, List.length_append]; exact ho, ht, hb, h4, by rw [List.length_append]; show ts.length + 1 ≤ k'; omega, ?_⟩
  cases f with
  | zero => omega
  | succ f =>
    refine ⟨f, by omega, ?_⟩
    rw [he]; simp only [cutl]; rw [if_neg (by omega), e, map_map']
    congr 1
    funext r
    simp
theorem CI.bad {s : ByteArray} {b k : Nat} {v : Value} {ts : List Tok} {w wr : World} (h : CI s b v k ts w wr) (hk : k < s.size) (e : cutAt s k = .bad) : cutl s s.size 0 = .error (1, k) := by
  obtain ⟨h1, h2, h3, h4, h5, f, hf, he⟩ := h
  cases f with
  | zero => omega
  | succ f => rw [he]; simp only [cutl]; rw [if_neg (by omega), e]; rfl
theorem CI.done {s : ByteArray} {b k : Nat} {v : Value} {ts : List Tok} {w wr : World} (h : CI s b v k ts w wr) (hk : s.size ≤ k) : cutl s s.size 0 = .ok (ts ++ [⟨0, ⟨#[]⟩, 0, s.size⟩]) := by
  obtain ⟨h1, h2, h3, h4, h5, f, hf, he⟩ := h
  cases f with
  | zero => rw [he]; rfl
  | succ f => rw [he]; simp only [cutl]; rw [if_pos hk]; rfl
/-- No blank begins there, and no remark. -/
def NB (c : UInt8) : Prop := (c == 32 || c == 10 || c == 9 || c == 13) = false ∧ (c == 35) = false
theorem nb_of {c : UInt8} (h : ((((c.toNat : Int) == 32) = false ∧ ((c.toNat : Int) == 10) = false) ∧ ((c.toNat : Int) == 9) = false) ∧ ((c.toNat : Int) == 13) = false) (h2 : ((c.toNat : Int) == 35) = false) : NB c := by
  obtain ⟨⟨⟨a, b⟩, d⟩, e⟩ := h
  refine ⟨?_, u8_not (k := 35) (by omega) h2⟩
  rw [show (c == 32) = false from u8_not (k := 32) (by omega) a, show (c == 10) = false from u8_not (k := 10) (by omega) b, show (c == 9) = false from u8_not (k := 9) (by omega) d, show (c == 13) = false from u8_not (k := 13) (by omega) e]; rfl
theorem cut_blank {s : ByteArray} {k : Nat} (hlt : k < s.size) (n : Nat) (hn : n = 32 ∨ n = 10 ∨ n = 9 ∨ n = 13) (h : (s[k].toNat : Int) = (n : Int)) : cutAt s k = .skip (k + 1) := by
  unfold cutAt
  have e : s[k] = UInt8.ofNat n := u8_of (by omega) (by simp [h])
  have : (s[k] == 32 || s[k] == 10 || s[k] == 9 || s[k] == 13) = true := by
    rw [e]
    rcases hn with rfl | rfl | rfl | rfl <;> decide
  simp only [getD_list s k hlt, this, if_true]
theorem cut_blanks {s : ByteArray} {k : Nat} (hlt : k < s.size) (h : ((((s[k].toNat : Int) == 32) = true ∨ ((s[k].toNat : Int) == 10) = true) ∨ ((s[k].toNat : Int) == 9) = true) ∨ ((s[k].toNat : Int) == 13) = true) : cutAt s k = .skip (k + 1) := by
  rcases h with ((h | h) | h) | h
  · exact cut_blank hlt 32 (.inl rfl) (beq_iff_eq.1 h)
  · exact cut_blank hlt 10 (.inr (.inl rfl)) (beq_iff_eq.1 h)
  · exact cut_blank hlt 9 (.inr (.inr (.inl rfl))) (beq_iff_eq.1 h)
  · exact cut_blank hlt 13 (.inr (.inr (.inr rfl))) (beq_iff_eq.1 h)
theorem cut_remark {s : ByteArray} {k : Nat} (hlt : k < s.size) (h : ((s[k].toNat : Int) == 35) = true) : cutAt s k = .skip (runTo (fun x => x != 10) s.data.toList k) ∧ k < runTo (fun x => x != 10) s.data.toList k := by
  have e : s[k] = UInt8.ofNat 35 := u8_of (by omega) h
  have hl : k < s.data.toList.length := by rw [← size_list]; exact hlt
  refine ⟨?_, ?_⟩
  · unfold cutAt
    simp only [getD_list s k hlt]
    rw [e]
    rfl
  · rw [runTo_step hl (by rw [← get_list s k hlt hl, e]; decide)]
    exact runTo_ge _ _ _
theorem cut_word {s : ByteArray} {k b : Nat} (hlt : k < s.size) (hn : NB s[k]) (hl : letter s[k] = true) (hb : b = runTo (fun x => letter x || digit x) s.data.toList k) : cutAt s k = .tok ⟨if isKey (s.extract k b) then 2 else 1, s.extract k b, 0, k⟩ b := by
  subst hb
  unfold cutAt
  simp only [getD_list s k hlt, hn.1, hn.2, hl, if_true]
  rfl
theorem word_lt {s : ByteArray} {k : Nat} (hlt : k < s.size) (f : UInt8 → Bool) (hl : f s[k] = true) : k < runTo f s.data.toList k := by
  have hl' : k < s.data.toList.length := by rw [← size_list]; exact hlt
  rw [runTo_step hl' (by rw [← get_list s k hlt hl']; exact hl)]
  exact runTo_ge _ _ _
theorem cut_digits {s : ByteArray} {k b : Nat} (hlt : k < s.size) (hn : NB s[k]) (hl : letter s[k] = false) (hd : digit s[k] = true) (hb : b = runTo digit s.data.toList k) :
    cutAt s k = match numv (s.extract k b).data.toList 0 with
      | none => .bad
      | some n => if b < s.data.toList.length && letter (s.data.toList.getD b 0) then .bad else .tok ⟨3, s.extract k b, n, k⟩ b := by
  subst hb
  unfold cutAt
  simp only [getD_list s k hlt, hn.1, hn.2, hl, hd, if_true]
  rfl
theorem cut_sign {s : ByteArray} {k n : Nat} (hlt : k < s.size) (hn : NB s[k]) (hl : letter s[k] = false) (hd : digit s[k] = false) (hb : n = signLen s.data.toList k) :
    cutAt s k = if n = 0 then .bad else .tok ⟨4, s.extract k (k + n), 0, k⟩ (k + n) := by
  subst hb
  unfold cutAt
  simp only [getD_list s k hlt, hn.1, hn.2, hl, hd]
  rfl
theorem runTo_all {f : UInt8 → Bool} {s : ByteArray} {k b : Nat} (hb : b = runTo f s.data.toList k) (j : Nat) (h : j < (s.extract k b).size) : f (s.extract k b)[j] = true := by
  have hj : j < (s.extract k b).data.toList.length := by rw [← size_list]; exact h
  rw [get_list _ j h hj]
  have e : (s.extract k b).data.toList = (s.data.toList.drop k).takeWhile f := by
    rw [extract_list, hb, runTo, Nat.add_sub_cancel_left]
    exact (List.prefix_iff_eq_take.1 (List.takeWhile_prefix f)).symm
  have hm : (s.extract k b).data.toList[j] ∈ (s.data.toList.drop k).takeWhile f := e ▸ List.getElem_mem hj
  exact List.all_eq_true.1 List.all_takeWhile _ hm
theorem gb_far {w w1 : World} {b : Option Nat} (h : w.grownBy w1 b) {p : Addr} (hp : w.heap.size ≤ p.block) (v : Value) : w.grownBy (w1.setCell p v) b :=
  ⟨h.os, h.tape, h.output, by simpa [World.setCell] using h.size, fun j hj hne => (Below.heap_setCell w1 p v j (by omega)).trans (h.block j hj hne)⟩
theorem KT.set {w : World} {b g : Nat} (h : KT w b) {cs : Array Value} {fr : Nat × Nat} (hg : w.heap[g]? = some (.cells cs TK fr)) (i : Nat) (v : Value) : KT (w.setCell ⟨g, i, none⟩ v) b := by
  refine h.kept (Below.heap_setCell w ⟨g, i, none⟩ v b ?_) fun m es clock hm => Below.heap_setCell w ⟨g, i, none⟩ v m ?_
  · rintro rfl
    rcases h with h | ⟨m, D, h, _⟩
    · rw [KT0, hg] at h
      injection h with h; injection h with _ h _
      exact absurd h (by decide)
    · rw [hg] at h
      injection h with h; injection h with _ h _
      exact absurd h (by decide)
  · rintro rfl
    rw [hg] at hm; cases hm
theorem KT.cellsB {w : World} {b : Nat} (h : KT w b) : ∃ cs, w.heap[b]? = some (.cells cs TT (0, 0)) := by
  rcases h with h | ⟨m, D, h, _⟩
  · exact ⟨_, h⟩
  · exact ⟨_, h⟩
/-- The row of signs is not the table. -/
theorem row_ne {w : World} {B b n : Nat} {v : Value} {xs : List Value} (h : w.ownsRow B TK 4 v n xs) (hk : KT w b) : v.ownBlock ≠ some b := by
  intro e
  rcases h.2 with ⟨rfl, _⟩ | ⟨g, cap, cur, rfl, _, hg, _⟩
  · cases e
  · obtain ⟨cs, hc⟩ := hk.cellsB
    injection e with e
    subst e
    rw [hg] at hc
    injection hc with hc; injection hc with _ hc _
    exact absurd hc (by decide)
theorem KT.grown {w w' : World} {B b n : Nat} {v : Value} {xs : List Value} (hk : KT w b) (h : w.ownsRow B TK 4 v n xs) (hg : w.grownBy w' v.ownBlock) : KT w' b := by
  obtain ⟨cs, hc⟩ := hk.cellsB
  refine hk.kept (hg.block b (lt_heap hc) (fun e => row_ne h hk e.symm)) fun m es clock hm => hg.block m (lt_heap hm) ?_
  intro e
  rcases h.2 with ⟨rfl, _⟩ | ⟨g, cap, cur, rfl, _, hg, _⟩
  · cases e
  · injection e with e
    subst e
    rw [hg] at hm; cases hm
/-- The table was asked, and new blocks were made. -/
theorem CI.asked {s : ByteArray} {b k : Nat} {v : Value} {ts : List Tok} {w wr w1 : World} (h : CI s b v k ts w wr) (hg : wr.grownBy w1 (some b)) (hk : KT w1 b) : CI s b v k ts w w1 :=
  ⟨h.own.kept hg (.inr (row_ne h.own h.kt)), hk, ⟨hg.os.trans h.bel.os, hg.tape.trans h.bel.tape, hg.output.trans h.bel.output, Nat.le_trans h.bel.size hg.size, fun i hi => (hg.block i (Nat.lt_of_lt_of_le hi h.bel.size) (fun e => by have := Option.some.inj e; have := h.hb; omega)).trans (h.bel.block i hi)⟩, h.hb, h.le, h.eq⟩
theorem KT.alloc {w : World} {b : Nat} (h : KT w b) (o : Obj) : KT (w.alloc o) b := by
  obtain ⟨cs, hc⟩ := h.cellsB
  exact h.kept (Below.heap_alloc _ _ _ (lt_heap hc)) fun m es clock hm => Below.heap_alloc _ _ _ (lt_heap hm)
theorem CI.alloc {s : ByteArray} {b k : Nat} {v : Value} {ts : List Tok} {w wr : World} (h : CI s b v k ts w wr) (o : Obj) : CI s b v k ts w (wr.alloc o) := h.asked (gb_alloc (gb_refl _ _) o) (h.kt.alloc o)
/-- A sign was appended. -/
theorem CI.put {s : ByteArray} {b k k' : Nat} {v v' : Value} {ts : List Tok} {t : Tok} {w wr w' : World} (h : CI s b v k ts w wr) (hk : k < s.size) (e : cutAt s k = .tok t k') (hlt : k < k')
    (ho : w'.ownsRow w.heap.size TK 4 v' (ts.length + 1) (tokCs ts ++ tokC t)) (hg : wr.grownBy w' v.ownBlock) : CI s b v' k' (ts ++ [t]) w w' :=
  h.tok hk e hlt ho (h.kt.grown h.own hg) ⟨hg.os.trans h.bel.os, hg.tape.trans h.bel.tape, hg.output.trans h.bel.output, Nat.le_trans h.bel.size hg.size, fun i hi => (hg.block i (Nat.lt_of_lt_of_le hi h.bel.size) (fun e => by have := (h.own.lt i e.symm).1; omega)).trans (h.bel.block i hi)⟩
theorem signLen_le (l : List UInt8) (a : Nat) (h : a < l.length) : a + signLen l a ≤ l.length := by
  unfold signLen
  simp only
  split
  · rename_i h1
    simp at h1
    omega
  · split <;> omega
theorem digit_range {c : UInt8} (h : digit c = true) : 48 ≤ c.toNat ∧ c.toNat ≤ 57 := by
  rw [digit_iff] at h
  have := of_decide_eq_true h
  omega
theorem news_at {w : World} {g : Nat} {cs : Array Value} {t : TypeId} (h : w.heap[g]? = some (.cells cs t (0, 0))) (j : Nat) (u : Value) (hj : cs.toList[j]? = some u) : w.cell? ((⟨g, 0, none⟩ : Addr).add j) = some u := by
  rw [show (⟨g, 0, none⟩ : Addr).add j = ⟨g, j, none⟩ by simp [Addr.add]; omega, blk_cell h j, ← Array.getElem?_toList]
  exact hj
theorem news_new {w : World} {g : Nat} {cs : Array Value} {t : TypeId} (h : g = w.heap.size) (j : Nat) (u : Value) (hj : cs.toList[j]? = some u) : (w.alloc (.cells cs t)).cell? ((⟨g, 0, none⟩ : Addr).add j) = some u := by
  subst h
  exact news_at (blk_new w (.cells cs t)) j u hj
theorem tok_one (t : Tok) : ∀ u ∈ tokC t, u.oneCell' = true := by
  intro u hu
  simp [tokC] at hu
  rcases hu with rfl | rfl | rfl | rfl <;> rfl
/-- What lex.Cut returns. -/
def CutPost (s : ByteArray) (w : World) (e : Ending) (w' : World) : Prop := Below w.heap.size w w' ∧ match cut s with
  | .ok ts => ∃ v, e = .returned (.tuple #[v, .nilIface]) ∧ w'.ownsRow w.heap.size TK 4 v ts.length (tokCs ts) ∧ ts.length ≤ s.size + 1
  | .error x => ∃ u, e = .returned (.tuple #[.slice none 0 0, u]) ∧ ErrV w' w.heap.size u x.1 x.2
set_option maxRecDepth 100000 in
set_option maxHeartbeats 4000000 in
theorem cut_calls (s : ByteArray) (w : World) : Calls Tryd.prog 27 #[.string s] w (CutPost s w) := by
  by_cases hs : 65536 < s.size
  · have HC : Hid (cut s = .error (6, 0)) := Lib.hid (by unfold cut; rw [if_pos hs])
    go_enter Tryd.func27, Tryd.ntmps27
    go_wp2_with (go_at_call 46; refine (wrap_calls 6 0 _).mono ?_; rintro e w1 ⟨rfl, rfl⟩)
    go_ret2
    refine ⟨(Below.refl _ _).alloc (Nat.le_refl _) _, ?_⟩
    rw [HC.out]
    exact ⟨_, rfl, w.heap.size, Nat.le_refl _, rfl, heap_alloc_new _ _⟩
  · have hs' : s.size ≤ 65536 := by omega
    obtain ⟨i0, hi, hz0, hz1, hz2⟩ := info_parts infoTK
    have HC : Hid (cut s = cutl s s.size 0) := Lib.hid (by unfold cut; rw [if_neg hs])
    go_enter Tryd.func27, Tryd.ntmps27
    go_wp2
    go_loopw [4, 6] (fun v i wr => ∃ (k : Nat) (ts : List Tok), k ≤ s.size ∧ i = .int .i64 k ∧ Hid (CI s w.heap.size v k ts w wr)) (fun _ i _ => s.size - (RowKit.intOf i).toNat)
    case atStart =>
      refine ⟨0, [], Nat.zero_le _, rfl, Lib.hid ⟨World.ownsRow_nil _ _ _ _, .inl (heap_alloc_new _ _), (Below.refl _ _).alloc (Nat.le_refl _) _, Nat.le_refl _, Nat.le_refl _, s.size, by omega, ?_⟩⟩
      show _ = Except.map (fun x => x) _
      cases cutl s s.size 0 <;> rfl
    case round =>
      obtain ⟨k, ts, hk, rfl, HK⟩ := hrel
      by_cases hlt : k < s.size
      · have HRN : Hid (∀ w : World, Calls Tryd.prog 47 #[.string s, .int .i64 k, .func (.func 48) #[] #[]] w fun e w' => e = .returned (.int .i64 (runTo (fun x => x != 10) s.data.toList k)) ∧ w = w') := Lib.hid fun w => run_nl s k hk hs' w
        have HLE : Hid (runTo (fun x => x != 10) s.data.toList k ≤ s.size) := Lib.hid (by rw [size_list]; exact runTo_le _ _ _ (by rw [← size_list]; exact hk))
        obtain ⟨r, hr⟩ : ∃ r, r = runTo (fun x => x != 10) s.data.toList k := ⟨_, rfl⟩
        rw [← hr] at HRN HLE
        have HR := Lib.hid hr
        clear hr
        go_wp2_with (go_at_call 47; refine (HRN.out _).mono ?_; rintro e w1 ⟨rfl, rfl⟩)
        iterate 4
          rename_i h
          exact ⟨⟨k + 1, ts, by omega, by go_num, Lib.hid (HK.out.skip hlt (cut_blanks hlt (by first | exact h | (have h : ((s[k].toNat : Int) == 13) = true := by first | exact h | (simpa using h); exact .inr h) | (simp [h]))) (by omega))⟩, by simp [RowKit.intOf]; omega⟩
        · rename_i h
          have hc := cut_remark hlt h
          rw [← HR.out] at hc
          have hle := HLE.out
          exact ⟨⟨r, ts, hle, rfl, Lib.hid (HK.out.skip hlt hc.1 hc.2)⟩, by simp [RowKit.intOf]; have := hc.2; omega⟩
        · rename_i hn h35 _ _ _ _
          have hnb : NB s[k] := nb_of hn h35
          have HNB := Lib.hid hnb
          clear hn h35 hnb
          refine (letter_byte (s[k]'hlt) _).mono ?_
          rintro e w1 ⟨rfl, rfl⟩
          cases hl : letter (s[k]'hlt)
          · have HLN := Lib.hid hl
            clear hl HRN HLE HR
            go_wp2_with fail
            refine (digit_byte (s[k]'hlt) _).mono ?_
            rintro e w1 ⟨rfl, rfl⟩
            cases hd : digit (s[k]'hlt)
            · obtain ⟨n, hn⟩ : ∃ n, n = signLen s.data.toList k := ⟨_, rfl⟩
              have hnl : k + n ≤ s.size := by rw [hn, size_list]; exact signLen_le _ _ (by rw [← size_list]; exact hlt)
              have HE := Lib.hid (cut_sign hlt HNB.out HLN.out hd hn)
              have HSG : Hid (∀ w : World, Calls Tryd.prog 54 #[.string s, .int .i64 k] w fun e w' => e = .returned (.string (s.extract k (k + n))) ∧ w = w') := Lib.hid fun w => by rw [hn]; exact sign_calls s k hlt hs' w
              obtain ⟨r, hr⟩ : ∃ r, r = s.extract k (k + n) := ⟨_, rfl⟩
              have hrs : r.size = n := by rw [hr]; simp; omega
              rw [← hr] at HE HSG
              clear hr hn hd
              by_cases hn0 : n = 0
              · have HB : Hid (cutAt s k = .bad) := Lib.hid (by rw [HE.out, if_pos hn0])
                obtain rfl : r = ⟨#[]⟩ := ByteArray.ext (Array.eq_empty_of_size_eq_zero (hrs.trans hn0))
                go_wp2_with (first | (go_at_call 54; refine (HSG.out _).mono ?_; rintro e w1 ⟨rfl, rfl⟩) | (go_at_call 46; refine (wrap_calls 1 k _).mono ?_; rintro e w1 ⟨rfl, rfl⟩))
                go_ret2
                refine ⟨(HK.out.alloc _).bel, ?_⟩
                rw [HC.out, HK.out.bad hlt HB.out]
                exact ⟨_, rfl, wr.heap.size, HK.out.bel.size, rfl, heap_alloc_new _ _⟩
              · have HB : Hid (cutAt s k = .tok ⟨4, r, 0, k⟩ (k + n)) := Lib.hid (by rw [HE.out, if_neg hn0])
                have hrl : r.toList.isEmpty = false := by
                  cases h : r.toList with
                  | nil =>
                    rw [Lib.toList_data] at h
                    have h2 : r.size = 0 := by rw [size_list, h]; rfl
                    omega
                  | cons c l => rfl
                clear HE
                go_wp2_with (first | (go_at_call 54; refine (HSG.out _).mono ?_; rintro e w1 ⟨rfl, rfl⟩) | (at_builtin; refine wpList_append_own _ rfl _ _ 77 rfl w.heap.size TK i0 (.agg #[.int .i64 0, .string ByteArray.empty, .int .u64 0, .int .i64 0]) 4 40 Tryd.underlying77 hi hz0 hz1 hz2 rfl (by decide) _ _ _ rfl (HK.out.own.alloc _) ⟨wr.heap.size, 0, none⟩ 1 1 (tokC ⟨4, r, 0, k⟩) rfl rfl (news_new (by simp)) (tok_one _) (by have := HK.out.le; unfold maxLen; omega) (by have := HK.out.le; omega) (Nat.le_trans HK.out.bel.size (by simp)) ?_; intro v' w5 hown' hgrow hnil))
                refine ⟨⟨k + n, ts ++ [⟨4, r, 0, k⟩], hnl, by go_num, Lib.hid ((HK.out.alloc _).put hlt HB.out (by omega) hown' hgrow)⟩, by simp [RowKit.intOf]; omega⟩
            · obtain ⟨b, hb⟩ : ∃ b, b = runTo digit s.data.toList k := ⟨_, rfl⟩
              have hkb : k < b := by rw [hb]; exact word_lt hlt _ hd
              have hbs : b ≤ s.size := by rw [hb, size_list]; exact runTo_le _ _ _ (by rw [← size_list]; exact hk)
              have HE := Lib.hid (cut_digits hlt HNB.out HLN.out hd hb)
              have HRW : Hid (∀ w : World, Calls Tryd.prog 47 #[.string s, .int .i64 k, .func (.func 51) #[] #[]] w fun e w' => e = .returned (.int .i64 b) ∧ w = w') := Lib.hid fun w => by rw [hb]; exact run_digit s k hk hs' w
              have hsx : (s.extract k b).size ≤ 65536 := by simp; omega
              have HNM : Hid (∀ w : World, Calls Tryd.prog 53 #[.string (s.extract k b)] w fun e w' => e = .returned (numR (numv (s.extract k b).data.toList 0)) ∧ w = w') := Lib.hid fun w => number_calls (s.extract k b) hsx (fun j h => digit_range (runTo_all hb j h)) w
              clear hb hd hsx
              cases hv : numv (s.extract k b).data.toList 0 with
              | none =>
                rw [hv] at HE HNM
                simp only [numR] at HNM
                have HB : Hid (cutAt s k = .bad) := Lib.hid HE.out
                clear hv
                go_wp2_with (first | (go_at_call 47; refine (HRW.out _).mono ?_; rintro e w1 ⟨rfl, rfl⟩) | (go_at_call 53; refine (HNM.out _).mono ?_; rintro e w1 ⟨rfl, rfl⟩) | (go_at_call 46; refine (wrap_calls 1 k _).mono ?_; rintro e w1 ⟨rfl, rfl⟩))
                go_ret2
                refine ⟨(HK.out.alloc _).bel, ?_⟩
                rw [HC.out, HK.out.bad hlt HB.out]
                exact ⟨_, rfl, wr.heap.size, HK.out.bel.size, rfl, heap_alloc_new _ _⟩
              | some n =>
                rw [hv] at HE HNM
                simp only [numR] at HNM
                clear hv
                by_cases hbl : b < s.size
                · go_wp2_with (first | (go_at_call 47; refine (HRW.out _).mono ?_; rintro e w1 ⟨rfl, rfl⟩) | (go_at_call 53; refine (HNM.out _).mono ?_; rintro e w1 ⟨rfl, rfl⟩))
                  refine (letter_byte (s[b]'hbl) _).mono ?_
                  rintro e w1 ⟨rfl, rfl⟩
                  cases hl2 : letter (s[b]'hbl)
                  · have HB : Hid (cutAt s k = .tok ⟨3, s.extract k b, n, k⟩ b) := Lib.hid (by rw [HE.out, getD_list s b hbl, hl2, Bool.and_false]; rfl)
                    clear HE hl2
                    go_wp2_with (at_builtin; refine wpList_append_own _ rfl _ _ 77 rfl w.heap.size TK i0 (.agg #[.int .i64 0, .string ByteArray.empty, .int .u64 0, .int .i64 0]) 4 40 Tryd.underlying77 hi hz0 hz1 hz2 rfl (by decide) _ _ _ rfl (HK.out.own.alloc _) ⟨wr.heap.size, 0, none⟩ 1 1 (tokC ⟨3, s.extract k b, n, k⟩) rfl rfl (news_new (by simp)) (tok_one _) (by have := HK.out.le; unfold maxLen; omega) (by have := HK.out.le; omega) (Nat.le_trans HK.out.bel.size (by simp)) ?_; intro v' w5 hown' hgrow hnil)
                    refine ⟨⟨b, ts ++ [⟨3, s.extract k b, n, k⟩], hbs, rfl, Lib.hid ((HK.out.alloc _).put hlt HB.out hkb hown' hgrow)⟩, by simp [RowKit.intOf]; omega⟩
                  · have HB : Hid (cutAt s k = .bad) := Lib.hid (by rw [HE.out, getD_list s b hbl, hl2, Bool.and_true, ← size_list]; simp [hbl])
                    clear HE hl2
                    go_wp2_with (go_at_call 46; refine (wrap_calls 1 k _).mono ?_; rintro e w1 ⟨rfl, rfl⟩)
                    go_ret2
                    refine ⟨(HK.out.alloc _).bel, ?_⟩
                    rw [HC.out, HK.out.bad hlt HB.out]
                    exact ⟨_, rfl, wr.heap.size, HK.out.bel.size, rfl, heap_alloc_new _ _⟩
                · have HB : Hid (cutAt s k = .tok ⟨3, s.extract k b, n, k⟩ b) := Lib.hid (by rw [HE.out, ← size_list]; simp [hbl])
                  clear HE
                  go_wp2_with (first | (go_at_call 47; refine (HRW.out _).mono ?_; rintro e w1 ⟨rfl, rfl⟩) | (go_at_call 53; refine (HNM.out _).mono ?_; rintro e w1 ⟨rfl, rfl⟩) | (at_builtin; refine wpList_append_own _ rfl _ _ 77 rfl w.heap.size TK i0 (.agg #[.int .i64 0, .string ByteArray.empty, .int .u64 0, .int .i64 0]) 4 40 Tryd.underlying77 hi hz0 hz1 hz2 rfl (by decide) _ _ _ rfl (HK.out.own.alloc _) ⟨wr.heap.size, 0, none⟩ 1 1 (tokC ⟨3, s.extract k b, n, k⟩) rfl rfl (news_new (by simp)) (tok_one _) (by have := HK.out.le; unfold maxLen; omega) (by have := HK.out.le; omega) (Nat.le_trans HK.out.bel.size (by simp)) ?_; intro v' w5 hown' hgrow hnil))
                  refine ⟨⟨b, ts ++ [⟨3, s.extract k b, n, k⟩], hbs, rfl, Lib.hid ((HK.out.alloc _).put hlt HB.out hkb hown' hgrow)⟩, by simp [RowKit.intOf]; omega⟩
          · obtain ⟨b, hb⟩ : ∃ b, b = runTo (fun x => letter x || digit x) s.data.toList k := ⟨_, rfl⟩
            have hkb : k < b := by rw [hb]; exact word_lt hlt _ (by rw [hl]; rfl)
            have hbs : b ≤ s.size := by rw [hb, size_list]; exact runTo_le _ _ _ (by rw [← size_list]; exact hk)
            have HE := Lib.hid (cut_word hlt HNB.out hl hb)
            have HRW : Hid (∀ w : World, Calls Tryd.prog 47 #[.string s, .int .i64 k, .func (.func 50) #[] #[]] w fun e w' => e = .returned (.int .i64 b) ∧ w = w') := Lib.hid fun w => by rw [hb]; exact run_word s k hk hs' w
            clear hb hl HRN HLE HR
            have hsx : (s.extract k b).size ≤ 65536 := by simp; omega
            have HSX := Lib.hid hsx
            clear hsx
            go_wp2_with (go_at_call 47; refine (HRW.out _).mono ?_; rintro e w1 ⟨rfl, rfl⟩)
            refine (key_calls w.heap.size (s.extract k b) HSX.out _ (HK.out.kt.alloc _)).mono ?_
            rintro e w2 ⟨rfl, hkt, hgb⟩
            have hbl : w.heap.size < wr.heap.size := by
              obtain ⟨cs, hc⟩ := HK.out.kt.cellsB
              exact lt_heap hc
            have HB2 : Hid (w2.heap[wr.heap.size]? = some (.cells #[.int .i64 1, .string (s.extract k b), .int .u64 0, .int .i64 k] TK (0, 0))) := Lib.hid (blk_grown (blk_new _ _) hgb (fun e => by have := Option.some.inj e; omega))
            have HG2 := Lib.hid (gb_trans (gb_alloc (gb_refl wr _) _) hgb)
            have HT2 := Lib.hid hkt
            clear hgb hkt
            cases hkey : isKey (s.extract k b)
            · have HE2 : Hid (cutAt s k = .tok ⟨1, s.extract k b, 0, k⟩ b) := Lib.hid (by rw [HE.out, hkey]; rfl)
              have HK2 := Lib.hid (HK.out.asked HG2.out HT2.out)
              have c0 : w2.cell? ⟨wr.heap.size, 0, none⟩ = some (.int .i64 1) := (blk_cell HB2.out 0).trans rfl
              have c1 : w2.cell? ⟨wr.heap.size, 1, none⟩ = some (.string (s.extract k b)) := (blk_cell HB2.out 1).trans rfl
              have c2 : w2.cell? ⟨wr.heap.size, 2, none⟩ = some (.int .u64 0) := (blk_cell HB2.out 2).trans rfl
              have c3 : w2.cell? ⟨wr.heap.size, 3, none⟩ = some (.int .i64 k) := (blk_cell HB2.out 3).trans rfl
              clear hkey HE HK
              go_wp2_with (at_builtin; refine wpList_append_own _ rfl _ _ 77 rfl w.heap.size TK i0 (.agg #[.int .i64 0, .string ByteArray.empty, .int .u64 0, .int .i64 0]) 4 40 Tryd.underlying77 hi hz0 hz1 hz2 rfl (by decide) _ _ _ rfl (HK2.out.own.alloc _) ⟨w2.heap.size, 0, none⟩ 1 1 (tokC ⟨1, s.extract k b, 0, k⟩) rfl rfl (news_new (by simp)) (tok_one _) (by have := HK2.out.le; unfold maxLen; omega) (by have := HK2.out.le; omega) (Nat.le_trans HK2.out.bel.size (by simp)) ?_; intro v' w5 hown' hgrow hnil)
              refine ⟨⟨b, ts ++ [⟨1, s.extract k b, 0, k⟩], hbs, rfl, Lib.hid ((HK2.out.alloc _).put hlt HE2.out hkb hown' hgrow)⟩, by simp [RowKit.intOf]; omega⟩
            · have HE2 : Hid (cutAt s k = .tok ⟨2, s.extract k b, 0, k⟩ b) := Lib.hid (by rw [HE.out, hkey]; rfl)
              have HK2 : Hid (CI s w.heap.size u4 k ts w (w2.setCell ⟨wr.heap.size, 0, none⟩ (.int .i64 2))) := Lib.hid (HK.out.asked (gb_far HG2.out (Nat.le_refl _) _) (HT2.out.set HB2.out 0 _))
              have c0 : w2.cell? ⟨wr.heap.size, 0, none⟩ = some (.int .i64 1) := (blk_cell HB2.out 0).trans rfl
              have c1 : w2.cell? ⟨wr.heap.size, 1, none⟩ = some (.string (s.extract k b)) := (blk_cell HB2.out 1).trans rfl
              have c2 : w2.cell? ⟨wr.heap.size, 2, none⟩ = some (.int .u64 0) := (blk_cell HB2.out 2).trans rfl
              have c3 : w2.cell? ⟨wr.heap.size, 3, none⟩ = some (.int .i64 k) := (blk_cell HB2.out 3).trans rfl
              have f0 : w2.frozen? ⟨wr.heap.size, 0, none⟩ = false := blk_frozen HB2.out 0
              clear hkey HE HK
              go_wp2_with (at_builtin; refine wpList_append_own _ rfl _ _ 77 rfl w.heap.size TK i0 (.agg #[.int .i64 0, .string ByteArray.empty, .int .u64 0, .int .i64 0]) 4 40 Tryd.underlying77 hi hz0 hz1 hz2 rfl (by decide) _ _ _ rfl (HK2.out.own.alloc _) ⟨w2.heap.size, 0, none⟩ 1 1 (tokC ⟨2, s.extract k b, 0, k⟩) rfl rfl (news_new (by simp)) (tok_one _) (by have := HK2.out.le; unfold maxLen; omega) (by have := HK2.out.le; omega) (Nat.le_trans HK2.out.bel.size (by simp)) ?_; intro v' w5 hown' hgrow hnil)
              refine ⟨⟨b, ts ++ [⟨2, s.extract k b, 0, k⟩], hbs, rfl, Lib.hid ((HK2.out.alloc _).put hlt HE2.out hkb hown' hgrow)⟩, by simp [RowKit.intOf]; omega⟩
      · have hcl := HK.out.done (by omega)
        have HD := Lib.hid hcl
        clear hcl
        go_wp2_with (at_builtin; refine wpList_append_own _ rfl _ _ 77 rfl w.heap.size TK i0 (.agg #[.int .i64 0, .string ByteArray.empty, .int .u64 0, .int .i64 0]) 4 40 Tryd.underlying77 hi hz0 hz1 hz2 rfl (by decide) _ _ _ rfl (HK.out.own.alloc _) ⟨wr.heap.size, 0, none⟩ 1 1 (tokC ⟨0, ⟨#[]⟩, 0, s.size⟩) rfl rfl (news_new (by simp)) (tok_one _) (by have := HK.out.le; unfold maxLen; omega) (by have := HK.out.le; omega) (Nat.le_trans HK.out.bel.size (by simp)) ?_; intro v' w5 hown' hgrow hnil)
        go_ret2
        have hb := ((HK.out.alloc _).bel.trans ⟨hgrow.os, hgrow.tape, hgrow.output, hgrow.size, fun i hi => hgrow.block i (by have := HK.out.bel.size; simp; omega) (fun e => by have := (HK.out.own.lt i e.symm).1; omega)⟩ : Below w.heap.size w w5)
        refine ⟨hb, ?_⟩
        rw [HC.out, HD.out]
        refine ⟨v', rfl, ?_, ?_⟩
        · rw [tokCs_snoc, List.length_append]; exact hown'
        · rw [List.length_append]; have := HK.out.le; show ts.length + 1 ≤ _; omega
end Go.Proofs.YtcdgjgoplogiiaaDoor.PT
