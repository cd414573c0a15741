/- The parser in memory; its small functions. -/
import Derived.Test.YtcdgjgoplogiiaaDoorCut
import Derived.RegionTactic
import Derived.BigRegion
import Derived.Deep.RegionWith
namespace Go.Proofs.YtcdgjgoplogiiaaDoor.PT
open Go.RowKit Go.Lib
set_option linter.unusedVariables false
set_option linter.unusedSimpArgs false
abbrev TP : TypeId := 82
abbrev tokV (t : Tok) : Value := .agg #[.int .i64 t.k, .string t.s, .int .u64 t.v, .int .i64 t.p]
theorem tokCs_at (ts : List Tok) (i : Nat) (t : Tok) (h : ts[i]? = some t) (m : Nat) (hm : m < 4) : (tokCs ts)[i * 4 + m]? = (tokC t)[m]? := by
  induction ts generalizing i with
  | nil => simp at h
  | cons x r ih =>
    rw [show tokCs (x :: r) = tokC x ++ tokCs r from rfl]
    cases i with
    | zero =>
      simp at h
      subst h
      rw [List.getElem?_append_left (by show 0 * 4 + m < 4; omega)]
      congr 1; omega
    | succ i =>
      rw [List.getElem?_append_right (by show 4 ≤ _; omega), show (i + 1) * 4 + m - (tokC x).length = i * 4 + m by show _ - 4 = _; omega]
      exact ih i (by simpa using h)
/-- The signs of a text: the last alone is the end. -/
structure Toks (ts : List Tok) : Prop where
  len : ts.length ≤ 65537
  nxt : ∀ i t, ts[i]? = some t → t.k ≠ 0 → i + 1 < ts.length
  sz : ∀ t ∈ ts, t.k ≤ 4 ∧ t.s.size ≤ 65536 ∧ t.p ≤ 65536 ∧ t.v < 18446744073709551616
/-- An error, or none. -/
def EO (w : World) (e : Option (Nat × Nat)) (v : Value) : Prop := match e with
  | none => v = .nilIface
  | some x => ErrV w 0 v x.1 x.2
/-- The parser in block b; its signs in block g. -/
structure PM (w : World) (b g c : Nat) (ts : List Tok) (q : PS) (dp : Nat) : Prop where
  blk : ∃ ev, w.heap[b]? = some (.cells #[.slice (some ⟨g, 0, none⟩) ts.length c, .int .i64 q.i, ev, .int .i64 dp] TP (0, 0)) ∧ EO w q.e ev
  row : Row w TK g (tokCs ts)
  cap : ts.length ≤ c ∧ c ≤ maxLen
  at' : q.i < ts.length
theorem PM.lt {w : World} {b g c : Nat} {ts : List Tok} {q : PS} {dp : Nat} (h : PM w b g c ts q dp) : b < w.heap.size := by
  obtain ⟨⟨ev, h1, _⟩, _⟩ := h
  exact lt_heap h1
theorem PM.gne {w : World} {b g c : Nat} {ts : List Tok} {q : PS} {dp : Nat} (h : PM w b g c ts q dp) : g ≠ b := by
  obtain ⟨⟨ev, h1, _⟩, ⟨cur, h2, _⟩, _⟩ := h
  rintro rfl
  rw [h1] at h2
  injection h2 with h2; injection h2 with _ h2 _
  exact absurd h2 (by decide)
theorem ErrV.ne {w : World} {b g c : Nat} {ts : List Tok} {q : PS} {dp : Nat} (h : PM w b g c ts q dp) {B n p : Nat} {v : Value} (he : ErrV w B v n p) : ∃ g', g' ≠ b ∧ g' < w.heap.size ∧ B ≤ g' ∧ v = .iface 106 (.pointer (some ⟨g', 0, none⟩)) ∧ w.heap[g']? = some (.cells #[.int .i64 p, .iface 51 (.int .i64 n)] TF (0, 0)) := by
  obtain ⟨g', h1, h2, h3⟩ := he
  refine ⟨g', ?_, lt_heap h3, h1, h2, h3⟩
  rintro rfl
  obtain ⟨⟨ev, h4, _⟩, _⟩ := h
  rw [h3] at h4
  injection h4 with h4; injection h4 with _ h4 _
  exact absurd h4 (by decide)
/-- The parser's block stayed, and so did what else there was. -/
theorem PM.keep {w w' : World} {b g c : Nat} {ts : List Tok} {q : PS} {dp : Nat} (h : PM w b g c ts q dp) (hk : ∀ i, i < w.heap.size → w'.heap[i]? = w.heap[i]?) : PM w' b g c ts q dp := by
  obtain ⟨⟨ev, h1, he⟩, h2, h3, h4⟩ := h
  refine ⟨⟨ev, (hk b (lt_heap h1)).trans h1, ?_⟩, h2.same (hk g h2.lt), h3, h4⟩
  unfold EO at he ⊢
  split
  · rename_i e; rw [e] at he; exact he
  · rename_i x e; rw [e] at he
    obtain ⟨g', a1, a2, a3⟩ := he
    exact ⟨g', a1, a2, (hk g' (lt_heap a3)).trans a3⟩
theorem PM.alloc {w : World} {b g c : Nat} {ts : List Tok} {q : PS} {dp : Nat} (h : PM w b g c ts q dp) (o : Obj) : PM (w.alloc o) b g c ts q dp := h.keep fun i hi => Below.heap_alloc _ _ _ hi
/-- What is known of the sign where it stands. -/
theorem PM.tok {w : World} {b g c : Nat} {ts : List Tok} {q : PS} {dp : Nat} (h : PM w b g c ts q dp) : ∃ t, ts[q.i]? = some t ∧ tokAt ts q = t ∧ w.cell? ⟨g, q.i * 4, none⟩ = some (.int .i64 t.k) ∧ w.cell? ⟨g, q.i * 4 + 1, none⟩ = some (.string t.s) ∧ w.cell? ⟨g, q.i * 4 + 2, none⟩ = some (.int .u64 t.v) ∧ w.cell? ⟨g, q.i * 4 + 3, none⟩ = some (.int .i64 t.p) := by
  have hi := h.at'
  have e : ts[q.i]? = some ts[q.i] := List.getElem?_eq_getElem hi
  refine ⟨ts[q.i], e, by rw [tokAt, List.getD_eq_getElem?_getD, e]; rfl, h.row.cell ?_, h.row.cell ?_, h.row.cell ?_, h.row.cell ?_⟩
  · exact (tokCs_at ts q.i _ e 0 (by omega)).trans rfl
  · exact (tokCs_at ts q.i _ e 1 (by omega)).trans rfl
  · exact (tokCs_at ts q.i _ e 2 (by omega)).trans rfl
  · exact (tokCs_at ts q.i _ e 3 (by omega)).trans rfl
set_option maxRecDepth 100000 in
set_option maxHeartbeats 2000000 in
theorem next_calls (b g c : Nat) (ts : List Tok) (q : PS) (dp : Nat) (hts : Toks ts) (w : World) (h : PM w b g c ts q dp) :
    Calls Tryd.prog 31 #[.pointer (some ⟨b, 0, none⟩)] w fun e w' => e = .returned (tokV (nxt ts q)) ∧ Below w.heap.size w w' := by
  obtain ⟨t, h1, h2, c0, c1, c2, c3⟩ := h.tok
  obtain ⟨⟨ev, hb, he⟩, hr, hc, hi⟩ := h
  obtain ⟨i, e⟩ := q
  have d0 : w.cell? ⟨b, 0, none⟩ = some (.slice (some ⟨g, 0, none⟩) ts.length c) := (blk_cell hb 0).trans rfl
  have d1 : w.cell? ⟨b, 1, none⟩ = some (.int .i64 i) := (blk_cell hb 1).trans rfl
  have d2 : w.cell? ⟨b, 2, none⟩ = some ev := (blk_cell hb 2).trans rfl
  have hlen := hts.len
  have hi' : i < ts.length := hi
  have H1 := Lib.hid h2
  have HT := Lib.hid hts
  have hbl := lt_heap hb
  have hgl := hr.lt
  clear h1 h2 hb hr hts hi
  cases e with
  | none =>
    obtain rfl : ev = .nilIface := he
    go_enter Tryd.func31, Tryd.ntmps31
    go_wp2
    go_region
    go_wp2
    have e1 : nxt ts ⟨i, none⟩ = t := H1.out
    refine bodyPost_ret (v := tokV t) (by simp [results, Tryd.results31, go_sem]) rfl ?_
    exact ⟨by rw [e1], ((Below.refl w.heap.size w).alloc (Nat.le_refl _) _).drew⟩
  | some x =>
    obtain ⟨g', _, rfl, _⟩ := he
    go_enter Tryd.func31, Tryd.ntmps31
    go_wp2
    go_region
    go_wp2
    refine bodyPost_ret (v := tokV ⟨0, ⟨#[]⟩, 0, t.p⟩) (by simp [results, Tryd.results31, go_sem]) rfl ?_
    have e1 : nxt ts ⟨i, some x⟩ = ⟨0, ⟨#[]⟩, 0, t.p⟩ := by
      have := H1.out
      show (⟨0, ⟨#[]⟩, 0, (tokAt ts ⟨i, some x⟩).p⟩ : Tok) = _
      rw [this]
    exact ⟨by rw [e1], ((Below.refl w.heap.size w).alloc (Nat.le_refl _) _).drew⟩
theorem gb_below {w w' : World} (h : Below w.heap.size w w') (b : Option Nat) : w.grownBy w' b := ⟨h.os, h.tape, h.output, h.size, fun i hi _ => h.block i hi⟩
theorem PM.below {w w' : World} {b g c : Nat} {ts : List Tok} {q : PS} {dp : Nat} (h : PM w b g c ts q dp) (hb : Below w.heap.size w w') : PM w' b g c ts q dp := h.keep fun i hi => hb.block i hi
/-- The parser stands elsewhere; besides its own block nothing has changed. -/
def PT (w : World) (b g c : Nat) (ts : List Tok) (q : PS) (dp : Nat) (w' : World) : Prop := PM w' b g c ts q dp ∧ w.grownBy w' (some b)
set_option maxRecDepth 100000 in
set_option maxHeartbeats 2000000 in
theorem fail_calls (b g c : Nat) (ts : List Tok) (q : PS) (dp n : Nat) (hts : Toks ts) (w : World) (h : PM w b g c ts q dp) :
    Calls Tryd.prog 29 #[.pointer (some ⟨b, 0, none⟩), .int .i64 n] w fun e w' => e = .returned (.tuple #[]) ∧ PT w b g c ts (failp ts n q) dp w' := by
  have HM := Lib.hid h
  obtain ⟨t, h1, h2, c0, c1, c2, c3⟩ := h.tok
  obtain ⟨⟨ev, hb, he⟩, hr, hc, hi⟩ := h
  obtain ⟨i, e⟩ := q
  have d0 : w.cell? ⟨b, 0, none⟩ = some (.slice (some ⟨g, 0, none⟩) ts.length c) := (blk_cell hb 0).trans rfl
  have d1 : w.cell? ⟨b, 1, none⟩ = some (.int .i64 i) := (blk_cell hb 1).trans rfl
  have d2 : w.cell? ⟨b, 2, none⟩ = some ev := (blk_cell hb 2).trans rfl
  have f2 : w.frozen? ⟨b, 2, none⟩ = false := blk_frozen hb 2
  have hlen := hts.len
  have hi' : i < ts.length := hi
  have H1 := Lib.hid h2
  have HT := Lib.hid hts
  have HB := Lib.hid hb
  have HR := Lib.hid hr
  have hbl := lt_heap hb
  have hgl := hr.lt
  clear h1 h2 hb hr hts hi
  cases e with
  | none =>
    obtain rfl : ev = .nilIface := he
    go_enter Tryd.func29, Tryd.ntmps29
    go_wp2
    go_region_with (go_at_call 46; refine (wrap_calls n t.p _).mono ?_; rintro e w1 ⟨rfl, rfl⟩)
    all_goals
      go_end0
      refine ⟨rfl, ?_, ?_⟩
      · have e1 : failp ts n ⟨i, none⟩ = ⟨i, some (n, t.p)⟩ := by
          have := H1.out
          show (⟨i, some (n, (tokAt ts ⟨i, none⟩).p)⟩ : PS) = _
          rw [this]
        rw [e1]
        have hne := HM.out.gne
        refine PM.keep (w := (w.setCell ⟨b, 2, none⟩ (.iface 106 (.pointer (some ⟨w.heap.size, 0, none⟩)))).alloc (.cells #[.int .i64 t.p, .iface 51 (.int .i64 n)] TF)) ⟨⟨.iface 106 (.pointer (some ⟨w.heap.size, 0, none⟩)), blk_alloc (blk_put HB.out 2 _ rfl) _, w.heap.size, Nat.zero_le _, rfl, ?_⟩, HR.out.same ?_, hc, hi'⟩ (fun j hj => rfl)
        · have := heap_alloc_new (w.setCell ⟨b, 2, none⟩ (.iface 106 (.pointer (some ⟨w.heap.size, 0, none⟩)))) (.cells #[.int .i64 t.p, .iface 51 (.int .i64 n)] TF)
          simpa using this
        · exact (Below.heap_alloc _ _ _ (by simpa [World.setCell] using hgl)).trans (Below.heap_setCell w ⟨b, 2, none⟩ _ g hne)
      · exact gb_drew (gb_alloc (gb_set (gb_refl _ _) 2 _) _)
  | some x =>
    obtain ⟨g', _, rfl, _⟩ := he
    go_enter Tryd.func29, Tryd.ntmps29
    go_wp2
    go_end0
    exact ⟨rfl, HM.out, gb_refl _ _⟩
theorem PM.atc {w : World} {b g c : Nat} {ts : List Tok} {q : PS} {dp : Nat} (h : PM w b g c ts q dp) : w.cell? ⟨b, 1, none⟩ = some (.int .i64 q.i) ∧ w.frozen? ⟨b, 1, none⟩ = false := by
  obtain ⟨⟨ev, hb, he⟩, _⟩ := h
  exact ⟨(blk_cell hb 1).trans rfl, blk_frozen hb 1⟩
theorem PM.deepc {w : World} {b g c : Nat} {ts : List Tok} {q : PS} {dp : Nat} (h : PM w b g c ts q dp) : w.cell? ⟨b, 3, none⟩ = some (.int .i64 dp) ∧ w.frozen? ⟨b, 3, none⟩ = false := by
  obtain ⟨⟨ev, hb, he⟩, _⟩ := h
  exact ⟨(blk_cell hb 3).trans rfl, blk_frozen hb 3⟩
theorem PM.put {w : World} {b g c : Nat} {ts : List Tok} {q : PS} {dp : Nat} (h : PM w b g c ts q dp) (i' dp' k : Nat) (v : Value) (hk : (k = 1 ∧ v = .int .i64 i' ∧ dp' = dp) ∨ (k = 3 ∧ v = .int .i64 dp' ∧ i' = q.i)) (hi : i' < ts.length) : PM (w.setCell ⟨b, k, none⟩ v) b g c ts ⟨i', q.e⟩ dp' := by
  have hne := h.gne
  have hEO : ∀ ev, EO w q.e ev → EO (w.setCell ⟨b, k, none⟩ v) q.e ev := by
    intro ev he
    unfold EO at he ⊢
    split
    · rename_i e; rw [e] at he; exact he
    · rename_i x e
      rw [e] at he
      obtain ⟨g', a1, a2, a3, a4, a5⟩ := ErrV.ne h he
      exact ⟨g', a3, a4, (Below.heap_setCell _ _ _ _ a1).trans a5⟩
  obtain ⟨⟨ev, hb, he⟩, hr, hc, hi0⟩ := h
  refine ⟨⟨ev, ?_, hEO ev he⟩, hr.same (Below.heap_setCell _ _ _ _ hne), hc, hi⟩
  rcases hk with ⟨rfl, rfl, rfl⟩ | ⟨rfl, rfl, rfl⟩
  · exact blk_put hb 1 _ rfl
  · exact blk_put hb 3 _ rfl
theorem mem_nxt {ts : List Tok} {q : PS} (hts : Toks ts) (hi : q.i < ts.length) : (nxt ts q).k ≤ 4 ∧ (nxt ts q).s.size ≤ 65536 ∧ (nxt ts q).p ≤ 65536 ∧ (nxt ts q).v < 18446744073709551616 := by
  have hm : tokAt ts q ∈ ts := by
    rw [tokAt, List.getD_eq_getElem?_getD, List.getElem?_eq_getElem hi]
    exact List.getElem_mem hi
  obtain ⟨h1, h2, h3, h4⟩ := hts.sz _ hm
  obtain ⟨i, e⟩ := q
  cases e with
  | none => exact ⟨h1, h2, h3, h4⟩
  | some x => exact ⟨Nat.zero_le _, Nat.zero_le _, h3, by show 0 < _; omega⟩
/-- Where something stands, it may go on. -/
theorem adv_lt {ts : List Tok} {q : PS} (hts : Toks ts) (hi : q.i < ts.length) (h : (nxt ts q).k ≠ 0) : q.i + 1 < ts.length := by
  obtain ⟨i, e⟩ := q
  cases e with
  | none =>
    refine hts.nxt i _ (List.getElem?_eq_getElem hi) ?_
    have e1 : nxt ts ⟨i, none⟩ = ts[i] := by
      show tokAt ts ⟨i, none⟩ = _
      rw [tokAt, List.getD_eq_getElem?_getD, List.getElem?_eq_getElem hi]; rfl
    rw [← e1]; exact h
  | some x => exact absurd rfl h
set_option maxRecDepth 100000 in
set_option maxHeartbeats 2000000 in
theorem is_calls (b g c : Nat) (ts : List Tok) (q : PS) (dp : Nat) (hts : Toks ts) (x : ByteArray) (w : World) (h : PM w b g c ts q dp) :
    Calls Tryd.prog 28 #[.pointer (some ⟨b, 0, none⟩), .string x] w fun e w' => e = .returned (.bool (isp ts x q)) ∧ Below w.heap.size w w' := by
  obtain ⟨t, ht⟩ : ∃ t, t = nxt ts q := ⟨_, rfl⟩
  have hn := next_calls b g c ts q dp hts w h
  have hres : isp ts x q = ((t.k == 4 || t.k == 2) && beq t.s x) := by rw [ht]; rfl
  rw [← ht] at hn
  rw [hres]
  have HN := Lib.hid hn
  clear ht hn hres h hts
  go_enter Tryd.func28, Tryd.ntmps28
  go_wp2_with (go_at_call 31; refine HN.out.mono ?_; rintro e w1 ⟨rfl, hb1⟩; have HB1 := Lib.hid hb1; clear hb1)
  all_goals go_ret
  all_goals refine ⟨?_, HB1.out.alloc HB1.out.size _⟩
  all_goals simp only [beq, Lib.toList_data]
  · rename_i h
    have h4 : t.k = 4 := by omega
    rw [h4]; rfl
  · rename_i h
    have h4 : t.k = 2 := by omega
    rw [h4]; rfl
  · rename_i h
    have h4 : (t.k == 4) = false := by rw [beq_eq_false_iff_ne]; intro e; first | omega | simp [e] at h
    have h2 : (t.k == 2) = false := by rw [beq_eq_false_iff_ne]; intro e; first | omega | simp [e] at h
    rw [h4, h2]; rfl
set_option maxRecDepth 100000 in
set_option maxHeartbeats 2000000 in
theorem take_calls (b g c : Nat) (ts : List Tok) (q : PS) (dp : Nat) (hts : Toks ts) (x : ByteArray) (w : World) (h : PM w b g c ts q dp) :
    Calls Tryd.prog 55 #[.pointer (some ⟨b, 0, none⟩), .string x] w fun e w' => e = .returned (.bool (isp ts x q)) ∧ PT w b g c ts (if isp ts x q then adv q else q) dp w' := by
  have hs := is_calls b g c ts q dp hts x w h
  have HM := Lib.hid h
  have HT := Lib.hid hts
  cases hi : isp ts x q
  · rw [hi] at hs
    have HS := Lib.hid hs
    clear hs hi h hts
    go_enter Tryd.func55, Tryd.ntmps55
    go_wp2_with (go_at_call 28; refine HS.out.mono ?_; rintro e w1 ⟨rfl, hb1⟩; have HB1 := Lib.hid hb1; clear hb1)
    go_ret
    exact ⟨rfl, HM.out.below HB1.out, gb_below HB1.out _⟩
  · have hk : (nxt ts q).k ≠ 0 := by
      intro h0
      unfold isp at hi
      rw [h0] at hi
      cases hi
    have hal := adv_lt hts h.at' hk
    rw [hi] at hs
    have HS := Lib.hid hs
    clear hs hi h hk hts
    go_enter Tryd.func55, Tryd.ntmps55
    go_wp2_with (go_at_call 28; refine HS.out.mono ?_)
    rintro e w1 ⟨rfl, hb1⟩
    have HM1 := Lib.hid (HM.out.below hb1)
    have HB1 := Lib.hid hb1
    obtain ⟨d1, f1⟩ := HM1.out.atc
    have hlen := HT.out.len
    clear hb1
    go_wp2
    go_ret
    exact ⟨rfl, HM1.out.put (q.i + 1) dp 1 _ (.inl ⟨rfl, rfl, rfl⟩) hal, gb_set (gb_below HB1.out _) 1 _⟩
theorem PT.trans {w w1 w2 : World} {b g c : Nat} {ts : List Tok} {q q' : PS} {dp dp' : Nat} (h : PT w b g c ts q dp w1) (k : PT w1 b g c ts q' dp' w2) : PT w b g c ts q' dp' w2 := ⟨k.1, gb_trans h.2 k.2⟩
theorem PT.of {w w1 : World} {b g c : Nat} {ts : List Tok} {q : PS} {dp : Nat} (h : PM w b g c ts q dp) (hb : Below w.heap.size w w1) : PT w b g c ts q dp w1 := ⟨h.below hb, gb_below hb _⟩
theorem PT.alloc {w w1 : World} {b g c : Nat} {ts : List Tok} {q : PS} {dp : Nat} (h : PT w b g c ts q dp w1) (o : Obj) : PT w b g c ts q dp (w1.alloc o) := ⟨h.1.alloc o, gb_alloc h.2 o⟩
theorem PT.adv {w w1 : World} {b g c : Nat} {ts : List Tok} {q : PS} {dp : Nat} (h : PT w b g c ts q dp w1) (hi : q.i + 1 < ts.length) : PT w b g c ts (adv q) dp (w1.setCell ⟨b, 1, none⟩ (.int .i64 ((q.i : Int) + 1))) :=
  ⟨h.1.put (q.i + 1) dp 1 _ (.inl ⟨rfl, rfl, rfl⟩) hi, gb_set h.2 1 _⟩
set_option maxRecDepth 100000 in
set_option maxHeartbeats 2000000 in
theorem want_calls (b g c : Nat) (ts : List Tok) (q : PS) (dp : Nat) (hts : Toks ts) (x : ByteArray) (w : World) (h : PM w b g c ts q dp) :
    Calls Tryd.prog 32 #[.pointer (some ⟨b, 0, none⟩), .string x] w fun e w' => e = .returned (.tuple #[]) ∧ PT w b g c ts (wantp ts x q) dp w' := by
  have ht := take_calls b g c ts q dp hts x w h
  have HM := Lib.hid h
  have HT := Lib.hid hts
  unfold wantp
  cases hi : isp ts x q
  · rw [hi] at ht
    have HS := Lib.hid ht
    clear ht hi h hts
    go_enter Tryd.func32, Tryd.ntmps32
    go_wp2_with (first
      | (go_at_call 55; refine HS.out.mono ?_; rintro e w1 ⟨rfl, hp1⟩; have HP1 := Lib.hid hp1; clear hp1)
      | (go_at_call 29; refine (fail_calls b g c ts q dp 2 HT.out _ HP1.out.1).mono ?_; rintro e w2 ⟨rfl, hp2⟩; have HP2 := Lib.hid hp2; clear hp2))
    go_end0
    exact ⟨rfl, HP1.out.trans HP2.out⟩
  · rw [hi] at ht
    have HS := Lib.hid ht
    clear ht hi h hts
    go_enter Tryd.func32, Tryd.ntmps32
    go_wp2_with (go_at_call 55; refine HS.out.mono ?_; rintro e w1 ⟨rfl, hp1⟩; have HP1 := Lib.hid hp1; clear hp1)
    go_end0
    exact ⟨rfl, HP1.out⟩
set_option maxRecDepth 100000 in
set_option maxHeartbeats 2000000 in
theorem name_calls (b g c : Nat) (ts : List Tok) (q : PS) (dp : Nat) (hts : Toks ts) (w : World) (h : PM w b g c ts q dp) :
    Calls Tryd.prog 56 #[.pointer (some ⟨b, 0, none⟩)] w fun e w' => e = .returned (.string (namep ts q).1) ∧ PT w b g c ts (namep ts q).2 dp w' := by
  have hn := next_calls b g c ts q dp hts w h
  have HM := Lib.hid h
  have HT := Lib.hid hts
  have hal : (nxt ts q).k = 1 → q.i + 1 < ts.length := fun e => adv_lt hts h.at' (by omega)
  have hlen := hts.len
  have hi := h.at'
  unfold namep
  generalize nxt ts q = t at hn hal ⊢
  have HN := Lib.hid hn
  clear hn h hts
  by_cases hk : t.k = 1
  · have hk' : (t.k : Int) = 1 := by omega
    have hal' := hal hk
    have HR : Hid ((if (t.k == 1) = true then (t.s, Go.Proofs.YtcdgjgoplogiiaaDoor.PT.adv q) else (⟨#[]⟩, failp ts 2 q)) = (t.s, Go.Proofs.YtcdgjgoplogiiaaDoor.PT.adv q)) := Lib.hid (by rw [hk]; rfl)
    rw [HR.out]
    clear hal hk HR
    go_enter Tryd.func56, Tryd.ntmps56
    go_wp2_with (go_at_call 31; refine HN.out.mono ?_; rintro e w1 ⟨rfl, hb1⟩; have HP1 := Lib.hid ((PT.of HM.out hb1)); clear hb1; have hbl := HP1.out.1.lt; obtain ⟨d1, f1⟩ := HP1.out.1.atc)
    go_ret
    exact ⟨rfl, (HP1.out.adv hal').alloc _⟩
  · have hk' : ¬ (t.k : Int) = 1 := by omega
    have HR : Hid ((if (t.k == 1) = true then (t.s, Go.Proofs.YtcdgjgoplogiiaaDoor.PT.adv q) else (⟨#[]⟩, failp ts 2 q)) = (⟨#[]⟩, failp ts 2 q)) := Lib.hid (by rw [if_neg (by simpa using hk)])
    rw [HR.out]
    clear hal hk HR
    go_enter Tryd.func56, Tryd.ntmps56
    go_wp2_with (first
      | (go_at_call 31; refine HN.out.mono ?_; rintro e w1 ⟨rfl, hb1⟩; have HP1 := Lib.hid ((PT.of HM.out hb1)); clear hb1)
      | (go_at_call 29; refine (fail_calls b g c ts q dp 2 HT.out _ (HP1.out.alloc _).1).mono ?_; rintro e w2 ⟨rfl, hp2⟩; have HP2 := Lib.hid hp2; clear hp2))
    go_ret
    exact ⟨rfl, (HP1.out.alloc _).trans HP2.out⟩
set_option maxRecDepth 100000 in
set_option maxHeartbeats 4000000 in
theorem numberp_calls (b g c : Nat) (ts : List Tok) (q : PS) (dp hi : Nat) (hh : hi = 256 ∨ hi = 64) (hts : Toks ts) (w : World) (h : PM w b g c ts q dp) :
    Calls Tryd.prog 57 #[.pointer (some ⟨b, 0, none⟩), .int .i64 1, .int .i64 hi] w fun e w' => e = .returned (.int .i64 (numberp ts 1 hi q).1) ∧ PT w b g c ts (numberp ts 1 hi q).2 dp w' := by
  have hn := next_calls b g c ts q dp hts w h
  have HM := Lib.hid h
  have HT := Lib.hid hts
  have hal : (nxt ts q).k = 3 → q.i + 1 < ts.length := fun e => adv_lt hts h.at' (by omega)
  have hlen := hts.len
  have hi0 := h.at'
  have hv := (mem_nxt hts h.at').2.2.2
  unfold numberp
  generalize nxt ts q = t at hn hal hv ⊢
  have HN := Lib.hid hn
  clear hn h hts
  by_cases hk : t.k = 3
  · have hk' : (t.k : Int) = 3 := by omega
    have hal' := hal hk
    rw [if_pos (show (t.k == 3) = true by rw [hk]; rfl)]
    clear hal hk
    by_cases h1 : t.v < 1
    · rw [if_pos (by simp; omega)]
      rcases hh with rfl | rfl
      all_goals
        go_enter Tryd.func57, Tryd.ntmps57
        go_wp2_with (first | (go_at_call 31; refine HN.out.mono ?_; rintro e w1 ⟨rfl, hb1⟩; have HP1 := Lib.hid ((PT.of HM.out hb1)); clear hb1; have hbl := HP1.out.1.lt; obtain ⟨d1, f1⟩ := HP1.out.1.atc) | (go_at_call 29; refine (fail_calls b g c ts q dp 6 HT.out _ (HP1.out.alloc _).1).mono ?_; rintro e w2 ⟨rfl, hp2⟩; have HP2 := Lib.hid hp2; clear hp2))
        go_ret
        exact ⟨rfl, (HP1.out.alloc _).trans HP2.out⟩
    · by_cases h2 : hi < t.v
      · rw [if_pos (by simp; omega)]
        rcases hh with rfl | rfl
        all_goals
          go_enter Tryd.func57, Tryd.ntmps57
          go_wp2_with (first | (go_at_call 31; refine HN.out.mono ?_; rintro e w1 ⟨rfl, hb1⟩; have HP1 := Lib.hid ((PT.of HM.out hb1)); clear hb1; have hbl := HP1.out.1.lt; obtain ⟨d1, f1⟩ := HP1.out.1.atc) | (go_at_call 29; refine (fail_calls b g c ts q dp 6 HT.out _ (HP1.out.alloc _).1).mono ?_; rintro e w2 ⟨rfl, hp2⟩; have HP2 := Lib.hid hp2; clear hp2))
          go_ret
          exact ⟨rfl, (HP1.out.alloc _).trans HP2.out⟩
      · rw [if_neg (by simp; omega)]
        rcases hh with rfl | rfl
        all_goals
          go_enter Tryd.func57, Tryd.ntmps57
          go_wp2_with (go_at_call 31; refine HN.out.mono ?_; rintro e w1 ⟨rfl, hb1⟩; have HP1 := Lib.hid ((PT.of HM.out hb1)); clear hb1; have hbl := HP1.out.1.lt; obtain ⟨d1, f1⟩ := HP1.out.1.atc)
          go_ret
          exact ⟨rfl, (HP1.out.adv hal').alloc _⟩
  · have hk' : ¬ (t.k : Int) = 3 := by omega
    rw [if_neg (by simpa using hk)]
    clear hal hk
    rcases hh with rfl | rfl
    all_goals
      go_enter Tryd.func57, Tryd.ntmps57
      go_wp2_with (first | (go_at_call 31; refine HN.out.mono ?_; rintro e w1 ⟨rfl, hb1⟩; have HP1 := Lib.hid ((PT.of HM.out hb1)); clear hb1; have hbl := HP1.out.1.lt; obtain ⟨d1, f1⟩ := HP1.out.1.atc) | (go_at_call 29; refine (fail_calls b g c ts q dp 2 HT.out _ (HP1.out.alloc _).1).mono ?_; rintro e w2 ⟨rfl, hp2⟩; have HP2 := Lib.hid hp2; clear hp2))
      go_ret
      exact ⟨rfl, (HP1.out.alloc _).trans HP2.out⟩
/-- Deeper by one. -/
def entp (ts : List Tok) (q : PS) (dp : Nat) : PS := if 40 < dp + 1 then failp ts 6 q else q
theorem EO.cases {w : World} {e : Option (Nat × Nat)} {v : Value} (h : EO w e v) : (e = none ∧ v = .nilIface) ∨ (e.isSome = true ∧ ∃ g', v = .iface 106 (.pointer (some ⟨g', 0, none⟩))) := by
  cases e with
  | none => exact .inl ⟨rfl, h⟩
  | some x => obtain ⟨g', _, e, _⟩ := h; exact .inr ⟨rfl, g', e⟩
theorem PM.errc {w : World} {b g c : Nat} {ts : List Tok} {q : PS} {dp : Nat} (h : PM w b g c ts q dp) : (q.e = none ∧ w.cell? ⟨b, 2, none⟩ = some .nilIface) ∨ (q.e.isSome = true ∧ ∃ g', w.cell? ⟨b, 2, none⟩ = some (.iface 106 (.pointer (some ⟨g', 0, none⟩)))) := by
  obtain ⟨⟨ev, hb, he⟩, _⟩ := h
  have hc : w.cell? ⟨b, 2, none⟩ = some ev := (blk_cell hb 2).trans rfl
  rcases he.cases with ⟨e1, rfl⟩ | ⟨e1, g', rfl⟩
  · exact .inl ⟨e1, hc⟩
  · exact .inr ⟨e1, g', hc⟩
theorem PT.deep {w w1 : World} {b g c : Nat} {ts : List Tok} {q : PS} {dp : Nat} (h : PT w b g c ts q dp w1) (dp' : Nat) : PT w b g c ts q dp' (w1.setCell ⟨b, 3, none⟩ (.int .i64 dp')) :=
  ⟨h.1.put q.i dp' 3 _ (.inr ⟨rfl, rfl, rfl⟩) h.1.at', gb_set h.2 3 _⟩
set_option maxRecDepth 100000 in
set_option maxHeartbeats 4000000 in
theorem enter_calls (b g c : Nat) (ts : List Tok) (q : PS) (dp : Nat) (hdp : dp ≤ 40) (hts : Toks ts) (w : World) (h : PM w b g c ts q dp) :
    Calls Tryd.prog 81 #[.pointer (some ⟨b, 0, none⟩)] w fun e w' => e = .returned (.bool (entp ts q dp).e.isNone) ∧ PT w b g c ts (entp ts q dp) (dp + 1) w' := by
  obtain ⟨d3, f3⟩ := h.deepc
  have HT := Lib.hid hts
  have hcast : ((dp : Int) + 1) = ((dp + 1 : Nat) : Int) := by omega
  have HP : Hid (PT w b g c ts q (dp + 1) (w.setCell ⟨b, 3, none⟩ (.int .i64 ((dp : Int) + 1)))) := Lib.hid (by rw [hcast]; exact PT.deep ⟨h, gb_refl _ _⟩ (dp + 1))
  have HC := h.errc
  have hbl := h.lt
  unfold entp
  clear h hts hcast
  by_cases hd : 40 < dp + 1
  · rw [if_pos hd]
    have HE : Hid ((failp ts 6 q).e.isNone = false) := Lib.hid (by unfold failp; split <;> simp_all)
    clear HC
    go_enter Tryd.func81, Tryd.ntmps81
    go_wp2_with (go_at_call 29; refine (fail_calls b g c ts q (dp + 1) 6 HT.out _ HP.out.1).mono ?_)
    rintro e w2 ⟨rfl, hp2⟩
    have HP2 := Lib.hid hp2
    rcases hp2.1.errc with ⟨e1, c2⟩ | ⟨e1, g', c2⟩
    · have := HE.out; rw [e1] at this; cases this
    · clear e1 hp2
      go_wp2
      go_ret
      exact ⟨by rw [HE.out]; rfl, HP.out.trans HP2.out⟩
  · rw [if_neg hd]
    rcases HC with ⟨e1, c2⟩ | ⟨e1, g', c2⟩
    · rw [e1]
      go_enter Tryd.func81, Tryd.ntmps81
      go_wp2
      go_ret
      exact ⟨rfl, HP.out⟩
    · have HE : Hid (q.e.isNone = false) := Lib.hid (by cases h : q.e <;> simp_all)
      clear e1
      go_enter Tryd.func81, Tryd.ntmps81
      go_wp2
      go_ret
      exact ⟨by rw [HE.out]; rfl, HP.out⟩
set_option maxRecDepth 100000 in
theorem up_calls (b g c x : Nat) (ts : List Tok) (q : PS) (dp : Nat) (hdp : dp ≤ 40) (u : FrameMode) (w : World) (h : PM w b g c ts q (dp + 1)) (hx : w.cell? ⟨x, 0, none⟩ = some (.pointer (some ⟨b, 0, none⟩))) :
    CallsD Tryd.prog 104 #[.pointer (some ⟨x, 0, none⟩)] u w fun e u' w' => u' = u ∧ (e = .returned (.tuple #[]) ∧ PT w b g c ts q dp w') := by
  obtain ⟨d3, f3⟩ := h.deepc
  have HP := Lib.hid (PT.deep (q := q) ⟨h, gb_refl w _⟩ dp)
  clear h
  go_enter_d Tryd.func104, Tryd.ntmps104
  go_wp2
  go_end0
  exact ⟨rfl, HP.out⟩
end Go.Proofs.YtcdgjgoplogiiaaDoor.PT
