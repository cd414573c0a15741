/- lex: the keys, and the table that is made when it is asked for first. -/
import Derived.Test.YtcdgjgoplogiiaaDoorOnce
import Derived.Test.YtcdgjgoplogiiaaDoorSgn
import Derived.StringKeys
namespace Go.Proofs.YtcdgjgoplogiiaaDoor.PT
open Go.RowKit Go.Lib Go.WideMaps Go.Maps
set_option linter.unusedVariables false
set_option linter.unusedSimpArgs false
theorem lawS : Keyed Tryd.prog 9 := string_keyed Tryd.underlying9
noncomputable abbrev RB : Value → Option (DataW Unit × List MemPlace) := plainElem (H := Unit) Tryd.prog 4
abbrev ky (s : ByteArray) : Lit := .string s.data.toList
abbrev tt : DataW Unit := .lit (.bool true)
theorem ky_lit (s : ByteArray) : WideAt.IsKeyLit (ky s) := trivial
theorem ky_inj {u v : ByteArray} (h : ky u = ky v) : u = v := by
  injection h with h
  obtain ⟨⟨x⟩⟩ := u
  obtain ⟨⟨y⟩⟩ := v
  have h' : x = y := h
  rw [h']
theorem beq_iff (a b : ByteArray) : beq a b = true ↔ a = b := by
  unfold beq
  rw [beq_iff_eq]
  exact ⟨fun h => ky_inj (by rw [ky, h]), fun h => by rw [h]⟩
/-- D is the set of the texts ks. -/
structure KD (D : DataW Unit) (ks : List ByteArray) : Prop where
  tidy : Tidy D
  yes : ∀ s z, Maps.has D (ky s) = true → D.atKey (ky s) z = tt
  mem : ∀ s, Maps.has D (ky s) = ks.any (beq s)
theorem KD.nil : KD (.map []) [] := ⟨⟨[], rfl, List.Pairwise.nil⟩, (fun s z h => by cases h), fun s => rfl⟩
theorem KD.put {D : DataW Unit} {ks : List ByteArray} (h : KD D ks) (u : ByteArray) : KD (D.put (ky u) tt) (ks ++ [u]) := by
  refine ⟨h.tidy.put (ky_lit u) _, fun s z hs => ?_, fun s => ?_⟩
  · by_cases e : s = u
    · subst e; exact atKey_put_same h.tidy.isMap (ky_lit s) _ _
    · have hne : ky s ≠ ky u := fun q => e (ky_inj q)
      rw [atKey_put_other hne]
      rw [has_put_other hne] at hs
      exact h.yes s z hs
  · rw [List.any_append]
    by_cases e : s = u
    · subst e
      rw [has_put_same h.tidy.isMap (ky_lit s)]
      have : beq s s = true := (beq_iff s s).2 rfl
      simp [this]
    · have hne : ky s ≠ ky u := fun q => e (ky_inj q)
      rw [has_put_other hne, h.mem s]
      have : beq s u = false := by
        cases hb : beq s u
        · rfl
        · exact absurd ((beq_iff s u).1 hb) e
      simp [this]
abbrev TT : TypeId := 125
/-- The table in block b: not yet made. -/
def KT0 (w : World) (b : Nat) : Prop := w.heap[b]? = some (.cells #[.int .u32 0, .int .i32 0, .int .u32 0, .map none] TT (0, 0))
/-- .. made. -/
def KT1 (w : World) (b : Nat) : Prop := ∃ m D, w.heap[b]? = some (.cells #[.int .u32 1, .int .i32 0, .int .u32 0, .map (some m)] TT (0, 0)) ∧ w.ownsMap Tryd.prog 9 RB m 15 D ∧ KD D keys
def KT (w : World) (b : Nat) : Prop := KT0 w b ∨ KT1 w b
theorem KT1.far {w w' : World} {b : Nat} (h : KT1 w b) (hk : ∀ g, g < w.heap.size → w'.heap[g]? = w.heap[g]?) : KT1 w' b := by
  obtain ⟨m, D, h1, ⟨es, clock, h2, h3⟩, h4⟩ := h
  exact ⟨m, D, (hk b (lt_heap h1)).trans h1, ⟨es, clock, (hk m (lt_heap h2)).trans h2, h3⟩, h4⟩
/-- No block of cells is the table's map. -/
theorem KT.kept {w w' : World} {b : Nat} (h : KT w b) (hb : w'.heap[b]? = w.heap[b]?) (hk : ∀ (g : Nat) (es : Array MapEntry) (clock : Nat), w.heap[g]? = some (.map es clock) → w'.heap[g]? = w.heap[g]?) : KT w' b := by
  rcases h with h | ⟨m, D, h1, ⟨es, clock, h2, h3⟩, h4⟩
  · exact .inl (hb.trans h)
  · exact .inr ⟨m, D, hb.trans h1, ⟨es, clock, (hk m es clock h2).trans h2, h3⟩, h4⟩
theorem keys_calls (w : World) : Calls Tryd.prog 79 #[] w fun e w' => ∃ g, e = .returned (.slice (some ⟨g, 0, none⟩) 15 15) ∧ w.heap.size ≤ g ∧ w'.heap[g]? = some (.cells (keys.map Value.string).toArray 9 (0, 0)) ∧ Below w.heap.size w w' := by
  go_enter Tryd.func79, Tryd.ntmps79
  go_wp2
  go_ret
  exact ⟨w.heap.size, rfl, Nat.le_refl _, by rw [World.alloc]; simp [keys], (Below.refl _ _).alloc (Nat.le_refl _) _⟩
theorem zeroB (w : World) : (zeroValue 4).run Tryd.prog w = .ok (.bool false) w := by kernel_rfl
/-- The table is filled: its map is made, block m. -/
def FillPost (b : Nat) (w : World) (e : Ending) (w' : World) : Prop := e = .returned (.tuple #[]) ∧ ∃ m D x0 x1 x2, w.cell? ⟨b, 0, none⟩ = some x0 ∧ w.cell? ⟨b, 1, none⟩ = some x1 ∧ w.cell? ⟨b, 2, none⟩ = some x2 ∧
  w'.heap[b]? = some (.cells #[x0, x1, x2, .map (some m)] TT (0, 0)) ∧ w'.ownsMap Tryd.prog 9 RB m 15 D ∧ KD D keys ∧ w.grownBy w' (some b)
theorem keys_sz (k : Nat) (h : k < 15) : (keys.getD k ⟨#[]⟩).size ≤ maxLen := by
  rcases (show k = 0 ∨ k = 1 ∨ k = 2 ∨ k = 3 ∨ k = 4 ∨ k = 5 ∨ k = 6 ∨ k = 7 ∨ k = 8 ∨ k = 9 ∨ k = 10 ∨ k = 11 ∨ k = 12 ∨ k = 13 ∨ k = 14 by omega) with h | h | h | h | h | h | h | h | h | h | h | h | h | h | h <;> subst h <;> decide
structure FR (b : Nat) (x0 x1 x2 : Value) (g : Nat) (k : Nat) (w wr : World) : Prop where
  ex : ∃ m D, wr.heap[b]? = some (.cells #[x0, x1, x2, .map (some m)] TT (0, 0)) ∧ wr.ownsMap Tryd.prog 9 RB m k D ∧ KD D (keys.take k) ∧ w.heap.size ≤ m
  row : wr.heap[g]? = some (.cells (keys.map Value.string).toArray 9 (0, 0))
  gb : w.grownBy wr (some b)
set_option maxHeartbeats 2000000 in
theorem fill_calls (b p : Nat) (hpb : p ≠ b) (x0 x1 x2 x3 : Value) (w : World) (hb : w.heap[b]? = some (.cells #[x0, x1, x2, x3] TT (0, 0))) (hp : w.cell? ⟨p, 0, none⟩ = some (.pointer (some ⟨b, 0, none⟩))) :
    Calls Tryd.prog 78 #[.pointer (some ⟨p, 0, none⟩)] w (FillPost b w) := by
  have hmm := @run_makeMap Tryd.prog
  have hbl := lt_heap hb
  have hpl := World.block_lt_of_cell? w _ hp
  have b3 : w.cell? ⟨b, 3, none⟩ = some x3 := (blk_cell hb 3).trans rfl
  have f3 : w.frozen? ⟨b, 3, none⟩ = false := blk_frozen hb 3
  have HB := Lib.hid hb
  have HP := Lib.hid hp
  go_enter Tryd.func78, Tryd.ntmps78
  go_wp2_with fail
  obtain ⟨w1, hw1⟩ : ∃ w1, w1 = (w.setCell ⟨b, 3, none⟩ (.map (some w.heap.size))).alloc (.map #[] 0) := ⟨_, rfl⟩
  rw [← hw1]
  have hb1 : w1.heap[b]? = some (.cells #[x0, x1, x2, .map (some w.heap.size)] TT (0, 0)) := by rw [hw1]; exact blk_alloc (blk_put hb 3 _ rfl) _
  have hsz1 : w1.heap.size = w.heap.size + 1 := by rw [hw1]; simp
  have hm1 : w1.ownsMap Tryd.prog 9 RB w.heap.size 0 (.map []) := by
    have h := World.ownsMap_made (H := Unit) (w.setCell ⟨b, 3, none⟩ (.map (some w.heap.size))) Tryd.prog 9 RB
    rw [hw1]
    simpa using h
  have hg1 : w.grownBy w1 (some b) := by
    rw [hw1]
    exact ⟨rfl, rfl, rfl, by simp, fun i hi hne => (Below.heap_alloc _ _ i (by simpa using hi)).trans (Below.heap_setCell w ⟨b, 3, none⟩ _ i (fun e => hne (by rw [e])))⟩
  have HW1 := Lib.hid hw1
  have HB1 := Lib.hid hb1
  have HM1 := Lib.hid hm1
  have HG1 := Lib.hid hg1
  have HS1 := Lib.hid hsz1
  clear hw1 hb1 hm1 hg1 hsz1 b3 f3
  refine (keys_calls _).mono ?_
  rintro e w2 ⟨g, rfl, hgl, hrow, hbk⟩
  have HF : Hid (FR b x0 x1 x2 g 0 w w2) := Lib.hid (by
    have hgg : w1.grownBy w2 none := ⟨hbk.os, hbk.tape, hbk.output, hbk.size, fun i hi _ => hbk.block i hi⟩
    refine ⟨⟨w.heap.size, .map [], blk_below HB1.out hbk, HM1.out.kept hgg (by simp), KD.nil, Nat.le_refl _⟩, hrow, ?_⟩
    have h1 := HG1.out
    exact ⟨hbk.os.trans h1.os, hbk.tape.trans h1.tape, hbk.output.trans h1.output, Nat.le_trans h1.size hbk.size, fun i hi hne => (hbk.block i (Nat.lt_of_lt_of_le hi h1.size)).trans (h1.block i hi hne)⟩)
  have hgb : g ≠ b := by have := HS1.out; omega
  clear hrow hbk
  go_wp2
  go_loopw [9] (fun i wr => ∃ k : Nat, k ≤ 15 ∧ i = .int .i64 k ∧ Hid (FR b x0 x1 x2 g k w wr)) (fun i _ => 15 - (RowKit.intOf i).toNat)
  case atStart => exact ⟨0, by omega, rfl, HF⟩
  case round =>
    obtain ⟨k, hk, rfl, HK⟩ := hrel
    by_cases hlt : k < 15
    · obtain ⟨⟨m, D, e1, e2, e3, e4⟩, e5, e6⟩ := HK.out
      have hkl : k < keys.length := hlt
      obtain ⟨u, hu⟩ : ∃ u, u = keys[k] := ⟨_, rfl⟩
      have c1 : wr.cell? ⟨g, k, none⟩ = some (.string u) := by
        rw [blk_cell e5 k, hu]; simp [hkl]
      have c2 : wr.cell? ⟨p, 0, none⟩ = some (.pointer (some ⟨b, 0, none⟩)) := e6.cell HP.out (fun e => hpb (Option.some.inj e))
      have c3 : wr.cell? ⟨b, 3, none⟩ = some (.map (some m)) := (blk_cell e1 3).trans rfl
      have hus : u.size ≤ maxLen := by
        have h := keys_sz k hlt
        rw [List.getD_eq_getElem?_getD, List.getElem?_eq_getElem hkl] at h
        rw [hu]; exact h
      have HO := Lib.hid e2
      have HD := Lib.hid e3
      have HU : Hid (keys.take (k + 1) = keys.take k ++ [u]) := Lib.hid (by rw [hu]; exact List.take_succ_eq_append_getElem hkl)
      have HUS := Lib.hid hus
      have HE1 := Lib.hid e1
      have HE4 := Lib.hid e4
      have HE5 := Lib.hid e5
      have HE6 := Lib.hid e6
      clear e1 e2 e3 e4 e5 e6 hu hus hkl
      go_wp2_with (at_mapUpdate; refine wpList_mapUpdate_own _ rfl _ _ _ 123 rfl 9 4 lawS Tryd.underlying123 _ m _ _ rfl HO.out (by unfold maxLen; omega) _ _ _ rfl rfl (Go.WideMaps.keyOf_string_mk Tryd.underlying9 HUS.out) _ [] (plainElem_bool Tryd.underlying4 true) ?_; intro w5 hout2 hg2; go_frame)
      have HN : Hid (FR b x0 x1 x2 g (k + 1) w w5) := Lib.hid (by
        have hmb : m ≠ b := by
          intro e
          obtain ⟨es, clock, h1, _⟩ := HO.out
          rw [e, HE1.out] at h1
          cases h1
        have hmg : g ≠ m := by
          intro e
          obtain ⟨es, clock, h1, _⟩ := HO.out
          rw [← e, HE5.out] at h1
          cases h1
        refine ⟨⟨m, _, blk_grown HE1.out hg2 (fun e => hmb (Option.some.inj e).symm), hout2, ?_, HE4.out⟩, blk_grown HE5.out hg2 (fun e => hmg (Option.some.inj e)), ?_⟩
        · rw [HU.out]; exact HD.out.put u
        · have h1 := HE6.out
          exact ⟨hg2.os.trans h1.os, hg2.tape.trans h1.tape, hg2.output.trans h1.output, Nat.le_trans h1.size hg2.size, fun i hi hne => (hg2.block i (Nat.lt_of_lt_of_le hi h1.size) (fun e => by have := Option.some.inj e; have := HE4.out; omega)).trans (h1.block i hi hne)⟩)
      clear hout2 hg2
      go_wp2
      go_roundw
      case rel => exact ⟨k + 1, by omega, by go_num, HN⟩
      case measure => simp [RowKit.intOf]; omega
    · have hk15 : k = 15 := by omega
      subst hk15
      go_wp2
      go_end0
      obtain ⟨⟨m, D, e1, e2, e3, e4⟩, e5, e6⟩ := HK.out
      exact ⟨rfl, m, D, x0, x1, x2, (blk_cell HB.out 0).trans rfl, (blk_cell HB.out 1).trans rfl, (blk_cell HB.out 2).trans rfl, e1, e2, e3, e6⟩
/-- Grown by row b. -/
theorem gb_set {w w1 : World} {b : Nat} (h : w.grownBy w1 (some b)) (i : Nat) (v : Value) : w.grownBy (w1.setCell ⟨b, i, none⟩ v) (some b) :=
  ⟨h.os, h.tape, h.output, by simpa [World.setCell] using h.size, fun j hj hne => (Below.heap_setCell w1 ⟨b, i, none⟩ v j (fun e => hne (by rw [e]))).trans (h.block j hj hne)⟩
theorem gb_drew {w w1 : World} {b : Option Nat} (h : w.grownBy w1 b) : w.grownBy w1.drew b := ⟨h.os, h.tape, h.output, h.size, h.block⟩
theorem gb_trans {w w1 w2 : World} {b : Option Nat} (h : w.grownBy w1 b) (k : w1.grownBy w2 b) : w.grownBy w2 b :=
  ⟨k.os.trans h.os, k.tape.trans h.tape, k.output.trans h.output, Nat.le_trans h.size k.size, fun i hi hne => (k.block i (Nat.lt_of_lt_of_le hi h.size) hne).trans (h.block i hi hne)⟩
theorem gb_refl (w : World) (b : Option Nat) : w.grownBy w b := ⟨rfl, rfl, rfl, Nat.le_refl _, fun _ _ _ => rfl⟩
theorem gb_alloc {w w1 : World} {b : Option Nat} (h : w.grownBy w1 b) (o : Obj) : w.grownBy (w1.alloc o) b :=
  ⟨h.os, h.tape, h.output, Nat.le_trans h.size (by simp), fun i hi hne => (Below.heap_alloc w1 o i (Nat.lt_of_lt_of_le hi h.size)).trans (h.block i hi hne)⟩
/-- The table is made now, and only its own block has changed. -/
def MadeT (b : Nat) (w : World) (e : Ending) (w' : World) : Prop := e = .returned (.tuple #[]) ∧ KT1 w' b ∧ w.grownBy w' (some b)
set_option maxRecDepth 100000 in
set_option maxHeartbeats 1600000 in
theorem slow_calls (b p : Nat) (hpb : p ≠ b) (w : World) (h : KT0 w b) (hp : w.cell? ⟨p, 0, none⟩ = some (.pointer (some ⟨b, 0, none⟩))) :
    Calls Tryd.prog 103 #[.pointer (some ⟨b, 0, none⟩), .func (.func 78) #[] #[.pointer (some ⟨p, 0, none⟩)]] w (MadeT b w) := by
  have h0 : w.cell? ⟨b, 0, none⟩ = some (.int .u32 0) := (blk_cell h 0).trans rfl
  have h1 : w.cell? ⟨b, 1, none⟩ = some (.int .i32 0) := (blk_cell h 1).trans rfl
  have f1 : w.frozen? ⟨b, 1, none⟩ = false := blk_frozen h 1
  have hb1 : (w.setCell ⟨b, 1, none⟩ (.int .i32 1)).heap[b]? = some (.cells #[.int .u32 0, .int .i32 1, .int .u32 0, .map none] TT (0, 0)) := blk_put h 1 _ rfl
  have hl := run_call_load (P := Tryd.prog) Tryd.func114 (by kernel_rfl) (by kernel_rfl) (by kernel_rfl) .u32 (by kernel_rfl) (w := w.setCell ⟨b, 1, none⟩ (.int .i32 1)) (a := ⟨b, 0, none⟩) (x := 0) ((blk_cell hb1 0).trans rfl)
  have hp1 : (w.setCell ⟨b, 1, none⟩ (.int .i32 1)).cell? ⟨p, 0, none⟩ = some (.pointer (some ⟨b, 0, none⟩)) := (World.cell?_setCell_other _ ⟨b, 1, none⟩ ⟨p, 0, none⟩ _ (fun e => hpb (congrArg Addr.block e).symm)).trans hp
  have hnot : ∀ (x : Bool) (w : World), (Op.unary .not (.bool x)).run Tryd.prog w = .ok (.bool (!x)) w := fun _ _ => rfl
  have HB1 := Lib.hid hb1
  have HP1 := Lib.hid hp1
  clear hb1 hp1
  go_enter_defers Tryd.func103, Tryd.ntmps103
  go_wp2_with (go_at_call 115; refine (lock_free ⟨b, 1, none⟩ _ (by go_simp) (by go_simp)).mono ?_; rintro e w' ⟨rfl, rfl⟩)
  go_wp2_with (first | (go_at_call 78; refine (fill_calls b p hpb _ _ _ _ _ HB1.out HP1.out).mono ?_; rintro e w3 ⟨rfl, m, D, x0, x1, x2, k0, k1, k2, k3, k4, k5, k6⟩) | go_in)
  obtain rfl : x0 = .int .u32 0 := (Option.some.inj (((blk_cell HB1.out 0).trans rfl).symm.trans k0)).symm
  obtain rfl : x1 = .int .i32 1 := (Option.some.inj (((blk_cell HB1.out 1).trans rfl).symm.trans k1)).symm
  obtain rfl : x2 = .int .u32 0 := (Option.some.inj (((blk_cell HB1.out 2).trans rfl).symm.trans k2)).symm
  have k7 : (w3.drew.setCell ⟨b, 0, none⟩ (.int .u32 1)).heap[b]? = some (.cells #[.int .u32 1, .int .i32 1, .int .u32 0, .map (some m)] TT (0, 0)) := blk_put (w := w3.drew) k3 0 _ rfl
  have k8 : ((w3.drew.setCell ⟨b, 0, none⟩ (.int .u32 1)).setCell ⟨b, 1, none⟩ (.int .i32 0)).heap[b]? = some (.cells #[.int .u32 1, .int .i32 0, .int .u32 0, .map (some m)] TT (0, 0)) := blk_put k7 1 _ rfl
  have hm : MadeT b w (.returned (.tuple #[])) ((w3.drew.setCell ⟨b, 0, none⟩ (.int .u32 1)).setCell ⟨b, 1, none⟩ (.int .i32 0)) := by
    have hmb : m ≠ b := by
      intro e
      obtain ⟨es, clock, h1, _⟩ := k4
      rw [e, k3] at h1
      cases h1
    refine ⟨rfl, ⟨m, D, k8, ?_, k5⟩, gb_set (gb_set (gb_drew (gb_trans (gb_set (gb_refl w _) 1 _) k6)) 0 _) 1 _⟩
    have g : w3.grownBy ((w3.drew.setCell ⟨b, 0, none⟩ (.int .u32 1)).setCell ⟨b, 1, none⟩ (.int .i32 0)) (some b) := gb_set (gb_set (gb_drew (gb_refl w3 _)) 0 _) 1 _
    exact k4.kept g (fun e => hmb (Option.some.inj e))
  refine leaves_cons (f := 117) (args := #[.pointer (some ⟨b, 0, none⟩), .bool true]) (by simp) (by simp [go_sem]) ?_
  refine (store_deferred ⟨b, 0, none⟩ (.int .u32 0) .returning _ ((blk_cell k3 0).trans rfl) (blk_frozen k3 0)).mono ?_
  rintro e u' w'' ⟨rfl, rfl, rfl⟩
  refine leaves_cons (f := 116) (args := #[.pointer (some ⟨b, 1, none⟩)]) (by simp [settle]) (by simp [go_sem]) ?_
  refine (unlock_deferred ⟨b, 1, none⟩ _ _ ((blk_cell k7 1).trans rfl) (blk_frozen k7 1)).mono ?_
  rintro e u' w'' ⟨rfl, rfl, rfl⟩
  simpa [Leaves, settle, results, Tryd.results103] using hm
set_option maxRecDepth 100000 in
set_option maxHeartbeats 1600000 in
theorem do_first (b p : Nat) (hpb : p ≠ b) (w : World) (h : KT0 w b) (hp : w.cell? ⟨p, 0, none⟩ = some (.pointer (some ⟨b, 0, none⟩))) :
    Calls Tryd.prog 77 #[.pointer (some ⟨b, 0, none⟩), .func (.func 78) #[] #[.pointer (some ⟨p, 0, none⟩)]] w (MadeT b w) := by
  have hl := run_call_load (P := Tryd.prog) Tryd.func114 (by kernel_rfl) (by kernel_rfl) (by kernel_rfl) .u32 (by kernel_rfl) (w := w) (a := ⟨b, 0, none⟩) (x := 0) ((blk_cell h 0).trans rfl)
  have hnot : ∀ (x : Bool) (w : World), (Op.unary .not (.bool x)).run Tryd.prog w = .ok (.bool (!x)) w := fun _ _ => rfl
  have HS := Lib.hid (slow_calls b p hpb w h hp)
  clear hp h
  go_enter Tryd.func77, Tryd.ntmps77
  go_wp2_with (first | (go_at_call 103; refine HS.out.mono ?_; rintro e w' ⟨rfl, hm⟩) | go_in)
  go_end0
  exact ⟨rfl, hm⟩
set_option maxRecDepth 100000 in
set_option maxHeartbeats 1600000 in
theorem do_done (b : Nat) (fv : Value) (w : World) (h0 : w.cell? ⟨b, 0, none⟩ = some (.int .u32 1)) :
    Calls Tryd.prog 77 #[.pointer (some ⟨b, 0, none⟩), fv] w fun e w' => e = .returned (.tuple #[]) ∧ w = w' := by
  have hl := run_call_load (P := Tryd.prog) Tryd.func114 (by kernel_rfl) (by kernel_rfl) (by kernel_rfl) .u32 (by kernel_rfl) (w := w) (a := ⟨b, 0, none⟩) (x := 1) h0
  have hnot : ∀ (x : Bool) (w : World), (Op.unary .not (.bool x)).run Tryd.prog w = .ok (.bool (!x)) w := fun _ _ => rfl
  go_enter Tryd.func77, Tryd.ntmps77
  go_wp2
  go_end0
  exact ⟨rfl, rfl⟩
set_option maxRecDepth 100000 in
/-- The table answers. -/
theorem kt_lookup {w : World} {m : Nat} {D : DataW Unit} (hm : w.ownsMap Tryd.prog 9 RB m 15 D) (hk : KD D keys) (s : ByteArray) (hs : s.size ≤ maxLen) :
    (Instr.lookup 123 (.map (some m)) (.string s) false).run Tryd.prog w = .ok (.bool (isKey s)) w := by
  obtain ⟨val, ps, hrun, hv⟩ := hm.lookup lawS Tryd.underlying123 (z := .bool false) (zd := .lit (.bool false)) (zp := []) (zeroB w) (plainElem_bool Tryd.underlying4 false) (Go.WideMaps.keyOf_string_mk Tryd.underlying9 hs)
  obtain ⟨c, rfl⟩ : ∃ c, val = .bool c := by
    unfold RB plainElem at hv
    rw [Tryd.underlying4] at hv
    cases val <;> simp at hv
    exact ⟨_, rfl⟩
  have e3 := Option.some.inj (hv.symm.trans (plainElem_bool (H := Unit) Tryd.underlying4 c))
  have hc : c = Maps.has D (ky s) := by
    cases hh : Maps.has D (ky s) with
    | true =>
      rw [hk.yes s _ hh] at e3
      injection e3 with e3 _
      injection e3 with e3
      injection e3 with e3
      exact e3.symm
    | false =>
      rw [atKey_of_not_has hh] at e3
      injection e3 with e3 _
      injection e3 with e3
      injection e3 with e3
      exact e3.symm
  rw [hrun, hc, hk.mem s]; rfl
/-- What the table says of a word. -/
def KeyPost (b : Nat) (s : ByteArray) (w : World) (e : Ending) (w' : World) : Prop := e = .returned (.bool (isKey s)) ∧ KT w' b ∧ w.grownBy w' (some b)
set_option maxHeartbeats 1600000 in
theorem key_calls (b : Nat) (s : ByteArray) (hs : s.size ≤ 65536) (w : World) (h : KT w b) :
    Calls Tryd.prog 52 #[.pointer (some ⟨b, 0, none⟩), .string s] w (KeyPost b s w) := by
  have hmf : ∀ (fn : Fn) (first cap : Array Value) (w : World), (Instr.makeFunc fn first cap).run Tryd.prog w = .ok (.func fn first cap) w := fun _ _ _ _ => rfl
  have hsm : s.size ≤ maxLen := by unfold maxLen; omega
  have HSM := Lib.hid hsm
  clear hsm
  have hbl : b < w.heap.size := by
    rcases h with h | ⟨m, D, h, _⟩ <;> exact lt_heap h
  obtain ⟨w0, hw0⟩ : ∃ w0, w0 = w.alloc (.cells #[.pointer (some ⟨b, 0, none⟩)] 162) := ⟨_, rfl⟩
  have HP : Hid (w0.cell? ⟨w.heap.size, 0, none⟩ = some (.pointer (some ⟨b, 0, none⟩))) := Lib.hid (by rw [hw0]; simp)
  have HG : Hid (w.grownBy w0 (some b)) := Lib.hid (by rw [hw0]; exact gb_alloc (gb_refl _ _) _)
  have hpb : w.heap.size ≠ b := by omega
  have HW := Lib.hid hw0
  rcases h with h | h
  · have h0 : KT0 w0 b := by rw [hw0]; exact blk_alloc h _
    have HD := Lib.hid (do_first b w.heap.size hpb w0 h0 HP.out)
    clear h h0 hw0
    go_enter Tryd.func52, Tryd.ntmps52
    go_wp2_with fail
    rw [← HW.out]
    refine HD.out.mono ?_
    rintro e w2 ⟨rfl, hk, hg⟩
    obtain ⟨m, D, k1, k2, k3⟩ := hk
    have c1 : w2.cell? ⟨w.heap.size, 0, none⟩ = some (.pointer (some ⟨b, 0, none⟩)) := hg.cell HP.out (fun e => hpb (Option.some.inj e))
    have c2 : w2.cell? ⟨b, 3, none⟩ = some (.map (some m)) := (blk_cell k1 3).trans rfl
    have c3 := kt_lookup k2 k3 s HSM.out
    have HK : Hid (KT w2 b) := Lib.hid (.inr ⟨m, D, k1, k2, k3⟩)
    have HG2 := Lib.hid (gb_trans HG.out hg)
    clear k1 k2 k3 hg
    go_wp2
    go_ret
    exact ⟨rfl, HK.out, HG2.out⟩
  · have h1 : KT1 w0 b := by rw [hw0]; exact h.far fun g hg => Below.heap_alloc w _ g hg
    obtain ⟨m, D, k1, k2, k3⟩ := h1
    have HD := Lib.hid (do_done b (.func (.func 78) #[] #[.pointer (some ⟨w.heap.size, 0, none⟩)]) w0 ((blk_cell k1 0).trans rfl))
    have HC2 : Hid (w0.cell? ⟨b, 3, none⟩ = some (.map (some m))) := Lib.hid ((blk_cell k1 3).trans rfl)
    have HC3 := Lib.hid (kt_lookup k2 k3 s HSM.out)
    have HK : Hid (KT w0 b) := Lib.hid (.inr ⟨m, D, k1, k2, k3⟩)
    clear h k1 k2 k3 hw0
    go_enter Tryd.func52, Tryd.ntmps52
    go_wp2_with fail
    rw [← HW.out]
    refine HD.out.mono ?_
    rintro e w2 ⟨rfl, rfl⟩
    have c1 := HP.out
    have c2 := HC2.out
    have c3 := HC3.out
    go_wp2
    go_ret
    exact ⟨rfl, HK.out, HG.out⟩
end Go.Proofs.YtcdgjgoplogiiaaDoor.PT
