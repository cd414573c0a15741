/- The writer's lines. -/
import Derived.Test.YtnihgifpfdlnhaaDoorBld
import Derived.Test.YtnihgifpfdlnhaaDoorExpr
import Derived.LoopTactic
import Derived.Deep.RegionLaw
namespace Go.Proofs.YtnihgifpfdlnhaaDoor.PT
open Go.RowKit Go.Lib
set_option linter.unusedVariables false
set_option linter.unusedSimpArgs false

/-- The builder in block b holds the bytes l; below B, and of others, nothing has changed. -/
def LW (B b : Nat) (l : List UInt8) (w w' : World) : Prop := IsB B b (byteCells l) w' ∧ Below B w w' ∧ OthersKept T8 (some b) w w'
theorem LW.trans {B b : Nat} {l m : List UInt8} {x y z : World} (h : LW B b l x y) (k : LW B b m y z) : LW B b m x z := ⟨k.1, h.2.1.trans k.2.1, h.2.2.trans k.2.2⟩
theorem LW.keep {B b : Nat} {l : List UInt8} {w w' : World} (h : LW B b l w w') {g : Nat} {cs : Array Value} {E : TypeId} {fr : Nat × Nat} (hg : w.heap[g]? = some (.cells cs E fr)) (hE : E ≠ T8) (hb : g ≠ b) : w'.heap[g]? = some (.cells cs E fr) :=
  h.2.2 g _ hg (fun e => hb (Option.some.inj e)) fun c fz e => hE (by injection e)
theorem LW.bp {B b : Nat} {l m : List UInt8} {w w1 w2 : World} (h : LW B b l w w1) (k : BP B b (byteCells l ++ byteCells m) w1 w2) : LW B b (l ++ m) w w2 := by
  obtain ⟨k1, k2, k3⟩ := k
  refine ⟨.inr ?_, h.2.1.trans k2, h.2.2.trans k3⟩
  rw [byteCells_append]; exact k1
theorem IsB.lt {B b : Nat} {bs : List Value} {w : World} (h : IsB B b bs w) : B ≤ b ∧ b < w.heap.size := by
  rcases h with h | h <;> exact ⟨h.1, h.lt⟩
theorem IsB.below {B b : Nat} {bs : List Value} {w w' : World} (h : IsB B b bs w) (hb : Below w.heap.size w w') : IsB B b bs w' := by
  have one : ∀ p, BuilderAtF TW T8 B b p bs w → BuilderAtF TW T8 B b p bs w' := by
    rintro p ⟨h1, v, h2, h3, h4⟩
    refine ⟨h1, v, blk_below h2 hb, ⟨h3.1, ?_⟩, h4⟩
    rcases h3.2 with h | ⟨g, cap, cur, fz, rfl, hg, hgg, rest⟩
    · exact .inl h
    · exact .inr ⟨g, cap, cur, fz, rfl, hg, blk_below hgg hb, rest⟩
  rcases h with h | h
  · exact .inl (one _ h)
  · exact .inr (one _ h)
theorem kept_below {b : Nat} {w w' : World} (hb : Below w.heap.size w w') : OthersKept T8 (some b) w w' := fun k o hk _ _ => blk_below hk hb
theorem LW.below {B b : Nat} {l : List UInt8} {w w1 w2 : World} (h : LW B b l w w1) (hb : Below w1.heap.size w1 w2) : LW B b l w w2 :=
  ⟨h.1.below hb, h.2.1.trans (hb.mono (Nat.le_of_lt (Nat.lt_of_le_of_lt h.1.lt.1 h.1.lt.2))), h.2.2.trans (kept_below hb)⟩
theorem LW.start {B b : Nat} {l : List UInt8} {w : World} (h : IsB B b (byteCells l) w) : LW B b l w w := ⟨h, Below.refl _ _, OthersKept.refl _ _ _⟩
theorem IsB.drew {B b : Nat} {bs : List Value} {w : World} (h : IsB B b bs w) : IsB B b bs w.drew := h.imp (fun x => x.drew) fun x => x.drew
theorem LW.drew {B b : Nat} {l : List UInt8} {w w1 : World} (h : LW B b l w w1) : LW B b l w w1.drew := ⟨h.1.drew, h.2.1.drew, h.2.2.drew⟩
def LPost (B b : Nat) (l : List UInt8) (w : World) (e : Ending) (w' : World) : Prop := e = .returned (.tuple #[]) ∧ LW B b l w w'
theorem repeat9 (d : Nat) : Lib.repeatL (⟨#[9]⟩ : ByteArray).data.toList d = List.replicate d 9 := by
  induction d with
  | zero => rfl
  | succ d ih =>
    rw [List.replicate_succ, ← ih]
    simp [Lib.repeatL, List.replicate_succ]
theorem rep_calls (d : Nat) (hd : d ≤ 1000) (w : World) :
    Calls Tryd.prog 41 #[.string ⟨#[9]⟩, .int .i64 d] w fun e w' => e = .returned (.string ⟨(List.replicate d 9).toArray⟩) ∧ Below w.heap.size w w' := by
  have h := Tryd.strings_Repeat ⟨#[9]⟩ d w (by omega) (by rw [show (⟨#[9]⟩ : ByteArray).size = 1 from rfl]; omega)
  rw [repeat9] at h
  exact h
theorem ws_calls (B b : Nat) (l : List UInt8) (s : ByteArray) (w0 w : World) (h : Hid (LW B b l w0 w)) (hl : l.length + s.size ≤ 140737488355328) :
    Calls Tryd.prog 40 #[.pointer (some ⟨b, 0, none⟩), .string s] w fun e w' => e = .returned (.tuple #[.int .i64 s.size, .nilIface]) ∧ Hid (LW B b (l ++ bl s) w0 w') := by
  have hlt := h.out.1.lt
  refine (writeString_k B b (byteCells l) s w h.out.1 (by rw [byteCells_length]; exact hl) (by omega)).mono ?_
  rintro e w' ⟨rfl, k⟩
  exact ⟨rfl, Lib.hid (h.out.bp (by rw [Lib.strCells_eq] at k; exact k))⟩
theorem wb_calls (B b : Nat) (l : List UInt8) (w0 w : World) (h : Hid (LW B b l w0 w)) (hl : l.length + 1 ≤ 140737488355328) :
    Calls Tryd.prog 42 #[.pointer (some ⟨b, 0, none⟩), .int .u8 10] w fun e w' => e = .returned .nilIface ∧ Hid (LW B b (l ++ [10]) w0 w') := by
  have hlt := h.out.1.lt
  refine (writeByte_k B b (byteCells l) 10 w h.out.1 (by rw [byteCells_length]; exact hl) (by omega)).mono ?_
  rintro e w' ⟨rfl, k⟩
  exact ⟨rfl, Lib.hid (h.out.bp k)⟩
/-- The bytes behind k parts. -/
def upTo (l : List UInt8) (d : Nat) (ps : List ByteArray) (k : Nat) : List UInt8 := l ++ List.replicate d 9 ++ (ps.take k).flatMap bl
theorem upTo_succ (l : List UInt8) (d : Nat) (ps : List ByteArray) (k : Nat) (h : k < ps.length) : upTo l d ps (k + 1) = upTo l d ps k ++ bl ps[k] := by
  unfold upTo
  rw [List.take_succ_eq_append_getElem h, List.flatMap_append, List.append_assoc]; simp
theorem take_flat_le (ps : List ByteArray) (k : Nat) : ((ps.take k).flatMap bl).length ≤ (ps.flatMap bl).length := by
  have h : ps.flatMap bl = (ps.take k).flatMap bl ++ (ps.drop k).flatMap bl := by rw [← List.flatMap_append, List.take_append_drop]
  rw [h, List.length_append]; omega
theorem upTo_len (l : List UInt8) (d : Nat) (ps : List ByteArray) (k : Nat) : (upTo l d ps k).length ≤ l.length + d + (ps.flatMap bl).length := by
  have := take_flat_le ps k
  simp only [upTo, List.length_append, List.length_replicate]; omega
theorem upTo_all (l : List UInt8) (d : Nat) (ps : List ByteArray) : upTo l d ps ps.length ++ [10] = l ++ lineT d ps := by
  simp [upTo, lineT, List.append_assoc]

set_option maxHeartbeats 2000000 in
theorem line_calls (B b g : Nat) (l : List UInt8) (d : Nat) (ps : List ByteArray) (w : World) (h : IsB B b (byteCells l) w) (hd : d ≤ 1000) (hrow : w.heap[g]? = some (.cells (ps.map Value.string).toArray 9 (0, 0))) (hg : g ≠ b) (hn : ps.length ≤ 100) (hlen : l.length + d + (ps.flatMap bl).length + 1 ≤ 140737488355328) :
    Calls Tryd.prog 20 #[.pointer (some ⟨b, 0, none⟩), .int .i64 d, .slice (some ⟨g, 0, none⟩) ps.length ps.length] w (LPost B b (l ++ lineT d ps) w) := by
  have HH := Lib.hid h
  have HR := Lib.hid hrow
  have HL := Lib.hid hlen
  have hlt := h.lt
  clear h hrow hlen
  obtain ⟨n, hnn⟩ : ∃ n, n = ps.length := ⟨_, rfl⟩
  rw [← hnn] at hn ⊢
  have HN := Lib.hid hnn
  clear hnn
  go_enter Tryd.func20, Tryd.ntmps20
  have hB0 : LW B b l w w := LW.start HH.out
  have HB0 := Lib.hid hB0
  clear hB0
  go_wp2
  go_region_with (first
    | ((go_at_call 41; refine (rep_calls d hd _).mono ?_; rintro e w1 ⟨rfl, hb1⟩; have HB1 := Lib.hid (HB0.out.drew.below hb1); clear hb1))
    | ((go_at_call 40; refine (ws_calls B b l _ w _ HB1 (by have := HL.out; show l.length + (List.replicate d 9).toArray.size ≤ _; rw [List.size_toArray, List.length_replicate]; omega)).mono ?_; rintro e w2 ⟨rfl, HB2⟩)))
  have H0 : Hid (LW B b (upTo l d ps 0) w w2) := by
    have e : l ++ bl ⟨(List.replicate d 9).toArray⟩ = upTo l d ps 0 := by simp [upTo, bl]
    rw [← e]; exact HB2
  clear HB1 HB2 HB0
  go_wp2
  go_loopw [16] (fun i wr => ∃ k : Nat, k ≤ n ∧ i = .int .i64 k ∧ Hid (LW B b (upTo l d ps k) w wr)) (fun i _ => n - (RowKit.intOf i).toNat)
  case atStart => exact ⟨0, Nat.zero_le _, rfl, H0⟩
  case round =>
    obtain ⟨k, hk, rfl, HK⟩ := hrel
    by_cases hlt2 : k < n
    · have hkp : k < ps.length := by rw [← HN.out]; exact hlt2
      obtain ⟨s, hs⟩ : ∃ s, s = ps[k] := ⟨_, rfl⟩
      have hcell : wr.cell? ⟨g, k, none⟩ = some (.string s) := by
        rw [blk_cell (HK.out.keep HR.out (by decide) hg) k, hs]
        simp [hkp]
      have hsz : (upTo l d ps k).length + s.size ≤ 140737488355328 := by
        have h1 := upTo_len l d ps (k + 1)
        have h2 := HL.out
        rw [upTo_succ l d ps k hkp, List.length_append, bl_len, ← hs] at h1
        omega
      have HS := Lib.hid hs
      have HZ := Lib.hid hsz
      clear hs hsz
      go_wp2_with (go_at_call 40; refine (ws_calls B b _ s w _ HK HZ.out).mono ?_; rintro e w3 ⟨rfl, HB3⟩)
      go_roundw
      case rel => exact ⟨k + 1, by omega, by go_num, by rw [upTo_succ l d ps k hkp, ← HS.out]; exact HB3⟩
      case measure => simp [RowKit.intOf]; omega
    · have hkn : k = ps.length := by rw [← HN.out]; omega
      have HA : Hid (LW B b (upTo l d ps ps.length) w wr) := by rw [← hkn]; exact HK
      clear hkn HK
      go_wp2_with (go_at_call 42; refine (wb_calls B b _ w _ HA (by have h1 := upTo_len l d ps ps.length; have := HL.out; omega)).mono ?_; rintro e w3 ⟨rfl, HB3⟩)
      go_end0
      rw [upTo_all] at HB3
      exact ⟨rfl, HB3.out⟩
end Go.Proofs.YtnihgifpfdlnhaaDoor.PT
