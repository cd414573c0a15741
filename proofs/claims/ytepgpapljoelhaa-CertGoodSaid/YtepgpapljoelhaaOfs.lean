/- The contract of live.Of. -/
import Derived.Test.YtepgpapljoelhaaKeys
import Derived.Test.YtepgpapljoelhaaWApart
import Derived.Deep.OwnRows
namespace Go.Proofs.Ytepgpapljoelhaa.PA
open Go.RowKit Go.WideMaps Go.Maps Go.Shelf Go.Proofs.YtepgpapljoelhaaW.PrintWords
set_option linter.unusedVariables false
set_option linter.unusedSimpArgs false

theorem setsn_calls (n : Nat) (A : Option Addr) (c : Nat) (l : List S37) (w : World) (hn : n = l.length) (hr : Kd.C k37 w A n l) (hc : n ≤ c) (hl : n ≤ 1000) (hw : ∀ c ∈ l, ∀ u ∈ us c, (Lit.int .i64 u).wf = true) : Calls Try.prog 18 #[.slice A n c] w (SetsPost l w) := by
  subst hn
  exact sets_calls A c l w hr hc hl hw
/-- Row i of live.Of. -/
def RowI (p : Nat → Int → Bool) (rows : List (List Int)) : Prop := ∀ i (h : i < rows.length), rows[i].Pairwise (· < ·) ∧ ∀ v, v ∈ rows[i] ↔ p i v = true
/-- live.Of's rows. -/
def IsRows (l : List S37) (rows : List (List Int)) : Prop := rows.length = l.length ∧ ∃ p j, p = iterP l j ∧ passD l l.length p = p ∧ RowI p rows

theorem info28 : (Try.prog.info? 28).map (fun i => (i.zero, i.size, i.bytes)) = some (some (.slice none 0 0), 1, 24) := by kernel_rfl
theorem sorted_row {w : World} {base : Nat} {v : Value} {ss : List Int} (h : w.ownsRow base 3 1 v ss.length ((ss.mergeSort (fun x y => decide (x ≤ y))).map encZ)) :
    Kd.R (Kd.int .i64) 3 w base (fun k => base ≤ k) v (ss.mergeSort (fun x y => decide (x ≤ y))) := by
  have hl : (ss.mergeSort (fun x y => decide (x ≤ y))).length = ss.length := List.length_mergeSort _
  refine ⟨fun k hk => ?_, (ss.mergeSort (fun x y => decide (x ≤ y))).map encZ, by rw [hl]; exact h, ?_⟩
  · rcases h.2 with ⟨rfl, _⟩ | ⟨g, cap', cur, rfl, hb, _⟩
    · cases hk
    · simp [Value.ownBlock] at hk
      omega
  · refine ⟨by rw [List.length_map]; exact (Nat.mul_one _).symm, fun j x hj => ?_⟩
    show List.take 1 (List.drop (j * 1) _) = [Value.int .i64 x]
    rw [Nat.mul_one]
    apply List.ext_getElem?
    intro i
    rw [List.getElem?_take, List.getElem?_drop]
    cases i with
    | zero => simp [hj]
    | succ i => simp
theorem sorted_lt (ss : List Int) (h : ss.Nodup) : (ss.mergeSort (fun x y => decide (x ≤ y))).Pairwise (· < ·) := by
  have h1 : (ss.mergeSort (fun x y => decide (x ≤ y))).Pairwise (fun x y => decide (x ≤ y) = true) := List.pairwise_mergeSort (fun a b c => by simp; omega) (fun a b => by simp; omega) ss
  have h2 : (ss.mergeSort (fun x y => decide (x ≤ y))).Nodup := (List.mergeSort_perm ss _).nodup_iff.2 h
  refine (h1.and h2).imp (fun {a b} q => ?_)
  have := q.1
  have := q.2
  simp at *
  omega
theorem keys_mem {w : World} {b : Nat} {D : DataW Unit} (h : OwnS w b D) : (intKeys D).Nodup ∧ ∀ v, v ∈ intKeys D ↔ has D (ky v) = true := by
  obtain ⟨es, clock, hb, F, hs, hD⟩ := h.own
  obtain ⟨ds, rfl, hpw⟩ := h.tidy
  have hk : ∀ p ∈ ds, ∃ v : Int, p.1 = Lit.int .i64 v := fun p hp => by
    injection hD with hD
    rw [hD] at hp
    obtain ⟨x, hx, rfl⟩ := List.mem_map.1 (mem_sorted.1 hp)
    obtain ⟨y, hy⟩ := F.reads x hx
    have hkey := WideElems.rd_key hy
    obtain ⟨v, _, e, _⟩ := Maps.keyOf_int_inv Try.underlying3 hkey
    exact ⟨v, by rw [WideElems.rg_of hy, e]⟩
  constructor
  · show (ds.map fun p => Go.intOf p.1).Nodup
    refine List.pairwise_map.2 (hpw.imp_of_mem fun {p q} hp' hq' hne e => hne ?_)
    obtain ⟨a, ha⟩ := hk p hp'
    obtain ⟨b, hb⟩ := hk q hq'
    rw [ha, hb] at e ⊢
    exact congrArg _ e
  · intro x
    rw [has_eq, List.any_eq_true]
    show x ∈ ds.map (fun p => Go.intOf p.1) ↔ _
    rw [List.mem_map]
    constructor
    · rintro ⟨p, hp', rfl⟩
      obtain ⟨a, ha⟩ := hk p hp'
      exact ⟨p, hp', by rw [ha]; simp [Lit.sameKey, Go.intOf]⟩
    · rintro ⟨p, hp', hs⟩
      obtain ⟨a, ha⟩ := hk p hp'
      rw [ha] at hs
      exact ⟨p, hp', by rw [ha]; simpa [Lit.sameKey, Go.intOf] using hs⟩
theorem RowI.snoc {n k : Nat} {Ds : Nat → DataW Unit} {rows : List (List Int)} {sx : List Int} (h : rows.length = k ∧ RowI (PP n Ds) rows) (hx : sx.Pairwise (· < ·) ∧ ∀ v, v ∈ sx ↔ has (Ds k) (ky v) = true) (hk : k < n) : (rows ++ [sx]).length = k + 1 ∧ RowI (PP n Ds) (rows ++ [sx]) := by
  obtain ⟨rfl, h⟩ := h
  refine ⟨by simp, fun i hi => ?_⟩
  by_cases e : i < rows.length
  · rw [List.getElem_append_left e]
    exact h i e
  · obtain rfl : i = rows.length := by simp at hi; omega
    rw [List.getElem_append_right (Nat.le_refl _)]
    simp only [Nat.sub_self, List.getElem_cons_zero]
    refine ⟨hx.1, fun v => (hx.2 v).trans ?_⟩
    simp [PP, hk]
set_option maxHeartbeats 2000000 in
set_option maxRecDepth 100000 in
theorem ofs_calls (A : Option Addr) (cap : Nat) (l : List S37) (w : World) (hr : Kd.C k37 w A l.length l) (hc : l.length ≤ cap) (hl : l.length ≤ 1000) (hw : ∀ c ∈ l, ∀ u ∈ us c, (Lit.int .i64 u).wf = true) :
    Calls Try.prog 15 #[.slice A l.length cap] w fun e w' => ∃ (v : Value) (rows : List (List Int)), e = .returned v ∧ IsRows l rows ∧ Kd.S (Kd.slice 3 (Kd.int .i64)) 28 w' w.heap.size (fun _ => True) v rows ∧ Below w.heap.size w w' := by
  have HR := Lib.hid hr
  clear hr
  obtain ⟨n, hn⟩ : ∃ n, n = l.length := ⟨_, rfl⟩
  rw [← hn] at hc hl HR ⊢
  have HN := Lib.hid hn
  clear hn
  go_enter Try.func15, Try.ntmps15
  go_wp2_with fail
  refine (setsn_calls n A cap l _ HN.out HR.out hc hl hw).mono ?_
  rintro e w1 ⟨ms, Ds, j, rfl, hml, hnd, hst, hj, hfix⟩
  rw [← HN.out] at hml hst hj hfix ⊢
  have HST := Lib.hid hst
  have HJ := Lib.hid hj
  have HX := Lib.hid hfix
  have HND := Lib.hid hnd
  have HML := Lib.hid hml
  have hb0 := Lib.hid hst.2.2.2.1
  clear hst hj hfix hnd hml
  go_wp2_with fail
  go_loopw [9, 3] (fun i v wr => ∃ (k : Nat) (rows : List (List Int)), k ≤ n ∧ i = .int .i64 k ∧ Hid (rows.length = k ∧ RowI (PP n Ds) rows) ∧ Hid (Kd.S (Kd.slice 3 (Kd.int .i64)) 28 wr w1.heap.size (fun _ => True) v rows) ∧ Hid (Below w1.heap.size w1 wr)) (fun i _ _ => n - (intOf i).toNat)
  case atStart => exact ⟨0, [], Nat.zero_le _, rfl, Lib.hid ⟨rfl, fun i h => absurd h (Nat.not_lt_zero _)⟩, Lib.hid (Kd.S_nil _ _ _ _ _), Lib.hid (Below.refl _ _)⟩
  case round =>
    obtain ⟨k, rows, hk, rfl, HRW, HS, HBQ⟩ := hrel
    by_cases hkn : k < n
    · have hst := HST.out.below HBQ.out
      have hc0 := hst.cell HML.out k hkn
      obtain ⟨b, hb⟩ : ∃ b, b = ms[k]'(by have := HML.out; omega) := ⟨_, rfl⟩
      rw [← hb] at hc0
      have hown := (hst.2.1 k (by have := HML.out; omega)).1
      rw [← hb] at hown
      have hsz := hst.size HML.out HN.out k hkn
      have HO := Lib.hid hown
      have hk2 : (k : Int) < (n : Int) := by omega
      clear hb hown hst
      go_wp2_with fail
      refine (keys_calls _ _).mono ?_
      rintro e w2 ⟨rfl, hw2⟩
      go_wp2_with fail
      have hmx : Maps.size (Ds k) ≤ maxLen := by unfold maxLen; omega
      refine (sorted_calls b _ (Ds k) R4 wr HO.out.own hmx (by omega)).mono ?_
      rintro e w3 ⟨v, ss, rfl, hperm, hrow, hnil, hb3⟩
      rw [← hw2] at hrow hb3
      have hw2s : w2.heap.size = wr.heap.size + 1 := by rw [hw2]; simp
      have hb2 : Below wr.heap.size wr w2 := by rw [hw2]; exact (Below.refl _ wr).alloc (Nat.le_refl _) _
      have hbr : Below wr.heap.size wr w3 := hb2.trans (hb3.mono (by omega))
      have HSO := Lib.hid (Kd.S_below (Kd.S_bound HS.out) hbr)
      have HB3 := Lib.hid (HBQ.out.trans (hbr.mono HBQ.out.size))
      have HV := Lib.hid (Kd.R_mono (sorted_row hrow) (fun k hk => hk))
      have hwr : w1.heap.size ≤ wr.heap.size := HBQ.out.size
      have hw3 : wr.heap.size ≤ w3.heap.size := hbr.size
      have hkm := keys_mem HO.out
      have HNEW := Lib.hid (show (ss.mergeSort (fun x y => decide (x ≤ y))).Pairwise (· < ·) ∧ ∀ v, v ∈ ss.mergeSort (fun x y => decide (x ≤ y)) ↔ has (Ds k) (ky v) = true from ⟨sorted_lt ss (hperm.nodup_iff.2 hkm.1), fun v => (List.mem_mergeSort).trans (hperm.mem_iff.trans (hkm.2 v))⟩)
      clear hperm hrow hnil hkm hb3 hb2 hbr
      generalize ss.mergeSort (fun x y => decide (x ≤ y)) = sx at HV HNEW
      obtain ⟨Av, cv, rfl⟩ := Kd.R_slice HV.out
      go_wp2_with (first | ((with_reducible refine gate_builtin (b := .append) (xs := #[.tmp 13, .tmp 17]) rfl ?_); at_builtin; refine Kd.S_append (Kd.slice 3 (Kd.int .i64)) (w0 := w1) (W := w3) w1.heap.size rfl (.tmp 13) (.tmp 17) 42 28 (.slice none 0 0) 24 rfl Try.underlying42 info28 rfl (by decide) (by omega) u3 rows sx [.slice Av sx.length cv] (fun _ => True) (fun k => w2.heap.size ≤ k) rfl rfl ?aP ?aK ?aF ?aO ?aB ?aS ?aL ?_) | fail)
      case aP => exact ⟨_, rfl, Kd.R_lower HV.out (by omega)⟩
      case aK => exact fun k hk => ⟨trivial, fun he => by have := Kd.S_lt HS.out k he.symm; omega⟩
      case aF => exact fun _ _ => trivial
      case aO => exact Kd.S_mono HSO.out (fun k hk => ⟨trivial, by have := hk.2.2.1; omega⟩)
      case aB => exact HB3.out
      case aS => exact HB3.out.size
      case aL => have := HRW.out.1; omega
      intro v1 w4 hS4 hb4 hg4 hat4
      have HS4 := Lib.hid hS4
      have HB4 := Lib.hid hb4
      clear hS4 hb4 hg4 hat4 HSO HB3
      go_wp2_with fail
      go_roundw
      case rel => exact ⟨k + 1, rows ++ [sx], by omega, by go_num, Lib.hid (RowI.snoc HRW.out HNEW.out hkn), HS4, HB4⟩
      case measure => simp [intOf]; omega
    · obtain rfl : n = k := by omega
      go_wp2_with fail
      go_ret
      exact ⟨_, rows, rfl, ⟨HRW.out.1.trans HN.out, _, j, HJ.out, HN.out ▸ HX.out, HRW.out.2⟩, Kd.S_lower HS.out hb0.out.size, hb0.out.trans (HBQ.out.mono hb0.out.size)⟩
#print axioms ofs_calls
end Go.Proofs.Ytepgpapljoelhaa.PA
