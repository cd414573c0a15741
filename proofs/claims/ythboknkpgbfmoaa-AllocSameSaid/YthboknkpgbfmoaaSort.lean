/- The contract of slices.SortStableFunc over numbers with keys. -/
import Derived.Test.YthboknkpgbfmoaaFuncs
import Derived.Deep.QuietTactic
import Derived.BigQuiet
namespace Go.Proofs.Ythboknkpgbfmoaa.PA
open Go.RowKit Go.WideMaps Go.Maps Go.Shelf Go.Proofs.YthboknkpgbfmoaaW.PrintWords
set_option linter.unusedVariables false
set_option linter.unusedSimpArgs false

/-- A function value that compares numbers by their keys. -/
def Cmps (f : Nat) (lb : Array Value) (key : Int → Int) (w : World) (row : Option Nat) (xs : List Int) : Prop :=
  ∀ (W : World) (x y : Int), x ∈ xs → y ∈ xs → w.grownBy W row → Calls Try.prog f (#[.int .i64 x, .int .i64 y] ++ lb) W (fun e w' => e = .returned (.int .i64 (key x - key y)) ∧ ∃ q, w' = W.drewN q)
/-- Sorted but at j. -/
def Srt (key : Int → Int) (a b j : Nat) (c : List Int) : Prop := ∀ p q, a ≤ p → p < q → q < b → q ≠ j → key (c.getD p 0) ≤ key (c.getD q 0)
def Same (key : Int → Int) (c xs : List Int) : Prop := c.length = xs.length ∧ ∀ k, (c.filter fun x => decide (key x = k)) = xs.filter fun x => decide (key x = k)
def swap (c : List Int) (j : Nat) : List Int := (c.set j (c.getD (j - 1) 0)).set (j - 1) (c.getD j 0)
theorem swap_len (c : List Int) (j : Nat) : (swap c j).length = c.length := by simp [swap]
theorem swap_get (c : List Int) (j : Nat) (h0 : 0 < j) (h1 : j < c.length) (p : Nat) : (swap c j).getD p 0 = if p = j then c.getD (j - 1) 0 else if p = j - 1 then c.getD j 0 else c.getD p 0 := by
  unfold swap
  simp only [List.getD_eq_getElem?_getD, List.getElem?_set, List.length_set]
  by_cases e1 : p = j
  · subst e1
    simp [show ¬ p - 1 = p by omega, h1]
  · by_cases e2 : p = j - 1
    · subst e2
      simp [e1, show j - 1 < c.length by omega]
    · have q1 : ¬ j - 1 = p := fun h => e2 h.symm
      have q2 : ¬ j = p := fun h => e1 h.symm
      simp [e1, e2, q1, q2]
theorem swap_eq (c : List Int) (j : Nat) (h0 : 0 < j) (h1 : j < c.length) : ∃ l r, c = l ++ [c.getD (j - 1) 0, c.getD j 0] ++ r ∧ swap c j = l ++ [c.getD j 0, c.getD (j - 1) 0] ++ r := by
  have hx : c.getD (j - 1) 0 = c[j - 1] := by simp [List.getD_eq_getElem?_getD, show j - 1 < c.length by omega]
  have hy : c.getD j 0 = c[j] := by simp [List.getD_eq_getElem?_getD, h1]
  refine ⟨c.take (j - 1), c.drop (j + 1), ?_, ?_⟩
  · rw [hx, hy]
    have e1 : c.drop (j - 1) = c[j - 1] :: c[j] :: c.drop (j + 1) := by
      rw [List.drop_eq_getElem_cons (by omega)]
      congr 1
      rw [show j - 1 + 1 = j by omega, List.drop_eq_getElem_cons h1]
    have := (List.take_append_drop (j - 1) c).symm
    rw [e1] at this
    rw [List.append_assoc]
    exact this
  · apply List.ext_getElem?
    intro p
    by_cases hp : p < c.length
    · have h3 := swap_get c j h0 h1 p
      have e1 : (swap c j)[p]? = some ((swap c j).getD p 0) := by simp [List.getD_eq_getElem?_getD, swap_len, hp]
      rw [e1, h3]
      rw [List.append_assoc, List.getElem?_append]
      have hl : (c.take (j - 1)).length = j - 1 := by simp; omega
      rw [hl]
      by_cases q : p < j - 1
      · rw [if_pos q, if_neg (by omega), if_neg (by omega), List.getElem?_take, if_pos q]
        simp [List.getD_eq_getElem?_getD, hp]
      · rw [if_neg q]
        by_cases q1 : p = j
        · subst q1
          rw [if_pos rfl, show p - (p - 1) = 1 by omega]
          simp
        · rw [if_neg q1]
          by_cases q2 : p = j - 1
          · subst q2
            rw [if_pos rfl, Nat.sub_self]
            simp
          · rw [if_neg q2]
            obtain ⟨m, rfl⟩ : ∃ m, p = j + 1 + m := ⟨p - (j + 1), by omega⟩
            rw [show j + 1 + m - (j - 1) = m + 2 by omega]
            simp [List.getD_eq_getElem?_getD, hp]
    · rw [List.getElem?_eq_none (by rw [swap_len]; omega), List.getElem?_eq_none (by simp; omega)]
theorem swap_same {key : Int → Int} {c xs : List Int} {j : Nat} (h : Same key c xs) (h0 : 0 < j) (h1 : j < c.length) (hk : key (c.getD j 0) < key (c.getD (j - 1) 0)) : Same key (swap c j) xs := by
  refine ⟨by rw [swap_len]; exact h.1, fun k => ?_⟩
  rw [← h.2 k]
  obtain ⟨l, r, e1, e2⟩ := swap_eq c j h0 h1
  rw [e2]
  conv => rhs; rw [e1]
  generalize c.getD j 0 = y at hk ⊢
  generalize c.getD (j - 1) 0 = x at hk ⊢
  simp only [List.filter_append, List.filter_cons, List.filter_nil]
  by_cases q : key y = k
  · have : ¬ key x = k := by omega
    simp [q, this]
  · simp [q]
theorem swap_srt {key : Int → Int} {c : List Int} {a b j : Nat} (h : Srt key a b j c) (h0 : a < j) (h1 : j < c.length) (hk : key (c.getD j 0) < key (c.getD (j - 1) 0)) : Srt key a b (j - 1) (swap c j) := by
  intro p q hp hpq hq hne
  rw [swap_get c j (by omega) h1, swap_get c j (by omega) h1]
  by_cases e1 : q = j
  · subst e1
    rw [if_pos rfl, if_neg (by omega)]
    by_cases e2 : p = q - 1
    · rw [if_pos e2]; omega
    · rw [if_neg e2]
      exact h p (q - 1) hp (by omega) (by omega) (by omega)
  · rw [if_neg e1, if_neg hne]
    by_cases e2 : p = j
    · rw [if_pos e2]
      exact h (j - 1) q (by omega) (by omega) hq e1
    · rw [if_neg e2]
      by_cases e3 : p = j - 1
      · rw [if_pos e3]
        exact h j q (by omega) (by omega) hq e1
      · rw [if_neg e3]
        exact h p q hp hpq hq e1
theorem srt_end {key : Int → Int} {c : List Int} {a b j : Nat} (h : Srt key a b j c) (he : j ≤ a ∨ key (c.getD (j - 1) 0) ≤ key (c.getD j 0)) : Srt key a b b c := by
  intro p q hp hpq hq hne
  by_cases e : q = j
  · subst e
    rcases he with he | he
    · omega
    · by_cases e2 : p = q - 1
      · rw [e2]; exact he
      · exact Int.le_trans (h p (q - 1) hp (by omega) (by omega) (by omega)) he
  · exact h p q hp hpq hq e

def SortPost (base : Nat) (key : Int → Int) (a b : Nat) (v : Value) (xs : List Int) (w : World) (e : Ending) (w' : World) : Prop :=
  e = .returned (.tuple #[]) ∧ ∃ c, RI base w' v c ∧ Same key c xs ∧ Srt key a b b c ∧ (Srt key 0 xs.length xs.length xs → c = xs) ∧ w.grownBy w' v.ownBlock
set_option maxHeartbeats 1000000 in
set_option maxRecDepth 100000 in
theorem insertion_calls (base f a b : Nat) (lb : Array Value) (key : Int → Int) (g cap : Nat) (xs : List Int) (w : World) (eg : ∀ args w, (callFunc f args).run Try.prog w = .ok (.enter f args) w)
    (hr : RI base w (.slice (some ⟨g, 0, none⟩) xs.length cap) xs) (hlen : xs.length ≤ 1000) (hab : a ≤ b) (hb : b ≤ xs.length) (hp : Cmps f lb key w (some g) xs) (hkey : ∀ x ∈ xs, 0 ≤ key x ∧ key x ≤ 100000) :
    Calls Try.prog 43 #[.slice (some ⟨g, 0, none⟩) xs.length cap, .int .i64 a, .int .i64 b, .func (.func f) #[] lb] w (SortPost base key a b (.slice (some ⟨g, 0, none⟩) xs.length cap) xs w) := by
  have HR := Lib.hid hr
  have HP := Lib.hid hp
  have HK := Lib.hid hkey
  clear hr hp hkey
  obtain ⟨n, hn⟩ : ∃ n, n = xs.length := ⟨_, rfl⟩
  rw [← hn] at hlen hb ⊢
  have HN := Lib.hid hn
  clear hn
  go_enter Try.func43, Try.ntmps43
  go_wp2_with fail
  go_loopw [8] (fun i wr => ∃ (m : Nat) (c : List Int), i = .int .i64 m ∧ a + 1 ≤ m ∧ (m ≤ b ∨ m = a + 1) ∧ Hid (RI base wr (.slice (some ⟨g, 0, none⟩) c.length cap) c) ∧ Hid (Same key c xs ∧ Srt key a m m c ∧ (Srt key 0 n n xs → c = xs)) ∧ Hid (w.grownBy wr (some g))) (fun i _ => n + 1 - (intOf i).toNat)
  case atStart => exact ⟨a + 1, xs, by go_num, by omega, .inr rfl, Lib.hid HR.out, Lib.hid ⟨⟨rfl, fun _ => rfl⟩, fun p q h1 h2 h3 h4 => by omega, fun _ => rfl⟩, Lib.hid (World.grownBy.refl _ _)⟩
  case round =>
    obtain ⟨m, c, rfl, hm0, hm1, HY, HS, HG⟩ := hrel
    by_cases hlt : m < b
    · go_wp2_with fail
      go_loopw [9] (fun i wr => ∃ (j : Nat) (d : List Int), i = .int .i64 j ∧ a ≤ j ∧ j ≤ m ∧ Hid (RI base wr (.slice (some ⟨g, 0, none⟩) d.length cap) d) ∧ Hid (Same key d xs ∧ Srt key a (m + 1) j d ∧ (Srt key 0 n n xs → d = xs)) ∧ Hid (w.grownBy wr (some g))) (fun i _ => (intOf i).toNat)
      case atStart => exact ⟨m, c, rfl, by omega, Nat.le_refl _, HY, Lib.hid ⟨HS.out.1, fun p q h1 h2 h3 h4 => HS.out.2.1 p q h1 h2 (by omega) (by omega), HS.out.2.2⟩, HG⟩
      case round =>
        clear HY HS HG
        obtain ⟨j, d, rfl, hja, hjm, HY, HS, HG⟩ := hrel
        have hl : d.length = n := by rw [HS.out.1.1, HN.out]
        have HL := Lib.hid hl
        clear hl
        by_cases hja2 : a < j
        · rcases HY.out.form with ⟨e, _⟩ | ⟨g', cap', e, _, hg2, _, hcell⟩
          · cases e
          simp only [Value.slice.injEq, Option.some.injEq, Addr.mk.injEq, and_true, true_and] at e
          obtain ⟨rfl, rfl⟩ := e
          have hj1 : j < d.length := by rw [HL.out]; omega
          obtain ⟨x, hx⟩ : ∃ x, x = d[j]'hj1 := ⟨_, rfl⟩
          obtain ⟨y, hy⟩ : ∃ y, y = d[j - 1]'(by omega) := ⟨_, rfl⟩
          obtain ⟨cx, fx⟩ := hcell j hj1
          obtain ⟨cy, fy⟩ := hcell (j - 1) (by omega)
          rw [← hx] at cx
          rw [← hy] at cy
          have hmem : ∀ z ∈ d, z ∈ xs := fun z hz => by
            have h1 : z ∈ d.filter (fun x => decide (key x = key z)) := List.mem_filter.2 ⟨hz, by simp⟩
            rw [HS.out.1.2] at h1
            exact (List.mem_filter.1 h1).1
          have hxm : x ∈ xs := hmem x (by rw [hx]; exact List.getElem_mem _)
          have hym : y ∈ xs := hmem y (by rw [hy]; exact List.getElem_mem _)
          have hcall : ∀ q, Calls Try.prog f (#[.int .i64 x, .int .i64 y] ++ lb) (wr.drewN q) (fun e w' => e = .returned (.int .i64 (key x - key y)) ∧ ∃ m, w' = (wr.drewN q).drewN m) := fun q => HP.out (wr.drewN q) x y hxm hym ⟨HG.out.os, HG.out.tape, HG.out.output, HG.out.size, HG.out.block⟩
          have HCALL := Lib.hid hcall
          have hxd : d.getD j 0 = x := by rw [hx]; simp [List.getD_eq_getElem?_getD, hj1]
          have hyd : d.getD (j - 1) 0 = y := by rw [hy]; simp [List.getD_eq_getElem?_getD, show j - 1 < d.length by omega]
          have HXD := Lib.hid hxd
          have HYD := Lib.hid hyd
          clear hcall hx hy hxd hyd hmem hcell
          have hgt : ((a : Int) < (j : Int)) := by omega
          have hk1 := HK.out x hxm
          have hk2 := HK.out y hym
          obtain ⟨j1, rfl⟩ : ∃ j1, j = j1 + 1 := ⟨j - 1, by omega⟩
          rw [Nat.add_sub_cancel] at cy fy
          have hgt2 : (a : Int) < (j1 : Int) + 1 := by omega
          have hjn : (j1 : Int) + 1 < (n : Int) := by have := HL.out; omega
          have e1 : ((j1 : Int) + 1 - 1) = (j1 : Int) := by omega
          have hj0 : ((j1 : Nat) : Int) < (n : Int) := by omega
          go_wp2_with fail
          go_quiet (first | (go_at_fn f; exact Calls.quiet_of (HCALL.out _)))
          have hg3 : w.grownBy (wr.drewN nq) (some g) := ⟨HG.out.os, HG.out.tape, HG.out.output, HG.out.size, HG.out.block⟩
          have hY3 : RI base (wr.drewN nq) (.slice (some ⟨g, 0, none⟩) d.length cap) d := HY.out
          replace cx : (wr.drewN nq).cell? ⟨g, j1 + 1, none⟩ = some (.int .i64 x) := cx
          replace cy : (wr.drewN nq).cell? ⟨g, j1, none⟩ = some (.int .i64 y) := cy
          replace fx : (wr.drewN nq).frozen? ⟨g, j1 + 1, none⟩ = false := fx
          replace fy : (wr.drewN nq).frozen? ⟨g, j1, none⟩ = false := fy
          clear HY HG hg2 HCALL
          generalize wr.drewN nq = w3 at hg3 hY3 cx cy fx fy ⊢
          have HY := Lib.hid hY3
          have HG := Lib.hid hg3
          clear hg3 hY3
          have hxk : key (d.getD (j1 + 1) 0) = key x := by rw [HXD.out]
          have hyk : key (d.getD (j1 + 1 - 1) 0) = key y := by rw [HYD.out]
          have HXK := Lib.hid hxk
          have HYK := Lib.hid hyk
          clear hxk hyk
          by_cases hless : key x - key y < 0
          · go_wp2_with fail
            go_region
            all_goals go_wp2_with fail
            go_roundw
            case rel =>
              have hlt2 : key (d.getD (j1 + 1) 0) < key (d.getD (j1 + 1 - 1) 0) := by rw [HXK.out, HYK.out]; omega
              have hsw : swap d (j1 + 1) = (d.set (j1 + 1) y).set j1 x := by unfold swap; rw [HXD.out, HYD.out, Nat.add_sub_cancel]
              have hl2 : (swap d (j1 + 1)).length = d.length := swap_len _ _
              refine ⟨j1, swap d (j1 + 1), rfl, by omega, by omega, Lib.hid ?_, Lib.hid ⟨swap_same HS.out.1 (by omega) hj1 hlt2, swap_srt HS.out.2.1 hja2 hj1 hlt2, fun hs => ?_⟩, Lib.hid ?_⟩
              · have q1 := HY.out.set (j1 + 1) y
                rw [show d.length = (d.set (j1 + 1) y).length by simp] at q1
                have q2 := q1.set j1 x
                rw [← hsw] at q2
                rw [hl2]
                rw [show (d.set (j1 + 1) y).length = d.length by simp] at q2
                exact q2
              · have e := HS.out.2.2 hs
                have := hs (j1 + 1 - 1) (j1 + 1) (by omega) (by omega) (by rw [← HL.out]; omega) (by rw [← HL.out]; omega)
                rw [← e] at this
                omega
              · have h := grownBy_set (grownBy_set HG.out ⟨g, j1 + 1, none⟩ rfl (.int .i64 y)) ⟨g, j1, none⟩ rfl (.int .i64 x)
                exact ⟨h.os, h.tape, h.output, h.size, h.block⟩
            case measure => simp [intOf]
          · go_wp2_with fail
            go_roundw
            case rel =>
              have h := srt_end HS.out.2.1 (.inr (by rw [HXK.out, HYK.out]; omega))
              exact ⟨m + 1, d, by go_num, by omega, .inl (by omega), HY, Lib.hid ⟨HS.out.1, h, HS.out.2.2⟩, HG⟩
            case measure => simp [intOf]; omega
        · obtain rfl : a = j := by omega
          have hnlt : decide ((a : Int) < (a : Int)) = false := by simp
          go_wp2_with fail
          go_quiet (fail)
          have hg3 : w.grownBy (wr.drewN nq) (some g) := ⟨HG.out.os, HG.out.tape, HG.out.output, HG.out.size, HG.out.block⟩
          have hY3 : RI base (wr.drewN nq) (.slice (some ⟨g, 0, none⟩) d.length cap) d := HY.out
          generalize wr.drewN nq = w3 at hg3 hY3 ⊢
          have HY3 := Lib.hid hY3
          have HG3 := Lib.hid hg3
          clear hg3 hY3
          go_wp2_with fail
          go_roundw
          case rel =>
            have h := srt_end HS.out.2.1 (.inl (Nat.le_refl _))
            exact ⟨m + 1, d, by go_num, by omega, .inl (by omega), HY3, Lib.hid ⟨HS.out.1, h, HS.out.2.2⟩, HG3⟩
          case measure => simp [intOf]; omega
    · go_wp2_with fail
      go_end0
      have hl : c.length = n := by rw [HS.out.1.1, HN.out]
      refine ⟨rfl, c, ?_, HS.out.1, fun p q h1 h2 h3 h4 => HS.out.2.1 p q h1 h2 (by omega) (by omega), by rw [← HN.out]; exact HS.out.2.2, HG.out⟩
      rw [← hl]
      exact HY.out

theorem insertionn_calls (base f b n : Nat) (lb : Array Value) (key : Int → Int) (g cap : Nat) (xs : List Int) (w : World) (hn : n = xs.length) (eg : ∀ args w, (callFunc f args).run Try.prog w = .ok (.enter f args) w)
    (hr : RI base w (.slice (some ⟨g, 0, none⟩) xs.length cap) xs) (hlen : xs.length ≤ 1000) (hb : b ≤ xs.length) (hp : Cmps f lb key w (some g) xs) (hkey : ∀ x ∈ xs, 0 ≤ key x ∧ key x ≤ 100000) :
    Calls Try.prog 43 #[.slice (some ⟨g, 0, none⟩) n cap, .int .i64 0, .int .i64 b, .func (.func f) #[] lb] w (SortPost base key 0 b (.slice (some ⟨g, 0, none⟩) xs.length cap) xs w) := by
  subst hn
  exact insertion_calls base f 0 b lb key g cap xs w eg hr hlen (Nat.zero_le _) hb hp hkey
set_option maxHeartbeats 1000000 in
set_option maxRecDepth 100000 in
theorem stable_calls (base f n : Nat) (lb : Array Value) (key : Int → Int) (g cap : Nat) (xs : List Int) (w : World) (hn : n = xs.length) (eg : ∀ args w, (callFunc f args).run Try.prog w = .ok (.enter f args) w)
    (hr : RI base w (.slice (some ⟨g, 0, none⟩) xs.length cap) xs) (hlen : n < 20) (hp : Cmps f lb key w (some g) xs) (hkey : ∀ x ∈ xs, 0 ≤ key x ∧ key x ≤ 100000) :
    Calls Try.prog 38 #[.slice (some ⟨g, 0, none⟩) n cap, .int .i64 n, .func (.func f) #[] lb] w (SortPost base key 0 n (.slice (some ⟨g, 0, none⟩) xs.length cap) xs w) := by
  have H := Lib.hid (insertionn_calls base f n n lb key g cap xs w hn eg hr (by omega) (by omega) hp hkey)
  clear hr hp hkey hn
  go_enter Try.func38, Try.ntmps38
  go_wp2_with fail
  go_loopw [7, 8] (fun s7 s8 wr => s7 = .int .i64 0 ∧ s8 = .int .i64 20 ∧ wr = w) (fun _ _ _ => 0)
  case atStart => exact ⟨rfl, rfl, rfl⟩
  case round =>
    obtain ⟨rfl, rfl, rfl⟩ := hrel
    have hge : ¬ (20 : Int) ≤ (n : Int) := by omega
    go_wp2_with fail
    refine H.out.mono ?_
    rintro e w1 ⟨rfl, hpost⟩
    have HPOST := Lib.hid hpost
    clear hpost H
    go_wp2_with fail
    go_loopw [6] (fun s6 wr => s6 = .int .i64 20 ∧ wr = w1) (fun _ _ => 0)
    case atStart => exact ⟨rfl, rfl⟩
    case round =>
      obtain ⟨rfl, rfl⟩ := hrel
      have hge : ¬ (20 : Int) < (n : Int) := by omega
      go_wp2_with fail
      go_end0
      exact ⟨rfl, HPOST.out⟩
set_option maxHeartbeats 1000000 in
set_option maxRecDepth 100000 in
theorem insertion_nil (f : Nat) (lb : Array Value) (w : World) : Calls Try.prog 43 #[.slice none 0 0, .int .i64 0, .int .i64 0, .func (.func f) #[] lb] w (fun e w' => e = .returned (.tuple #[]) ∧ w' = w) := by
  go_enter Try.func43, Try.ntmps43
  go_wp2_with fail
  go_loopw [8] (fun i wr => i = .int .i64 1 ∧ wr = w) (fun _ _ => 0)
  case atStart => exact ⟨rfl, rfl⟩
  case round =>
    obtain ⟨rfl, rfl⟩ := hrel
    go_wp2_with fail
    go_end0
    exact ⟨rfl, rfl⟩
set_option maxHeartbeats 1000000 in
set_option maxRecDepth 100000 in
theorem stable_nil (f : Nat) (lb : Array Value) (w : World) : Calls Try.prog 38 #[.slice none 0 0, .int .i64 0, .func (.func f) #[] lb] w (fun e w' => e = .returned (.tuple #[]) ∧ w' = w) := by
  go_enter Try.func38, Try.ntmps38
  go_wp2_with fail
  go_loopw [7, 8] (fun s7 s8 wr => s7 = .int .i64 0 ∧ s8 = .int .i64 20 ∧ wr = w) (fun _ _ _ => 0)
  case atStart => exact ⟨rfl, rfl, rfl⟩
  case round =>
    obtain ⟨rfl, rfl, rfl⟩ := hrel
    go_wp2_with fail
    refine (insertion_nil f lb wr).mono ?_
    rintro e w1 ⟨rfl, rfl⟩
    go_wp2_with fail
    go_loopw [6] (fun s6 wr => s6 = .int .i64 20 ∧ wr = w1) (fun _ _ => 0)
    case atStart => exact ⟨rfl, rfl⟩
    case round =>
      obtain ⟨rfl, rfl⟩ := hrel
      go_wp2_with fail
      go_end0
      exact ⟨rfl, rfl⟩
set_option maxHeartbeats 1000000 in
set_option maxRecDepth 100000 in
theorem sortstable_calls (base f : Nat) (lb : Array Value) (key : Int → Int) (v : Value) (xs : List Int) (w : World) (eg : ∀ args w, (callFunc f args).run Try.prog w = .ok (.enter f args) w)
    (hr : RI base w v xs) (hlen : xs.length < 20) (hp : Cmps f lb key w v.ownBlock xs) (hkey : ∀ x ∈ xs, 0 ≤ key x ∧ key x ≤ 100000) :
    Calls Try.prog 26 #[v, .func (.func f) #[] lb] w (SortPost base key 0 xs.length v xs w) := by
  rcases hr.form with ⟨rfl, rfl⟩ | ⟨g, cap, rfl, hg0, hg1, hcap, hcell⟩
  · go_enter Try.func26, Try.ntmps26
    go_wp2_with fail
    refine (stable_nil f lb w).mono ?_
    rintro e w1 ⟨rfl, rfl⟩
    go_wp2_with fail
    go_end0
    exact ⟨rfl, [], hr, ⟨rfl, fun _ => rfl⟩, fun p q h1 h2 h3 h4 => absurd h3 (by simp), fun _ => rfl, World.grownBy.refl _ _⟩
  · obtain ⟨n, hn⟩ : ∃ n, n = xs.length := ⟨_, rfl⟩
    have H := Lib.hid (stable_calls base f n lb key g cap xs w hn eg hr (by omega) hp hkey)
    clear hr hp hkey hcell
    rw [← hn] at hlen hcap ⊢
    have HN := Lib.hid hn
    clear hn
    go_enter Try.func26, Try.ntmps26
    go_wp2_with fail
    refine H.out.mono ?_
    rintro e w1 ⟨rfl, hpost⟩
    have HPOST := Lib.hid hpost
    clear hpost H
    go_wp2_with fail
    go_end0
    refine ⟨rfl, ?_⟩
    have := HPOST.out
    rw [HN.out] at this ⊢
    exact this
#print axioms sortstable_calls
end Go.Proofs.Ythboknkpgbfmoaa.PA
