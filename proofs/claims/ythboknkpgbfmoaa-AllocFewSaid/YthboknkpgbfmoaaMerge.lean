/- slices.SortStableFunc over numbers that are sorted: nothing is moved. -/
import Derived.Test.YthboknkpgbfmoaaSort
namespace Go.Proofs.Ythboknkpgbfmoaa.PA
open Go.RowKit Go.WideMaps Go.Maps Go.Shelf Go.Proofs.YthboknkpgbfmoaaW.PrintWords
set_option linter.unusedVariables false
set_option linter.unusedSimpArgs false

def Sorted (key : Int → Int) (xs : List Int) : Prop := ∀ p q, p ≤ q → q < xs.length → key (xs.getD p 0) ≤ key (xs.getD q 0)
/-- What the walk asks of the numbers: where they lie, and how two of them compare. -/
def Data (f : Nat) (lb : Array Value) (key : Int → Int) (g n : Nat) (xs : List Int) (w : World) : Prop :=
  n = xs.length ∧ (∀ k, k < n → w.cell? ⟨g, k, none⟩ = some (.int .i64 (xs.getD k 0))) ∧ ∀ (p q : Nat) (W : World), p < n → q < n → Below w.heap.size w W → Calls Try.prog f (#[.int .i64 (xs.getD p 0), .int .i64 (xs.getD q 0)] ++ lb) W (fun e w' => e = .returned (.int .i64 (key (xs.getD p 0) - key (xs.getD q 0))) ∧ ∃ m, w' = W.drewN m)
theorem Data.below {f : Nat} {lb : Array Value} {key : Int → Int} {g n : Nat} {xs : List Int} {w w' : World} (h : Data f lb key g n xs w) (hb : Below w.heap.size w w') : Data f lb key g n xs w' :=
  ⟨h.1, fun k hk => (hb.cell (World.block_lt_of_cell? w _ (h.2.1 k hk))).trans (h.2.1 k hk), fun p q W hp hq hW => h.2.2 p q W hp hq (hb.trans (hW.mono hb.size))⟩
/-- Two cells and how they compare, at a world. -/
theorem Data.two {f : Nat} {lb : Array Value} {key : Int → Int} {g n : Nat} {xs : List Int} {w : World} (h : Data f lb key g n xs w) (hs : Sorted key xs) (hk : ∀ x ∈ xs, 0 ≤ key x ∧ key x ≤ 100000) (p q : Nat) (hpq : p ≤ q) (hq : q < n) :
    ∃ x y : Int, w.cell? ⟨g, p, none⟩ = some (.int .i64 x) ∧ w.cell? ⟨g, q, none⟩ = some (.int .i64 y) ∧ 0 ≤ key y - key x ∧ key y - key x ≤ 100000 ∧ ∀ m, Calls Try.prog f (#[.int .i64 y, .int .i64 x] ++ lb) (w.drewN m) (fun e w' => e = .returned (.int .i64 (key y - key x)) ∧ ∃ r, w' = (w.drewN m).drewN r) := by
  have hmem : ∀ i, i < n → xs.getD i 0 ∈ xs := fun i hi => by
    have : i < xs.length := by rw [← h.1]; exact hi
    rw [List.getD_eq_getElem?_getD, List.getElem?_eq_getElem this]
    exact List.getElem_mem this
  have h1 := hs p q hpq (by rw [← h.1]; exact hq)
  have h2 := hk _ (hmem p (by omega))
  have h3 := hk _ (hmem q hq)
  exact ⟨_, _, h.2.1 p (by omega), h.2.1 q hq, by omega, by omega, fun m => h.2.2 q p _ hq (by omega) ⟨rfl, rfl, rfl, Nat.le_refl _, fun _ _ => rfl⟩⟩
theorem below_draws (w : World) (n : Nat) : Below w.heap.size w (w.drewN n) := ⟨rfl, rfl, rfl, Nat.le_refl _, fun _ _ => rfl⟩
set_option maxHeartbeats 2000000 in
set_option maxRecDepth 100000 in
theorem merge_one (f : Nat) (lb : Array Value) (key : Int → Int) (g cap n : Nat) (xs : List Int) (eg : ∀ args w, (callFunc f args).run Try.prog w = .ok (.enter f args) w) (hs : Sorted key xs) (hkey : ∀ x ∈ xs, 0 ≤ key x ∧ key x ≤ 100000) (hn : n ≤ 1000) (a b : Nat) (w : World) (h2 : a + 1 < b) (h3 : b ≤ n) (hD : Data f lb key g n xs w) :
    Calls Try.prog 44 #[.slice (some ⟨g, 0, none⟩) n cap, .int .i64 a, .int .i64 ((a + 1 : Nat) : Int), .int .i64 b, .func (.func f) #[] lb] w (fun e w' => e = .returned (.tuple #[]) ∧ Below w.heap.size w w') := by
  have HD := Lib.hid hD
  have HS := Lib.hid hs
  have HK := Lib.hid hkey
  clear hD hs hkey
  go_enter Try.func44, Try.ntmps44
  go_wp2_with fail
  go_loopw [10, 11] (fun i j wr => ∃ jn : Nat, i = .int .i64 ((a + 1 : Nat) : Int) ∧ j = .int .i64 jn ∧ a + 1 ≤ jn ∧ jn ≤ b ∧ Hid (Below w.heap.size w wr)) (fun _ j _ => (intOf j).toNat)
  case atStart => exact ⟨b, by go_num, rfl, by omega, Nat.le_refl _, Lib.hid (Below.refl _ _)⟩
  case round =>
    obtain ⟨jn, rfl, rfl, hj0, hj1, HB⟩ := hrel
    by_cases hlt : a + 1 < jn
    · obtain ⟨h, hh⟩ : ∃ h : Nat, ((a : Int) + 1 + (jn : Int)) / 2 = (h : Int) := ⟨(a + 1 + jn) / 2, by omega⟩
      have hh0 : a + 1 ≤ h ∧ h < jn := by omega
      have HH := Lib.hid hh
      clear hh
      go_wp2_with fail
      rw [HH.out]
      obtain ⟨x, y, cx, cy, hd0, hd1, hcall⟩ := (HD.out.below HB.out).two HS.out HK.out a h (by omega) (by omega)
      have HCALL := Lib.hid hcall
      have a0 : (0 : Int) ≤ (a : Int) := by omega
      have a1 : (a : Int) < (n : Int) := by omega
      have b0 : (0 : Int) ≤ (h : Int) := by omega
      have b1 : (h : Int) < (n : Int) := by omega
      clear hcall
      generalize key y - key x = dd at hd0 hd1 HCALL
      go_quiet (first | (go_at_fn f; exact Calls.quiet_of (HCALL.out _)))
      go_wp2_with fail
      go_roundw
      case rel => exact ⟨h, rfl, rfl, by omega, by omega, Lib.hid (HB.out.trans ((below_draws _ _).mono HB.out.size))⟩
      case measure => simp [intOf]; omega
    · obtain rfl : jn = a + 1 := by omega
      go_wp2_with fail
      go_loopw [13] (fun k wr => k = .int .i64 a ∧ Hid (Below w.heap.size w wr)) (fun _ _ => 0)
      case atStart => exact ⟨by first | rfl | trivial, HB⟩
      case round =>
        clear HB
        obtain ⟨rfl, HB⟩ := hrel
        go_wp2_with fail
        exact bodyPost_ret (v := .tuple #[]) (by simp [results, Try.results44, go_sem]) rfl ⟨rfl, HB.out⟩

set_option maxHeartbeats 2000000 in
set_option maxRecDepth 100000 in
theorem merge_last (f : Nat) (lb : Array Value) (key : Int → Int) (g cap n : Nat) (xs : List Int) (eg : ∀ args w, (callFunc f args).run Try.prog w = .ok (.enter f args) w) (hs : Sorted key xs) (hkey : ∀ x ∈ xs, 0 ≤ key x ∧ key x ≤ 100000) (hn : n ≤ 1000) (a m : Nat) (w : World) (h1 : a + 1 < m) (h3 : m + 1 ≤ n) (hD : Data f lb key g n xs w) :
    Calls Try.prog 44 #[.slice (some ⟨g, 0, none⟩) n cap, .int .i64 a, .int .i64 m, .int .i64 ((m + 1 : Nat) : Int), .func (.func f) #[] lb] w (fun e w' => e = .returned (.tuple #[]) ∧ Below w.heap.size w w') := by
  have HD := Lib.hid hD
  have HS := Lib.hid hs
  have HK := Lib.hid hkey
  clear hD hs hkey
  have hma2 : ¬ (m : Int) - (a : Int) = 1 := by omega
  go_enter Try.func44, Try.ntmps44
  go_wp2_with fail
  go_loopw [14, 15] (fun i j wr => ∃ ii : Nat, i = .int .i64 ii ∧ j = .int .i64 m ∧ a ≤ ii ∧ ii ≤ m ∧ Hid (Below w.heap.size w wr)) (fun i _ _ => m - (intOf i).toNat)
  case atStart => exact ⟨a, rfl, rfl, Nat.le_refl _, by omega, Lib.hid (Below.refl _ _)⟩
  case round =>
    obtain ⟨ii, rfl, rfl, hi0, hi1, HB⟩ := hrel
    by_cases hlt : ii < m
    · obtain ⟨h, hh⟩ : ∃ h : Nat, ((ii : Int) + (m : Int)) / 2 = (h : Int) := ⟨(ii + m) / 2, by omega⟩
      have hh0 : ii ≤ h ∧ h < m := by omega
      have HH := Lib.hid hh
      clear hh
      go_wp2_with fail
      rw [HH.out]
      obtain ⟨x, y, cx, cy, hd0, hd1, hcall⟩ := (HD.out.below HB.out).two HS.out HK.out h m (by omega) (by omega)
      have HCALL := Lib.hid hcall
      have a0 : (0 : Int) ≤ (m : Int) := by omega
      have a1 : (m : Int) < (n : Int) := by omega
      have b0 : (0 : Int) ≤ (h : Int) := by omega
      have b1 : (h : Int) < (n : Int) := by omega
      clear hcall
      generalize key y - key x = dd at hd0 hd1 HCALL
      have hnd : decide (dd < 0) = false := by simp; omega
      go_quiet (first | (go_at_fn f; exact Calls.quiet_of (HCALL.out _)))
      go_wp2_with fail
      go_roundw
      case rel => exact ⟨h + 1, by go_num, rfl, by omega, by omega, Lib.hid (HB.out.trans ((below_draws _ _).mono HB.out.size))⟩
      case measure => simp [intOf]; omega
    · obtain rfl : ii = m := by omega
      go_wp2_with fail
      go_loopw [17] (fun k wr => k = .int .i64 ii ∧ Hid (Below w.heap.size w wr)) (fun _ _ => 0)
      case atStart => exact ⟨by first | rfl | trivial, HB⟩
      case round =>
        clear HB
        obtain ⟨rfl, HB⟩ := hrel
        go_wp2_with fail
        exact bodyPost_ret (v := .tuple #[]) (by simp [results, Try.results44, go_sem]) rfl ⟨rfl, HB.out⟩

set_option maxHeartbeats 2000000 in
set_option maxRecDepth 100000 in
theorem merge_hi (f : Nat) (lb : Array Value) (key : Int → Int) (g cap n : Nat) (xs : List Int) (eg : ∀ args w, (callFunc f args).run Try.prog w = .ok (.enter f args) w) (hs : Sorted key xs) (hkey : ∀ x ∈ xs, 0 ≤ key x ∧ key x ≤ 100000) (hn : n ≤ 1000) (a m b mid : Nat) (w : World) (hma : a + 1 < m) (hbm : m + 1 < b) (h3 : b ≤ n) (hmid : ((a : Int) + (b : Int)) / 2 = (mid : Int)) (hmid0 : a + b - 1 ≤ 2 * mid ∧ 2 * mid ≤ a + b) (hgt : mid < m) (hD : Data f lb key g n xs w) (IH : Hid (∀ a' m' b' w', b' - a' < b - a → a' < m' → m' < b' → b' ≤ n → Data f lb key g n xs w' → Calls Try.prog 44 #[.slice (some ⟨g, 0, none⟩) n cap, .int .i64 (a' : Nat), .int .i64 (m' : Nat), .int .i64 (b' : Nat), .func (.func f) #[] lb] w' (fun e w'' => e = .returned (.tuple #[]) ∧ Below w'.heap.size w' w''))) :
    Calls Try.prog 44 #[.slice (some ⟨g, 0, none⟩) n cap, .int .i64 a, .int .i64 m, .int .i64 b, .func (.func f) #[] lb] w (fun e w' => e = .returned (.tuple #[]) ∧ Below w.heap.size w w') := by
  have HD := Lib.hid hD
  have HS := Lib.hid hs
  have HK := Lib.hid hkey
  clear hD hs hkey
  have hma2 : ¬ (m : Int) - (a : Int) = 1 := by omega
  have hbm2 : ¬ (b : Int) - (m : Int) = 1 := by omega
  have HMID := Lib.hid hmid
  clear hmid
  go_enter Try.func44, Try.ntmps44
  go_wp2_with fail
  rw [HMID.out]
  obtain ⟨pp, hpp⟩ : ∃ pp : Nat, (mid : Int) + (m : Int) - 1 = (pp : Int) := ⟨mid + m - 1, by omega⟩
  have hpp0 : pp + 1 = mid + m := by omega
  rw [hpp]
  clear hpp
  go_loopw [20, 21] (fun st r wr => ∃ s0 : Nat, st = .int .i64 s0 ∧ r = .int .i64 mid ∧ mid + m - b ≤ s0 ∧ s0 ≤ mid ∧ Hid (Below w.heap.size w wr)) (fun st _ _ => mid - (intOf st).toNat)
  case atStart => exact ⟨mid + m - b, by first | rfl | exact congrArg _ (by omega), by first | rfl | trivial, Nat.le_refl _, by omega, Lib.hid (Below.refl _ _)⟩
  case round =>
    obtain ⟨s0, rfl, rfl, hs0, hs1, HB⟩ := hrel
    by_cases hlt : s0 < mid
    · obtain ⟨c, hc⟩ : ∃ c : Nat, ((s0 : Int) + (mid : Int)) / 2 = (c : Int) := ⟨(s0 + mid) / 2, by omega⟩
      have hc0 : s0 ≤ c ∧ c < mid := by omega
      have HH := Lib.hid hc
      clear hc
      go_wp2_with fail
      rw [HH.out]
      obtain ⟨x, y, cx, cy, hd0, hd1, hcall⟩ := (HD.out.below HB.out).two HS.out HK.out c (pp - c) (by omega) (by omega)
      have HCALL := Lib.hid hcall
      have hw2 : IntKind.i64.wrap ((pp : Int) - (c : Int)) = (pp : Int) - (c : Int) := IntWalk.i64_in _ (by omega)
      have a0 : (0 : Int) ≤ (pp : Int) - (c : Int) := by omega
      have a1 : (pp : Int) - (c : Int) < (n : Int) := by omega
      have a2 : ((pp : Int) - (c : Int)).toNat = pp - c := by omega
      have b0 : (0 : Int) ≤ (c : Int) := by omega
      have b1 : (c : Int) < (n : Int) := by omega
      clear hcall
      generalize key y - key x = dd at hd0 hd1 HCALL
      have hnd : decide (dd < 0) = false := by simp; omega
      go_quiet (first | (go_at_fn f; exact Calls.quiet_of (HCALL.out _)))
      clear hw2 a2
      go_wp2_with fail
      go_roundw
      case rel => exact ⟨c + 1, by go_num, rfl, by omega, by omega, Lib.hid (HB.out.trans ((below_draws _ _).mono HB.out.size))⟩
      case measure => simp [intOf]; omega
    · obtain rfl : s0 = mid := by omega
      have hend : (s0 : Int) + (m : Int) - (s0 : Int) = (m : Int) := by omega
      go_wp2_with fail
      refine (IH.out s0 m b wr (by omega) (by omega) (by omega) h3 (HD.out.below HB.out)).mono ?_
      rintro e w' ⟨rfl, hb'⟩
      go_wp2_with fail
      go_end0
      exact ⟨rfl, HB.out.trans (hb'.mono HB.out.size)⟩

set_option maxHeartbeats 2000000 in
set_option maxRecDepth 100000 in
theorem merge_lo (f : Nat) (lb : Array Value) (key : Int → Int) (g cap n : Nat) (xs : List Int) (eg : ∀ args w, (callFunc f args).run Try.prog w = .ok (.enter f args) w) (hs : Sorted key xs) (hkey : ∀ x ∈ xs, 0 ≤ key x ∧ key x ≤ 100000) (hn : n ≤ 1000) (a m b mid : Nat) (w : World) (hma : a + 1 < m) (hbm : m + 1 < b) (h3 : b ≤ n) (hmid : ((a : Int) + (b : Int)) / 2 = (mid : Int)) (hmid0 : a + b - 1 ≤ 2 * mid ∧ 2 * mid ≤ a + b) (hgt : ¬ mid < m) (hD : Data f lb key g n xs w) (IH : Hid (∀ a' m' b' w', b' - a' < b - a → a' < m' → m' < b' → b' ≤ n → Data f lb key g n xs w' → Calls Try.prog 44 #[.slice (some ⟨g, 0, none⟩) n cap, .int .i64 (a' : Nat), .int .i64 (m' : Nat), .int .i64 (b' : Nat), .func (.func f) #[] lb] w' (fun e w'' => e = .returned (.tuple #[]) ∧ Below w'.heap.size w' w''))) :
    Calls Try.prog 44 #[.slice (some ⟨g, 0, none⟩) n cap, .int .i64 a, .int .i64 m, .int .i64 b, .func (.func f) #[] lb] w (fun e w' => e = .returned (.tuple #[]) ∧ Below w.heap.size w w') := by
  have HD := Lib.hid hD
  have HS := Lib.hid hs
  have HK := Lib.hid hkey
  clear hD hs hkey
  have hma2 : ¬ (m : Int) - (a : Int) = 1 := by omega
  have hbm2 : ¬ (b : Int) - (m : Int) = 1 := by omega
  have HMID := Lib.hid hmid
  clear hmid
  go_enter Try.func44, Try.ntmps44
  go_wp2_with fail
  rw [HMID.out]
  obtain ⟨pp, hpp⟩ : ∃ pp : Nat, (mid : Int) + (m : Int) - 1 = (pp : Int) := ⟨mid + m - 1, by omega⟩
  have hpp0 : pp + 1 = mid + m := by omega
  rw [hpp]
  clear hpp
  go_loopw [20, 21] (fun st r wr => ∃ s0 : Nat, st = .int .i64 s0 ∧ r = .int .i64 m ∧ a ≤ s0 ∧ s0 ≤ m ∧ Hid (Below w.heap.size w wr)) (fun st _ _ => m - (intOf st).toNat)
  case atStart => exact ⟨a, by first | rfl | exact congrArg _ (by omega), by first | rfl | trivial, Nat.le_refl _, by omega, Lib.hid (Below.refl _ _)⟩
  case round =>
    obtain ⟨s0, rfl, rfl, hs0, hs1, HB⟩ := hrel
    by_cases hlt : s0 < m
    · obtain ⟨c, hc⟩ : ∃ c : Nat, ((s0 : Int) + (m : Int)) / 2 = (c : Int) := ⟨(s0 + m) / 2, by omega⟩
      have hc0 : s0 ≤ c ∧ c < m := by omega
      have HH := Lib.hid hc
      clear hc
      go_wp2_with fail
      rw [HH.out]
      obtain ⟨x, y, cx, cy, hd0, hd1, hcall⟩ := (HD.out.below HB.out).two HS.out HK.out c (pp - c) (by omega) (by omega)
      have HCALL := Lib.hid hcall
      have hw2 : IntKind.i64.wrap ((pp : Int) - (c : Int)) = (pp : Int) - (c : Int) := IntWalk.i64_in _ (by omega)
      have a0 : (0 : Int) ≤ (pp : Int) - (c : Int) := by omega
      have a1 : (pp : Int) - (c : Int) < (n : Int) := by omega
      have a2 : ((pp : Int) - (c : Int)).toNat = pp - c := by omega
      have b0 : (0 : Int) ≤ (c : Int) := by omega
      have b1 : (c : Int) < (n : Int) := by omega
      clear hcall
      generalize key y - key x = dd at hd0 hd1 HCALL
      have hnd : decide (dd < 0) = false := by simp; omega
      go_quiet (first | (go_at_fn f; exact Calls.quiet_of (HCALL.out _)))
      clear hw2 a2
      go_wp2_with fail
      go_roundw
      case rel => exact ⟨c + 1, by go_num, rfl, by omega, by omega, Lib.hid (HB.out.trans ((below_draws _ _).mono HB.out.size))⟩
      case measure => simp [intOf]; omega
    · obtain rfl : s0 = m := by omega
      have hend : (mid : Int) + (s0 : Int) - (s0 : Int) = (mid : Int) := by omega
      have has : (a : Int) < (s0 : Int) := by omega
      by_cases hlm : s0 < mid
      · have hlm2 : (s0 : Int) < (mid : Int) := by omega
        go_wp2_with fail
        refine (IH.out a s0 mid wr (by omega) (by omega) hlm (by omega) (HD.out.below HB.out)).mono ?_
        rintro e w' ⟨rfl, hb'⟩
        go_wp2_with fail
        go_end0
        exact ⟨rfl, HB.out.trans (hb'.mono HB.out.size)⟩
      · have hlm2 : ¬ (s0 : Int) < (mid : Int) := by omega
        go_wp2_with fail
        go_end0
        exact ⟨rfl, HB.out⟩

theorem merge_calls (f : Nat) (lb : Array Value) (key : Int → Int) (g cap n : Nat) (xs : List Int) (eg : ∀ args w, (callFunc f args).run Try.prog w = .ok (.enter f args) w) (hs : Sorted key xs) (hkey : ∀ x ∈ xs, 0 ≤ key x ∧ key x ≤ 100000) (hn : n ≤ 1000) :
    ∀ (B a m b : Nat) (w : World), b - a ≤ B → a < m → m < b → b ≤ n → Data f lb key g n xs w →
    Calls Try.prog 44 #[.slice (some ⟨g, 0, none⟩) n cap, .int .i64 a, .int .i64 m, .int .i64 b, .func (.func f) #[] lb] w (fun e w' => e = .returned (.tuple #[]) ∧ Below w.heap.size w w')
  | 0, a, m, b, w, h0, h1, h2, h3, _ => by omega
  | B + 1, a, m, b, w, h0, h1, h2, h3, hD => by
    by_cases hma : m = a + 1
    · subst hma
      exact merge_one f lb key g cap n xs eg hs hkey hn a b w h2 h3 hD
    · by_cases hbm : b = m + 1
      · subst hbm
        exact merge_last f lb key g cap n xs eg hs hkey hn a m w (by omega) h3 hD
      · have IH := Lib.hid (fun (a' m' b' : Nat) (w' : World) (q0 : b' - a' < b - a) (q1 : a' < m') (q2 : m' < b') (q3 : b' ≤ n) (q4 : Data f lb key g n xs w') => merge_calls f lb key g cap n xs eg hs hkey hn B a' m' b' w' (by omega) q1 q2 q3 q4)
        obtain ⟨mid, hmid⟩ : ∃ mid : Nat, ((a : Int) + (b : Int)) / 2 = (mid : Int) := ⟨(a + b) / 2, by omega⟩
        by_cases hgt : mid < m
        · exact merge_hi f lb key g cap n xs eg hs hkey hn a m b mid w (by omega) (by omega) h3 hmid (by omega) hgt hD IH
        · exact merge_lo f lb key g cap n xs eg hs hkey hn a m b mid w (by omega) (by omega) h3 hmid (by omega) hgt hD IH
/-- The data, out of a row of numbers. -/
theorem data_of {base f : Nat} {lb : Array Value} {key : Int → Int} {g cap : Nat} {xs : List Int} {w : World} (hr : RI base w (.slice (some ⟨g, 0, none⟩) xs.length cap) xs) (hp : Cmps f lb key w (some g) xs) : Data f lb key g xs.length xs w := by
  rcases hr.form with ⟨e, _⟩ | ⟨g', cap', e, _, hg2, _, hcell⟩
  · cases e
  · simp only [Value.slice.injEq, Option.some.injEq, Addr.mk.injEq, and_true, true_and] at e
    obtain ⟨rfl, rfl⟩ := e
    refine ⟨rfl, fun k hk => ?_, fun p q W hp' hq hb => ?_⟩
    · rw [(hcell k hk).1, List.getD_eq_getElem?_getD, List.getElem?_eq_getElem hk]
      rfl
    · have hm : ∀ i, i < xs.length → xs.getD i 0 ∈ xs := fun i hi => by
        rw [List.getD_eq_getElem?_getD, List.getElem?_eq_getElem hi]
        exact List.getElem_mem hi
      exact hp W _ _ (hm p hp') (hm q hq) (weaken (grown_of hb) _)
theorem Cmps.later {f : Nat} {lb : Array Value} {key : Int → Int} {w w' : World} {row : Option Nat} {xs : List Int} (h : Cmps f lb key w row xs) (hg : w.grownBy w' row) : Cmps f lb key w' row xs := fun W x y hx hy hW => h W x y hx hy (hg.andThen hW (fun j e => .inr e))
theorem sorted_of {key : Int → Int} {xs : List Int} (h : Srt key 0 xs.length xs.length xs) : Sorted key xs := fun p q h1 h2 => by
  by_cases e : p = q
  · subst e; exact Int.le_refl _
  · exact h p q (by omega) (by omega) h2 (by omega)
def SameP (base : Nat) (v : Value) (xs : List Int) (w : World) (e : Ending) (w' : World) : Prop := e = .returned (.tuple #[]) ∧ RI base w' v xs ∧ w.grownBy w' v.ownBlock
theorem insertion_sorted (base f a b n : Nat) (lb : Array Value) (key : Int → Int) (g cap : Nat) (xs : List Int) (w : World) (hn : n = xs.length) (eg : ∀ args w, (callFunc f args).run Try.prog w = .ok (.enter f args) w)
    (hr : RI base w (.slice (some ⟨g, 0, none⟩) n cap) xs) (hlen : n ≤ 1000) (hab : a ≤ b) (hb : b ≤ n) (hp : Cmps f lb key w (some g) xs) (hkey : ∀ x ∈ xs, 0 ≤ key x ∧ key x ≤ 100000) (hs : Srt key 0 n n xs) :
    Calls Try.prog 43 #[.slice (some ⟨g, 0, none⟩) n cap, .int .i64 a, .int .i64 b, .func (.func f) #[] lb] w (SameP base (.slice (some ⟨g, 0, none⟩) n cap) xs w) := by
  subst hn
  refine (insertion_calls base f a b lb key g cap xs w eg hr hlen hab hb hp hkey).mono ?_
  rintro e w' ⟨rfl, c, h1, h2, h3, h4, h5⟩
  rw [h4 hs] at h1
  exact ⟨rfl, h1, h5⟩
theorem merge_sorted (base f a m b n : Nat) (lb : Array Value) (key : Int → Int) (g cap : Nat) (xs : List Int) (w : World) (hn : n = xs.length) (eg : ∀ args w, (callFunc f args).run Try.prog w = .ok (.enter f args) w)
    (hr : RI base w (.slice (some ⟨g, 0, none⟩) n cap) xs) (hlen : n ≤ 1000) (h1 : a < m) (h2 : m < b) (h3 : b ≤ n) (hp : Cmps f lb key w (some g) xs) (hkey : ∀ x ∈ xs, 0 ≤ key x ∧ key x ≤ 100000) (hs : Srt key 0 n n xs) :
    Calls Try.prog 44 #[.slice (some ⟨g, 0, none⟩) n cap, .int .i64 a, .int .i64 m, .int .i64 b, .func (.func f) #[] lb] w (SameP base (.slice (some ⟨g, 0, none⟩) n cap) xs w) := by
  subst hn
  refine (merge_calls f lb key g cap xs.length xs eg (sorted_of hs) hkey hlen (b - a) a m b w (Nat.le_refl _) h1 h2 h3 (data_of hr hp)).mono ?_
  rintro e w' ⟨rfl, hb⟩
  exact ⟨rfl, hr.below hb, weaken (grown_of hb) _⟩
set_option maxHeartbeats 2000000 in
set_option maxRecDepth 100000 in
theorem stable_sorted (base f n : Nat) (lb : Array Value) (key : Int → Int) (g cap : Nat) (xs : List Int) (w : World) (hn : n = xs.length) (eg : ∀ args w, (callFunc f args).run Try.prog w = .ok (.enter f args) w)
    (hr : RI base w (.slice (some ⟨g, 0, none⟩) n cap) xs) (hlen : n ≤ 200) (hp : Cmps f lb key w (some g) xs) (hkey : ∀ x ∈ xs, 0 ≤ key x ∧ key x ≤ 100000) (hs : Srt key 0 n n xs) :
    Calls Try.prog 38 #[.slice (some ⟨g, 0, none⟩) n cap, .int .i64 n, .func (.func f) #[] lb] w (SameP base (.slice (some ⟨g, 0, none⟩) n cap) xs w) := by
  have HI := Lib.hid (fun (a b : Nat) (w' : World) (hr' : RI base w' (.slice (some ⟨g, 0, none⟩) n cap) xs) (hab : a ≤ b) (hb : b ≤ n) (hg : w.grownBy w' (some g)) => insertion_sorted base f a b n lb key g cap xs w' hn eg hr' (by omega) hab hb (hp.later hg) hkey hs)
  have HM := Lib.hid (fun (a m b : Nat) (w' : World) (hr' : RI base w' (.slice (some ⟨g, 0, none⟩) n cap) xs) (h1 : a < m) (h2 : m < b) (h3 : b ≤ n) (hg : w.grownBy w' (some g)) => merge_sorted base f a m b n lb key g cap xs w' hn eg hr' (by omega) h1 h2 h3 (hp.later hg) hkey hs)
  have HR := Lib.hid hr
  clear hr hp hkey hs hn
  go_enter Try.func38, Try.ntmps38
  go_wp2_with fail
  go_loopw [7, 8] (fun s7 s8 wr => ∃ a : Nat, s7 = .int .i64 a ∧ s8 = .int .i64 ((a : Int) + 20) ∧ a ≤ n ∧ Hid (RI base wr (.slice (some ⟨g, 0, none⟩) n cap) xs) ∧ Hid (w.grownBy wr (some g))) (fun s7 _ _ => n - (intOf s7).toNat)
  case atStart => exact ⟨0, rfl, rfl, Nat.zero_le _, HR, Lib.hid (World.grownBy.refl _ _)⟩
  case round =>
    clear HR
    obtain ⟨a, rfl, rfl, ha, HR, HG⟩ := hrel
    by_cases hle : a + 20 ≤ n
    · have hle2 : (a : Int) + 20 ≤ (n : Int) := by omega
      go_wp2_with fail
      refine (HI.out a (a + 20) _ HR.out (by omega) hle HG.out).mono ?_
      rintro e w1 ⟨rfl, h1, h2⟩
      have HR1 := Lib.hid h1
      have HG1 := Lib.hid (HG.out.andThen h2 (fun j e => .inr e))
      clear h1 h2
      go_wp2_with fail
      go_roundw
      case rel => exact ⟨a + 20, by go_num, by go_num, by omega, HR1, HG1⟩
      case measure => simp [intOf]; omega
    · have hle2 : ¬ (a : Int) + 20 ≤ (n : Int) := by omega
      go_wp2_with fail
      refine (HI.out a n _ HR.out ha (Nat.le_refl _) HG.out).mono ?_
      rintro e w1 ⟨rfl, h1, h2⟩
      have HR1 := Lib.hid h1
      have HG1 := Lib.hid (HG.out.andThen h2 (fun j e => .inr e))
      clear h1 h2 HR HG
      go_wp2_with fail
      go_loopw [6] (fun s6 wr => ∃ bs : Nat, s6 = .int .i64 bs ∧ 20 ≤ bs ∧ bs ≤ 400 ∧ Hid (RI base wr (.slice (some ⟨g, 0, none⟩) n cap) xs) ∧ Hid (w.grownBy wr (some g))) (fun s6 _ => 500 - (intOf s6).toNat)
      case atStart => exact ⟨20, rfl, by omega, by omega, HR1, HG1⟩
      case round =>
        clear HR1 HG1
        obtain ⟨bs, rfl, hb0, hb1, HR, HG⟩ := hrel
        by_cases hbn : bs < n
        · go_wp2_with fail
          go_loopw [7, 8] (fun s7 s8 wr => ∃ a : Nat, s7 = .int .i64 a ∧ s8 = .int .i64 ((a : Int) + 2 * (bs : Int)) ∧ a ≤ n ∧ Hid (RI base wr (.slice (some ⟨g, 0, none⟩) n cap) xs) ∧ Hid (w.grownBy wr (some g))) (fun s7 _ _ => n - (intOf s7).toNat)
          case atStart => exact ⟨0, rfl, by go_num, Nat.zero_le _, HR, HG⟩
          case round =>
            clear HR HG
            obtain ⟨a, rfl, rfl, ha, HR, HG⟩ := hrel
            by_cases hle : a + 2 * bs ≤ n
            · have hle2 : (a : Int) + 2 * (bs : Int) ≤ (n : Int) := by omega
              have HM2 := Lib.hid (HM.out a (a + bs) (a + 2 * bs) _ HR.out (by omega) (by omega) hle HG.out)
              go_wp2_with fail
              refine HM2.out.mono ?_
              rintro e w1 ⟨rfl, h1, h2⟩
              have HR1 := Lib.hid h1
              have HG1 := Lib.hid (HG.out.andThen h2 (fun j e => .inr e))
              clear h1 h2
              go_wp2_with fail
              go_roundw
              case rel => exact ⟨a + 2 * bs, by go_num, by go_num, by omega, HR1, HG1⟩
              case measure => simp [intOf]; omega
            · have hle2 : ¬ (a : Int) + 2 * (bs : Int) ≤ (n : Int) := by omega
              by_cases hmn : a + bs < n
              · have hmn2 : (a : Int) + (bs : Int) < (n : Int) := by omega
                have HM2 := Lib.hid (HM.out a (a + bs) n _ HR.out (by omega) (by omega) (Nat.le_refl _) HG.out)
                go_wp2_with fail
                refine HM2.out.mono ?_
                rintro e w1 ⟨rfl, h1, h2⟩
                have HR1 := Lib.hid h1
                have HG1 := Lib.hid (HG.out.andThen h2 (fun j e => .inr e))
                clear h1 h2
                go_wp2_with fail
                go_roundw
                case rel => exact ⟨bs * 2, by go_num, by omega, by omega, HR1, HG1⟩
                case measure => simp [intOf]; omega
              · have hmn2 : ¬ (a : Int) + (bs : Int) < (n : Int) := by omega
                go_wp2_with fail
                go_roundw
                case rel => exact ⟨bs * 2, by go_num, by omega, by omega, HR, HG⟩
                case measure => simp [intOf]; omega
        · go_wp2_with fail
          go_end0
          exact ⟨rfl, HR.out, HG.out⟩
theorem sort_ok (base f : Nat) (lb : Array Value) (key : Int → Int) (v : Value) (xs : List Int) (w : World) (eg : ∀ args w, (callFunc f args).run Try.prog w = .ok (.enter f args) w)
    (hr : RI base w v xs) (hlen : xs.length ≤ 200) (hs : Srt key 0 xs.length xs.length xs) (hp : Cmps f lb key w v.ownBlock xs) (hkey : ∀ x ∈ xs, 0 ≤ key x ∧ key x ≤ 100000) :
    Calls Try.prog 26 #[v, .func (.func f) #[] lb] w (SortPost base key 0 xs.length v xs w) := by
  rcases hr.form with ⟨rfl, rfl⟩ | ⟨g, cap, rfl, hg0, hg1, hcap, hcell⟩
  · exact sortstable_calls base f lb key _ _ w eg hr (by simp) hp hkey
  · obtain ⟨n, hn⟩ : ∃ n, n = xs.length := ⟨_, rfl⟩
    rw [← hn] at hr hcap hs hlen ⊢
    have H := Lib.hid (stable_sorted base f n lb key g cap xs w hn eg hr hlen hp hkey hs)
    have HS := Lib.hid hs
    have HN := Lib.hid hn
    clear hr hp hkey hcell hs hn
    go_enter Try.func26, Try.ntmps26
    go_wp2_with fail
    refine H.out.mono ?_
    rintro e w1 ⟨rfl, h1, h2⟩
    have H1 := Lib.hid h1
    have H2 := Lib.hid h2
    clear h1 h2 H
    go_wp2_with fail
    go_end0
    exact ⟨rfl, xs, H1.out, ⟨rfl, fun _ => rfl⟩, HS.out, fun _ => rfl, H2.out⟩
end Go.Proofs.Ythboknkpgbfmoaa.PA
