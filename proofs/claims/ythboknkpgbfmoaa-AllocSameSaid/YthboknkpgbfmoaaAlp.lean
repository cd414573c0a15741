/- The contract of alloc.Of. -/
import Derived.Test.YthboknkpgbfmoaaAlo
import Derived.Deep.RegionHeld3
namespace Go.Proofs.Ythboknkpgbfmoaa.PA
open Go.RowKit Go.WideMaps Go.Maps Go.Shelf Go.Proofs.YthboknkpgbfmoaaW.PrintWords
set_option linter.unusedVariables false
set_option linter.unusedSimpArgs false

def AllocPost (l : List S60) (nv : Nat) (w : World) (e : Ending) (w' : World) : Prop :=
  ∃ P wg, Lives l P ∧ e = .returned (.agg #[.slice (some ⟨wg, 0, none⟩) nv nv, .int .i64 (allocF (SpF l P l.length) nv l.length).sl]) ∧ w.heap.size ≤ wg ∧ w'.rowIs wg 3 nv (fun i => .int .i64 ((allocF (SpF l P l.length) nv l.length).wh i)) ∧ Below w.heap.size w w'
theorem spansn_calls (n : Nat) (A : Option Addr) (cap : Nat) (l : List S60) (K nv : Nat) (w : World) (hn : n = l.length) (hr : Kd.C k60 w A n l) (hc : n ≤ cap) (hl : n ≤ 1000) (hw : ∀ c ∈ l, ∀ u ∈ us c, (Lit.int .i64 u).wf = true)
    (hv : code_Values.f K l = some (nv : Int)) (hnv : nv ≤ 1000) : Calls Try.prog 22 #[.slice A n cap] w (SpansPost l nv w) := by
  subst hn
  exact spans_calls A cap l K nv w hr hc hl hw hv hnv
theorem own_rowI3 {w : World} {base g n : Nat} {xs : List Value} {f : Nat → Value} (h : w.ownsRow base 3 1 (.slice (some ⟨g, 0, none⟩) n n) n xs) (hf : ∀ i, i < n → xs[i]? = some (f i)) : w.rowIs g 3 n f ∧ g < w.heap.size := by
  obtain ⟨h1, h2⟩ := h
  rcases h2 with ⟨h', _⟩ | ⟨g', cap', cur, h', hb, hgg, hc1, hc2, hc3, hc4⟩
  · simp at h'
  · simp only [Value.slice.injEq, Option.some.injEq, Addr.mk.injEq, and_true, true_and] at h'
    obtain ⟨rfl, rfl⟩ := h'
    refine ⟨⟨cur, hgg, by simpa using hc3, fun i hi => ?_⟩, (Array.getElem?_eq_some_iff.1 hgg).1⟩
    have := hf i hi
    rw [← hc4, List.getElem?_take, if_pos (by omega)] at this
    simpa using this
theorem made3 (n : Nat) (i : Nat) (hi : i < n) : (madeCells (Value.int IntKind.i64 0).cells (n * 1)).toList[i]? = some (.int .i64 0) := by
  simp only [madeCells, Value.cells]
  simp [hi, Nat.mod_one]
theorem lo_start {w w1 w3 : World} {g nv : Nat} {s : Nat → Int × Int} {xs : List Value} (hg0 : (w.alloc (.cells #[.slice none 0 0, .int .i64 0] 49)).heap.size ≤ g) (hS : SR w1 g nv s) (hb1 : Below (w.alloc (.cells #[.slice none 0 0, .int .i64 0] 49)).heap.size (w.alloc (.cells #[.slice none 0 0, .int .i64 0] 49)) w1)
    (hO : w3.ownsRow (w1.heap.size + 1) 3 1 (.slice (some ⟨(w1.alloc (.cells #[.slice (some ⟨g, 0, none⟩) nv nv] 51)).heap.size, 0, none⟩) nv nv) nv xs) (hx : ∀ i, i < nv → xs[i]? = some (.int .i64 0)) (hg3 : (w1.alloc (.cells #[.slice (some ⟨g, 0, none⟩) nv nv] 51)).grownBy w3 none) :
    LO w w.heap.size g w1.heap.size (w1.heap.size + 1) w3.heap.size nv s (fun _ => 0) 0 (w3.alloc (.cells #[.slice (some ⟨w1.heap.size + 1, 0, none⟩) nv nv, .int .i64 0] 49)) := by
  rw [show (w1.alloc (.cells #[.slice (some ⟨g, 0, none⟩) nv nv] 51)).heap.size = w1.heap.size + 1 by simp] at hO
  obtain ⟨h3, hlt⟩ := own_rowI3 (f := fun _ => .int .i64 0) hO hx
  have hT : (w.alloc (.cells #[.slice none 0 0, .int .i64 0] 49)).heap.size = w.heap.size + 1 := by simp
  have hgr : w1.grownBy (w3.alloc (.cells #[.slice (some ⟨w1.heap.size + 1, 0, none⟩) nv nv, .int .i64 0] 49)) none := ((grown_of ((Below.refl _ _).alloc (Nat.le_refl _) _)).andThen hg3 (fun j e => .inr e)).andThen (grown_of ((Below.refl _ _).alloc (Nat.le_refl _) _)) (fun j e => .inr e)
  have hgs : (w1.alloc (.cells #[.slice (some ⟨g, 0, none⟩) nv nv] 51)).grownBy (w3.alloc (.cells #[.slice (some ⟨w1.heap.size + 1, 0, none⟩) nv nv, .int .i64 0] 49)) none := hg3.andThen (grown_of ((Below.refl _ _).alloc (Nat.le_refl _) _)) (fun j e => .inr e)
  have hgl : g < w1.heap.size := World.rowIs.lt hS
  refine ⟨hS.kept hgr (by simp), (hgs.block _ (by simp) (by simp)).trans (blk_new w1 _), blk_new w3 _, h3.alloc _, (hgr.block _ (by omega) (by simp)).trans ((hb1.block _ (by omega)).trans (blk_new w _)), ?_, by omega, by omega, by omega, by omega⟩
  exact (((Below.refl w.heap.size w).alloc (Nat.le_refl _) _).trans (hb1.mono (by omega))).grown hgr (by omega) (fun j e => by cases e)
theorem nums_succ (j : Nat) : nums (j + 1) = nums j ++ [(j : Int)] := by
  unfold nums
  rw [List.range_succ, List.map_append]
  rfl
theorem nums_len (j : Nat) : (nums j).length = j := by simp [nums]
/-- Spans begin where there is a code, and none ends before it begins. -/
theorem spF_at (l : List S60) (P : Nat → Int → Bool) (i : Nat) : ∀ k, SpF l P k i = (-1, -1) ∨ (0 ≤ (SpF l P k i).1 ∧ (SpF l P k i).1 ≤ (SpF l P k i).2 ∧ (SpF l P k i).2 < k)
  | 0 => .inl rfl
  | k + 1 => by
    have h := spF_at l P i k
    unfold SpF mkP
    by_cases hq : touch l P k i = true
    · rw [if_pos hq]
      unfold mk1
      rcases h with h | h
      · rw [h]
        right
        simp
        omega
      · right
        simp
        split <;> omega
    · rw [if_neg hq]
      rcases h with h | h
      · exact .inl h
      · exact .inr (by omega)
/-- Numbers that are sorted are left as they are, however many. -/
def SortOK : Prop := ∀ (base f : Nat) (lb : Array Value) (key : Int → Int) (v : Value) (xs : List Int) (w : World), (∀ args w, (callFunc f args).run Try.prog w = .ok (.enter f args) w) → RI base w v xs → xs.length ≤ 200 → Srt key 0 xs.length xs.length xs → Cmps f lb key w v.ownBlock xs → (∀ x ∈ xs, 0 ≤ key x ∧ key x ≤ 100000) →
    Calls Try.prog 26 #[v, .func (.func f) #[] lb] w (SortPost base key 0 xs.length v xs w)
theorem sort_any (base f : Nat) (lb : Array Value) (key : Int → Int) (v : Value) (xs : List Int) (w : World) (eg : ∀ args w, (callFunc f args).run Try.prog w = .ok (.enter f args) w)
    (hr : RI base w v xs) (hlen : xs.length ≤ 200) (hso : xs.length < 20 ∨ (SortOK ∧ Srt key 0 xs.length xs.length xs)) (hp : Cmps f lb key w v.ownBlock xs) (hkey : ∀ x ∈ xs, 0 ≤ key x ∧ key x ≤ 100000) :
    Calls Try.prog 26 #[v, .func (.func f) #[] lb] w (SortPost base key 0 xs.length v xs w) := by
  rcases hso with h | ⟨hs, h⟩
  · exact sortstable_calls base f lb key v xs w eg hr h hp hkey
  · exact hs base f lb key v xs w eg hr hlen h hp hkey
/-- Few values, or values that are numbered as they begin. -/
def SortFit (l : List S60) (nv : Nat) : Prop := nv < 20 ∨ (SortOK ∧ ∀ P, Lives l P → Srt (keyS (SpF l P l.length)) 0 ((nums nv).filter fun x => decide (keyS (SpF l P l.length) x ≥ 0)).length ((nums nv).filter fun x => decide (keyS (SpF l P l.length) x ≥ 0)).length ((nums nv).filter fun x => decide (keyS (SpF l P l.length) x ≥ 0)))
set_option maxHeartbeats 4000000 in
set_option maxRecDepth 100000 in
theorem alloc_calls (A : Option Addr) (cap : Nat) (l : List S60) (K nv : Nat) (w : World) (hr : Kd.C k60 w A l.length l) (hc : l.length ≤ cap) (hl : l.length ≤ 1000) (hw : ∀ c ∈ l, ∀ u ∈ us c, (Lit.int .i64 u).wf = true)
    (hv : code_Values.f K l = some (nv : Int)) (hnv : nv ≤ 200) (hso : SortFit l nv) : Calls Try.prog 21 #[.slice A l.length cap] w (AllocPost l nv w) := by
  have HR := Lib.hid hr
  have HW := Lib.hid hw
  have HV := Lib.hid hv
  obtain ⟨i0, hi, hz0, hz1, hz2⟩ := info_parts info3
  obtain ⟨n, hn⟩ : ∃ n, n = l.length := ⟨_, rfl⟩
  have HSO := Lib.hid hso
  clear hso
  rw [← hn] at hc hl HR ⊢
  have HN := Lib.hid hn
  clear hr hw hv hn
  go_enter Try.func21, Try.ntmps21
  go_wp2_with fail
  refine (spansn_calls n A cap l K nv _ HN.out (Kd.C_below HR.out ((Below.refl _ _).alloc (Nat.le_refl _) _)) hc hl HW.out HV.out (by omega)).mono ?_
  rintro e w1 ⟨P, g, hP, rfl, hg0, hS, hb1⟩
  go_wp2_with (first
    | (at_make; refine wpList_make_full _ rfl _ _ 47 rfl (w1.heap.size + 1) 3 i0 (.int .i64 0) 1 Try.underlying47 hi hz0 hz1 .i64 .i64 nv nv nv rfl rfl rfl rfl (by rw [hz2]; omega) (by unfold maxLen; omega) (by simp) ?_; intro w3 hown3 hg3; have hsb : w3.cell? ⟨w1.heap.size, 0, none⟩ = some (.slice (some ⟨g, 0, none⟩) nv nv) := hg3.cell (blk_cell (blk_new w1 _) 0) (by simp); have HOW := Lib.hid hown3; have HG3 := Lib.hid hg3; clear hown3 hg3; have hsb4 := cell_al hsb (.cells #[.slice (some ⟨w1.heap.size + 1, 0, none⟩) nv nv, .int .i64 0] 49))
    | fail)
  have hLO := lo_start hg0 hS hb1 HOW.out (made3 nv) HG3.out
  generalize w3.alloc (.cells #[.slice (some ⟨w1.heap.size + 1, 0, none⟩) nv nv, .int .i64 0] 49) = w4 at hLO ⊢
  obtain ⟨s, hs⟩ : ∃ s, s = SpF l P l.length := ⟨_, rfl⟩
  rw [← hs] at hLO
  clear hsb hsb4 HOW HG3 hS hb1 hg0 hi hz0 hz1 hz2
  obtain ⟨tb, htb⟩ : ∃ tb, tb = w.heap.size := ⟨_, rfl⟩
  rw [← htb] at hLO ⊢
  generalize w3.heap.size = pb at hLO ⊢
  generalize w1.heap.size + 1 = wg at hLO ⊢
  generalize w1.heap.size = sb at hLO ⊢
  have HLO := Lib.hid hLO
  have HS := Lib.hid hs
  have HTB := Lib.hid htb
  have HP := Lib.hid hP
  clear hLO hs htb hP
  go_loopw [5, 23] (fun ov_ i wr => ∃ (ov : Value) (j : Nat) (xs : List Int), ov = ov_ ∧ j ≤ nv ∧ i = .int .i64 j ∧ Hid (LO w tb g sb wg pb nv s (fun _ => 0) 0 wr) ∧ Hid (RI (pb + 1) wr ov xs) ∧ Hid (xs = (nums j).filter fun x => decide (keyS s x ≥ 0))) (fun _ i _ => nv - (intOf i).toNat)
  case atStart => exact ⟨_, 0, [], rfl, Nat.zero_le _, rfl, HLO, Lib.hid (RI.nil _ _), Lib.hid (by simp [nums])⟩
  case round =>
    obtain ⟨ov, j, xs, rfl, hj, rfl, HL, HX, HE⟩ := hrel
    by_cases hlt : j < nv
    · have c0 := HL.out.1.c0 hlt
      have c1 := HL.out.1.c1 hlt
      have hxl : xs.length ≤ 1000 := by
        have h1 := List.length_filter_le (fun x => decide (keyS s x ≥ 0)) (nums j)
        rw [← HE.out, nums_len] at h1
        omega
      obtain ⟨p, hp⟩ : ∃ p, p = (s j).1 := ⟨_, rfl⟩
      have hpk : keyS s (j : Int) = p := by rw [hp]; simp [keyS]
      rw [← hp] at c0
      have HPK := Lib.hid hpk
      clear hp hpk
      have hpl := HL.out.lt
      by_cases hp0 : p ≥ 0
      · go_wp2_with (first
          | (at_builtin; (refine wpList_append_ri rfl _ _ rfl (pb + 1) _ xs rfl ((HX.out.alloc _).alloc _) _ (j : Int) rfl (cell_new1 (by simp)) hxl (by simp; omega) ?_); (intro v' w' h1 h2 h3); go_frame)
          | fail)
        go_roundw
        case rel =>
          refine ⟨_, j + 1, xs ++ [(j : Int)], rfl, by omega, by go_num, Lib.hid ?_, Lib.hid h1, Lib.hid ?_⟩
          · exact ((HL.out.alloc _).alloc _).kept h2 (fun k e => by have := HX.out.lt e; omega)
          · rw [nums_succ, List.filter_append, ← HE.out]
            simp [HPK.out, hp0]
        case measure => simp [intOf]; omega
      · go_wp2_with fail
        go_roundw
        case rel =>
          refine ⟨_, j + 1, xs, rfl, by omega, by go_num, Lib.hid (HL.out.below ((Below.refl _ _).alloc (Nat.le_refl _) _)), Lib.hid (HX.out.below ((Below.refl _ _).alloc (Nat.le_refl _) _)), Lib.hid ?_⟩
          rw [nums_succ, List.filter_append, ← HE.out]
          simp [HPK.out, hp0]
        case measure => simp [intOf]; omega
    · obtain rfl : nv = j := by omega
      have hxl : xs.length ≤ nv := by
        have h1 := List.length_filter_le (fun x => decide (keyS s x ≥ 0)) (nums nv)
        rw [← HE.out, nums_len] at h1
        omega
      have hsr : ∀ i, -1 ≤ (s i).1 ∧ (s i).1 < (n : Int) := fun i => by
        have h := spF_at l P i l.length
        rw [← HS.out, ← HN.out] at h
        rcases h with h | h
        · rw [h]; simp; omega
        · omega
      have hmem : ∀ x ∈ xs, 0 ≤ x ∧ x < nv ∧ 0 ≤ keyS s x := fun x hx => by
        rw [HE.out] at hx
        obtain ⟨h1, h2⟩ := List.mem_filter.1 hx
        have := mem_nums.1 h1
        simp at h2
        omega
      have hkey : ∀ x ∈ xs, 0 ≤ keyS s x ∧ keyS s x ≤ 100000 := fun x hx => by
        have h1 := hmem x hx
        have h2 := hsr x.toNat
        unfold keyS at h1 ⊢
        omega
      have hcmp : Cmps 27 #[.pointer (some ⟨sb, 0, none⟩)] (keyS s) wr ov.ownBlock xs := fun W x y hx hy hg => by
        have h1 := hmem x hx
        have h2 := hmem y hy
        obtain ⟨a, rfl⟩ := Int.eq_ofNat_of_zero_le h1.1
        obtain ⟨b, rfl⟩ := Int.eq_ofNat_of_zero_le h2.1
        have hW := HL.out.kept hg (fun k e => by have := HX.out.lt e; omega)
        exact first_calls sb g nv s W a b (by omega) (by omega) hW.1 hW.sc (fun i _ => by have := hsr i; omega)
      have hsrt : xs.length < 20 ∨ (SortOK ∧ Srt (keyS s) 0 xs.length xs.length xs) := by
        rcases HSO.out with h | ⟨hk, h⟩
        · exact .inl (by omega)
        · have := h P HP.out
          rw [← HS.out, ← HE.out] at this
          exact .inr ⟨hk, this⟩
      have H := Lib.hid (sort_any (pb + 1) 27 #[.pointer (some ⟨sb, 0, none⟩)] (keyS s) ov xs wr (fun _ _ => rfl) HX.out (by omega) hsrt hcmp hkey)
      have HSR := Lib.hid hsr
      have HMEM := Lib.hid hmem
      clear hsr hmem hkey hcmp hsrt
      go_wp2_with fail
      refine H.out.mono ?_
      rintro e w5 ⟨rfl, ord, hR5, hsame, hsrt, _, hg5⟩
      have hL5 := HL.out.kept hg5 (fun k e => by have := HX.out.lt e; omega)
      have hord : ord = ordOf s nv n := ord_unique (fun i _ => (HSR.out i).2) (by rw [← HE.out]; exact hsame) (by rw [hsame.1]; exact hsrt)
      obtain ⟨m, hm⟩ : ∃ m, m = ord.length := ⟨_, rfl⟩
      have hml : m ≤ 200 := by rw [hm, hsame.1]; omega
      have HL5 := Lib.hid hL5
      have HR5 := Lib.hid hR5
      have HORD := Lib.hid hord
      have HM := Lib.hid hm
      clear H hL5 hR5 hsame hsrt hg5 hord HL HX HE HLO
      obtain ⟨oA, ocap, hov, hoc, hocell⟩ := HR5.out.form2
      rw [hov] at HR5 ⊢
      clear hov
      rw [← hm] at hoc HR5 ⊢
      have HOC := Lib.hid hocell
      have hW0 : LW w tb g sb wg pb nv w5.heap.size s (.slice oA m ocap) ord (fun _ => 0) 0 (.slice none 0 0) [] w5 :=
        ⟨HL5.out, RI.nil _ _, HR5.out, fun k e => (HR5.out.lt e).2, HL5.out.lt, Nat.le_refl _⟩
      generalize w5.heap.size = base at hW0
      have HW0 := Lib.hid hW0
      clear hW0 hm hocell HL5
      go_wp2_with fail
      go_loopw [6, 41] (fun act_ i wr => ∃ (act : Value) (k : Nat) (st : PS), act = act_ ∧ k ≤ m ∧ i = .int .i64 k ∧ Hid (st = (ord.take k).foldl (stepA s) ⟨fun _ => 0, 0, []⟩) ∧ Hid (LW w tb g sb wg pb nv base s (.slice oA m ocap) ord st.wh st.sl act st.ac wr) ∧ Hid (∀ x ∈ st.ac, 0 ≤ x ∧ x < nv) ∧ st.ac.length ≤ k ∧ st.sl ≤ k) (fun _ i _ => m - (intOf i).toNat)
      case atStart => exact ⟨_, 0, ⟨fun _ => 0, 0, []⟩, rfl, Nat.zero_le _, rfl, Lib.hid rfl, HW0, Lib.hid (by simp), Nat.le_refl _, Nat.le_refl _⟩
      case round =>
        obtain ⟨act, k, st, rfl, hk, rfl, HST, HW, HAC, hacl, hsl⟩ := hrel
        by_cases hkm : k < m
        · have hko : k < ord.length := by rw [← HM.out]; exact hkm
          obtain ⟨og, rfl, hoc0⟩ := HOC.out k hko
          have hoc1 : World.cell? wr ⟨og, k, none⟩ = some (.int .i64 ord[k]) := by
            rcases HW.out.2.2.1.form with ⟨e, _⟩ | ⟨g', cap', e, _, _, _, hc⟩
            · cases e
            · simp only [Value.slice.injEq, Option.some.injEq, Addr.mk.injEq, and_true, true_and] at e
              obtain ⟨rfl, _⟩ := e
              exact (hc k hko).1
          have hv0 := mem_ordOf (s := s) (nv := nv) (n := n) (x := ord[k]) (by rw [← HORD.out]; exact List.getElem_mem hko)
          obtain ⟨v, hv⟩ : ∃ v, v = ord[k] := ⟨_, rfl⟩
          rw [← hv] at hoc1 hv0
          have hE1 : ord.take (k + 1) = ord.take k ++ [v] := by rw [hv]; exact List.take_succ_eq_append_getElem hko
          have HE1 := Lib.hid hE1
          clear hv hE1 hoc0
          obtain ⟨vn, rfl⟩ := Int.eq_ofNat_of_zero_le hv0.1
          have hvn : vn < nv := by omega
          clear hv0
          have hW1 := HW.out.alloc (.cells #[.int .i64 (vn : Int)] 3)
          have hC1 := Cel.new wr (vn : Int)
          have hown := fun k e => (HW.out.own (k := k) e)
          have hbl : base ≤ wr.heap.size := HW.out.2.2.2.2.2
          have hsays : Says 29 #[.pointer (some ⟨sb, 0, none⟩), .pointer (some ⟨wr.heap.size, 0, none⟩)] (fun x => decide ((s x.toNat).2 < (s vn).1)) (wr.alloc (.cells #[.int .i64 (vn : Int)] 3)) act.ownBlock st.ac := fun W x hx hg => by
            have h1 := HAC.out x hx
            obtain ⟨a, rfl⟩ := Int.eq_ofNat_of_zero_le h1.1
            have hL := hW1.1.kept hg (fun k e => by have := hown k e; have := hW1.2.2.2.2.1; omega)
            have hC := hC1.kept hg (fun e => by have := hown _ e; omega)
            exact ended_calls sb _ g nv s W a vn (by omega) hvn hL.1 hL.sc hC.cell
          have HDEL := Lib.hid (delete_calls base 29 _ _ act st.ac _ (fun _ _ => rfl) hW1.2.1 (by omega) hsays)
          have HW1 := Lib.hid hW1
          have HC1 := Lib.hid hC1
          have HOWN := Lib.hid hown
          clear hW1 hC1 hsays hown HW
          go_wp2_with fail
          refine HDEL.out.mono ?_
          rintro e w6 ⟨act2, rfl, hR6, hown6, hg6⟩
          have hW6 := HW1.out.app hR6 hg6
          have hC6 := HC1.out.kept hg6 (fun e => by have := HOWN.out _ e; omega)
          rw [show (st.ac.filter fun x => !decide ((s x.toNat).2 < (s vn).1)) = still s (vn : Int) st.ac from rfl] at hW6
          have hac2 : ∀ x ∈ still s (vn : Int) st.ac, 0 ≤ x ∧ x < nv := fun x hx => HAC.out x (List.mem_filter.1 hx).1
          have hal2 : (still s (vn : Int) st.ac).length ≤ k := Nat.le_trans (List.length_filter_le _ _) hacl
          have hnev : act2.ownBlock ≠ some wr.heap.size := fun e => by rw [hown6] at e; have := HOWN.out _ e; omega
          obtain ⟨ac2, hac⟩ : ∃ ac2, ac2 = still s (vn : Int) st.ac := ⟨_, rfl⟩
          rw [← hac] at hW6 hac2 hal2
          have HA2 := Lib.hid hac
          have HAC2 := Lib.hid hac2
          clear HDEL HW1 HC1 hR6 hg6 HOWN hac hac2 hown6
          have hW7 := hW6.alloc (.cells #[.int .i64 0] 3)
          have hC7 := hC6.alloc (.cells #[.int .i64 0] 3)
          have hD7 := Cel.new w6 0
          have hb6 : base ≤ w6.heap.size := hW6.2.2.2.2.2
          have hvr : (World.heap wr).size < w6.heap.size := lt_of_block hC6
          have hner : act2.ownBlock ≠ some w6.heap.size := fun e => by have := (hW6.own e).2; omega
          generalize (World.heap wr).size = vb at hC7 hnev hvr hbl ⊢
          go_wp2_with fail
          generalize w6.alloc (.cells #[.int .i64 0] 3) = w7 at hW7 hC7 hD7 ⊢
          generalize (World.heap w6).size = rb at hD7 hb6 hvr hner ⊢
          have HW7 := Lib.hid hW7
          have HC7 := Lib.hid hC7
          have HD7 := Lib.hid hD7
          have HNR := Lib.hid hner
          have HNV := Lib.hid hnev
          clear hW7 hC7 hD7 hner hnev hW6 hC6
          go_loopw [50] (fun _ wr => ∃ r : Nat, r ≤ ac2.length ∧ Hid (LW w tb g sb wg pb nv base s (.slice (some ⟨og, 0, none⟩) m ocap) ord st.wh st.sl act2 ac2 wr) ∧ Hid (Cel wr vb vn) ∧ Hid (Cel wr rb r) ∧ Hid (∀ j, j < r → (j : Int) ∈ regs st.wh ac2)) (fun _ wr => ac2.length - (celI wr rb).toNat)
          case atStart => exact ⟨0, Nat.zero_le _, HW7, HC7, HD7, Lib.hid (fun j hj => by omega)⟩
          case round =>
            obtain ⟨r, hr, HW, HC, HD, HJ⟩ := hrel
            have hsays : Says 31 #[.pointer (some ⟨pb, 0, none⟩), .pointer (some ⟨rb, 0, none⟩)] (fun x => decide (st.wh x.toNat = (r : Int))) wr none ac2 := fun W x hx hg => by
              have h1 := HAC2.out x hx
              obtain ⟨a, rfl⟩ := Int.eq_ofNat_of_zero_le h1.1
              have hL := HW.out.1.kept hg (fun k e => by cases e)
              exact isat_calls pb rb wg nv st.wh W a r (by omega) hL.2.2.2.1 hL.pc.1 (HD.out.kept hg (by simp)).cell
            have HCON := Lib.hid (contains_calls base 31 _ _ act2 ac2 _ _ (fun _ _ => rfl) HW.out.2.1 (by omega) hsays)
            clear hsays
            have hany : (ac2.any fun x => decide (st.wh x.toNat = (r : Int))) = decide ((r : Int) ∈ regs st.wh ac2) := by
              rw [Bool.eq_iff_iff]
              simp [regs]
            go_wp2_with fail
            refine HCON.out.mono ?_
            rintro e w8 ⟨rfl, hb8⟩
            rw [hany]
            have HW8 := Lib.hid (HW.out.below hb8)
            have HC8 := Lib.hid (HC.out.below hb8)
            have HD8 := Lib.hid (HD.out.below hb8)
            have HVAL := Lib.hid HD.out.val
            clear HCON hany hb8 HW HC HD
            by_cases hin : (r : Int) ∈ regs st.wh ac2
            · have HIN := Lib.hid hin
              rw [decide_eq_true hin]
              clear hin
              have hr1 : r + 1 ≤ ac2.length := by
                have := nums_le (l := regs st.wh ac2) (r := r + 1) (fun j hj => by
                  by_cases e : j = r
                  · subst e; exact HIN.out
                  · exact HJ.out j (by omega))
                simpa [regs] using this
              have rc := HD8.out.cell
              have rf := HD8.out.free
              go_wp2_with fail
              go_roundw
              case rel =>
                refine ⟨r + 1, hr1, HW8.out.setVar hb6 HNR.out _ |> Lib.hid, Lib.hid (HC8.out.other (by simp; omega) _), ?_, Lib.hid fun j hj => ?_⟩
                · have := HD8.out.set ((r : Int) + 1)
                  exact Lib.hid this
                · by_cases e : j = r
                  · subst e; exact HIN.out
                  · exact HJ.out j (by omega)
              case measure =>
                have e1 := (HD8.out.set ((r : Int) + 1)).val
                have e2 := HVAL.out
                rw [e1, e2]
                omega
            · rw [decide_eq_false hin]
              have hreg : regOf (regs st.wh ac2) = r := regOf_eq HJ.out hin
              have HREG := Lib.hid hreg
              clear hin hreg HJ
              have rc := HD8.out.cell
              have vc := HC8.out.cell
              obtain ⟨p0, p1, f1, f0⟩ := HW8.out.1.pc
              have hwc := HW8.out.1.wc vn hvn
              obtain ⟨wc, wf⟩ := hwc
              have hwb : wg < base := by have h1 := HW8.out.1.2.2.2.2.2.2; have h2 := HW8.out.2.2.2.2.1; omega
              have hgn : rb < w8.heap.size := lt_of_block HD8.out
              by_cases hr5 : r < 5
              · have vc2 := (HC8.out.other (a := ⟨wg, vn, none⟩) (by simp; omega) (.int .i64 (r : Int))).cell
                have hW9 := HW8.out.setWh vn (r : Int)
                have HW9 := Lib.hid hW9
                clear hW9
                go_wp2_with (first
                  | (at_builtin; (refine wpList_append_ri rfl _ _ rfl base _ ac2 rfl (HW9.out.2.1.alloc _) _ (vn : Int) rfl (cell_new1 (by simp)) (by omega) (by simp; omega) ?_); (intro v' w' h1 h2 h3); go_frame)
                  | fail)
                go_roundw
                case rel =>
                  refine ⟨_, k + 1, ⟨put1 st.wh vn (r : Int), st.sl, ac2 ++ [(vn : Int)]⟩, rfl, by omega, by go_num, Lib.hid ?_, Lib.hid ((HW9.out.alloc _).app h1 h2), Lib.hid ?_, by simp; omega, by simp; omega⟩
                  · rw [HE1.out, List.foldl_append, ← HST.out]
                    simp only [List.foldl_cons, List.foldl_nil, stepA, ← HA2.out, HREG.out, if_pos hr5, Int.toNat_natCast]
                  · intro x hx
                    rcases List.mem_append.1 hx with hx | hx
                    · exact HAC2.out x hx
                    · simp at hx
                      omega
                case measure => simp [intOf]; omega
              · have hnr5 : ¬ (r : Int) < 5 := by omega
                obtain ⟨aA, acap, hact, hacc, haccell⟩ := HW8.out.2.1.form2
                obtain ⟨na, hna⟩ : ∃ na, na = ac2.length := ⟨_, rfl⟩
                rw [← hna] at hact hacc hal2
                subst hact
                have HNA := Lib.hid hna
                have HACC := Lib.hid haccell
                clear hna haccell
                go_wp2_with fail
                have hcell4 : ∀ q, q < na → ∃ (ag : Nat) (x : Nat), aA = some ⟨ag, 0, none⟩ ∧ x < nv ∧ ac2.take (q + 1) = ac2.take q ++ [(x : Int)] := fun q hq => by
                  have hq2 : q < ac2.length := by rw [← HNA.out]; exact hq
                  obtain ⟨ag, e1, _⟩ := HACC.out q hq2
                  have h1 := HAC2.out ac2[q] (List.getElem_mem hq2)
                  obtain ⟨x, hx⟩ := Int.eq_ofNat_of_zero_le h1.1
                  exact ⟨ag, x, e1, by omega, by rw [← hx]; exact List.take_succ_eq_append_getElem hq2⟩
                have HC4 := Lib.hid hcell4
                clear hcell4
                have hW9 := HW8.out.alloc (.cells #[.int .i64 (vn : Int)] 3)
                have hC9 := HC8.out.alloc (.cells #[.int .i64 (vn : Int)] 3)
                have hL9 := Cel.new w8 (vn : Int)
                have hbl8 : base ≤ w8.heap.size := hW9.2.2.2.2.2 |> fun _ => by omega
                have hvl8 : vb < w8.heap.size := lt_of_block HC8.out
                have hnel : (Value.slice aA na acap).ownBlock ≠ some w8.heap.size := fun e => by have := (HW8.out.own e).2; omega
                generalize w8.alloc (.cells #[.int .i64 (vn : Int)] 3) = w9 at hW9 hC9 hL9 ⊢
                generalize (World.heap w8).size = lb at hL9 hbl8 hvl8 hnel hgn ⊢
                have HW9 := Lib.hid hW9
                have HC9 := Lib.hid hC9
                have HL9 := Lib.hid hL9
                have HNL := Lib.hid hnel
                clear hW9 hC9 hL9 hnel HW8 HC8 HD8 rc vc p0 p1 f1 f0 wc wf hgn
                go_loopw [67] (fun i wr => ∃ (q : Nat) (ln : Nat), q ≤ na ∧ i = .int .i64 q ∧ Hid (lastOf s (vn : Int) (ac2.take q) = (ln : Int)) ∧ ln < nv ∧ Hid (LW w tb g sb wg pb nv base s (.slice (some ⟨og, 0, none⟩) m ocap) ord st.wh st.sl (.slice aA na acap) ac2 wr) ∧ Hid (Cel wr vb vn) ∧ Hid (Cel wr lb ln)) (fun i _ => na - (intOf i).toNat)
                case atStart => exact ⟨0, vn, Nat.zero_le _, rfl, Lib.hid rfl, hvn, HW9, HC9, HL9⟩
                case round =>
                  clear HW9 HC9 HL9
                  obtain ⟨q, ln, hq, rfl, HLA, hln, HW, HC, HL⟩ := hrel
                  have lc := HL.out.cell
                  by_cases hqn : q < na
                  · obtain ⟨ag, x, rfl, hx, hE4⟩ := HC4.out q hqn
                    have hq2 : q < ac2.length := by rw [← HNA.out]; exact hqn
                    have hxq : ac2[q] = (x : Int) := by
                      have h1 := List.take_succ_eq_append_getElem hq2
                      simpa using List.append_cancel_left (h1.symm.trans hE4)
                    have ac4 : World.cell? wr ⟨ag, q, none⟩ = some (.int .i64 (x : Int)) := by
                      rcases HW.out.2.1.form with ⟨e, _⟩ | ⟨g', cap', e, _, _, _, hc⟩
                      · cases e
                      · simp only [Value.slice.injEq, Option.some.injEq, Addr.mk.injEq, and_true, true_and] at e
                        obtain ⟨rfl, _⟩ := e
                        rw [(hc q hq2).1, hxq]
                    have HE4 := Lib.hid hE4
                    clear hE4 hxq
                    have sc := HW.out.1.sc
                    have x1 := HW.out.1.1.c1 hx
                    have l1 := HW.out.1.1.c1 hln
                    have lf := HL.out.free
                    have hx2 : (x : Int) < (nv : Int) := by omega
                    have hl2 : (ln : Int) < (nv : Int) := by omega
                    obtain ⟨ex, hex⟩ : ∃ ex, ex = (s x).2 := ⟨_, rfl⟩
                    obtain ⟨el, hel⟩ : ∃ el, el = (s ln).2 := ⟨_, rfl⟩
                    rw [← hex] at x1
                    rw [← hel] at l1
                    have HEX := Lib.hid hex
                    have HEL := Lib.hid hel
                    clear hex hel
                    go_wp2_with fail
                    go_quiet (fail)
                    go_wp2_with fail
                    · have hlt4 : lastOf s (vn : Int) (ac2.take (q + 1)) = (x : Int) := by
                        rw [HE4.out]
                        have h1 := HLA.out
                        unfold lastOf at h1 ⊢
                        rw [List.foldl_append, h1]
                        simp only [List.foldl_cons, List.foldl_nil, lastStep, Int.toNat_natCast, ← HEX.out, ← HEL.out]
                        rw [if_pos (by assumption)]
                      have hbd : Below (World.heap wr).size wr (wr.drewN nq) := ⟨rfl, rfl, rfl, Nat.le_refl _, fun _ _ => rfl⟩
                      go_roundw
                      case rel => exact ⟨q + 1, x, by omega, by go_num, Lib.hid hlt4, hx, Lib.hid ((HW.out.below hbd).setVar hbl8 HNL.out _), Lib.hid ((HC.out.below hbd).other (by simp; omega) _), Lib.hid ((HL.out.below hbd).set _)⟩
                      case measure => simp [intOf]; omega
                    · have hlt4 : lastOf s (vn : Int) (ac2.take (q + 1)) = (ln : Int) := by
                        rw [HE4.out]
                        have h1 := HLA.out
                        unfold lastOf at h1 ⊢
                        rw [List.foldl_append, h1]
                        simp only [List.foldl_cons, List.foldl_nil, lastStep, Int.toNat_natCast, ← HEX.out, ← HEL.out]
                        rw [if_neg (by omega)]
                      have hbd : Below (World.heap wr).size wr (wr.drewN nq) := ⟨rfl, rfl, rfl, Nat.le_refl _, fun _ _ => rfl⟩
                      go_roundw
                      case rel => exact ⟨q + 1, ln, by omega, by go_num, Lib.hid hlt4, hln, Lib.hid (HW.out.below hbd), Lib.hid (HC.out.below hbd), Lib.hid (HL.out.below hbd)⟩
                      case measure => simp [intOf]; omega
                  · obtain rfl : q = na := by omega
                    have hW1 := HW.out.setSl ((st.sl : Int) + 1)
                    have hwp : wg < pb := HW.out.1.2.2.2.2.2.2.2.2.2
                    have hpb : pb < base := HW.out.2.2.2.2.1
                    have hC1 := HC.out.other (a := ⟨pb, 1, none⟩) (by simp; omega) (.int .i64 ((st.sl : Int) + 1))
                    have hL1 := HL.out.other (a := ⟨pb, 1, none⟩) (by simp; omega) (.int .i64 ((st.sl : Int) + 1))
                    obtain ⟨p0, p1, f1, f0⟩ := HW.out.1.pc
                    obtain ⟨P0, P1, F1, F0⟩ := hW1.1.pc
                    have lc1 := hL1.cell
                    have vc1 := hC1.cell
                    obtain ⟨wlc, wlf⟩ := hW1.1.wc ln hln
                    obtain ⟨wvc, wvf⟩ := hW1.1.wc vn hvn
                    have HW1 := Lib.hid hW1
                    have HC1 := Lib.hid hC1
                    have HL1 := Lib.hid hL1
                    clear hW1 hC1 hL1 lc
                    have hlst : lastOf s (vn : Int) ac2 = (ln : Int) := by
                      have := HLA.out
                      rw [HNA.out, List.take_length] at this
                      exact this
                    have HLST := Lib.hid hlst
                    clear hlst
                    by_cases hlv : ln = vn
                    · subst hlv
                      go_wp2_with fail
                      go_roundw
                      case rel =>
                        refine ⟨_, k + 1, ⟨put1 st.wh ln (-((st.sl : Int) + 1)), st.sl + 1, ac2⟩, rfl, by omega, by go_num, Lib.hid ?_, Lib.hid (HW1.out.setWh ln (-((st.sl : Int) + 1))), HAC2, by have := HNA.out; simp; omega, by simp; omega⟩
                        rw [HE1.out, List.foldl_append, ← HST.out]
                        simp only [List.foldl_cons, List.foldl_nil, stepA, ← HA2.out, HREG.out, if_neg hr5, HLST.out, if_true, Int.toNat_natCast]
                      case measure => simp [intOf]; omega
                    · have hlv2 : ¬ (ln : Int) = (vn : Int) := by omega
                      have hl2 : (ln : Int) < (nv : Int) := by omega
                      have hv2 : (vn : Int) < (nv : Int) := by omega
                      go_wp2_with fail
                      generalize World.setCell wr ⟨pb, 1, none⟩ (.int .i64 ((st.sl : Int) + 1)) = w10 at *
                      go_region
                      all_goals go_wp2_with fail
                      have hdw : Below (World.setCell w10 ⟨wg, vn, none⟩ (.int .i64 (st.wh ln))).heap.size (World.setCell w10 ⟨wg, vn, none⟩ (.int .i64 (st.wh ln))) (World.drew (World.setCell w10 ⟨wg, vn, none⟩ (.int .i64 (st.wh ln)))) := (Below.refl _ _).drew
                      have hW11 := (HW1.out.setWh vn (st.wh ln)).below hdw
                      have hC11 := (HC1.out.other (a := ⟨wg, vn, none⟩) (by simp; omega) (.int .i64 (st.wh ln))).below hdw
                      have hL11 := (HL1.out.other (a := ⟨wg, vn, none⟩) (by simp; omega) (.int .i64 (st.wh ln))).below hdw
                      clear hdw
                      generalize World.drew (World.setCell w10 ⟨wg, vn, none⟩ (.int .i64 (st.wh ln))) = w11 at hW11 hC11 hL11 ⊢
                      have hnvb : (Value.slice aA q acap).ownBlock ≠ some vb := HNV.out
                      have hdel : ∀ W, Below w11.heap.size w11 W → Calls Try.prog 28 #[.slice aA q acap, .func (.func 32) #[] #[.pointer (some ⟨lb, 0, none⟩)]] W (fun e w' => ∃ act3, e = .returned act3 ∧ Hid (LW w tb g sb wg pb nv base s (.slice (some ⟨og, 0, none⟩) m ocap) ord (put1 st.wh vn (st.wh ln)) ((st.sl : Int) + 1) act3 (ac2.filter fun x => !decide (x = (ln : Int))) w') ∧ Hid (Cel w' vb vn) ∧ Hid (Cel w' lb ln) ∧ Hid (act3.ownBlock ≠ some lb) ∧ Hid (act3.ownBlock ≠ some vb) ∧ Hid (∀ b, Cel W b vn → w11.heap.size ≤ b → Cel w' b vn)) := fun W hb => by
                        refine (delete_calls base 32 #[.pointer (some ⟨lb, 0, none⟩)] (fun x => decide (x = (ln : Int))) _ ac2 _ (fun _ _ => rfl) (hW11.below hb).2.1 (by have := HNA.out; omega) (fun W2 x hx hg => ?_)).mono ?_
                        · exact islast_calls lb W2 x ln ((hL11.below hb).kept hg HNL.out).cell
                        · rintro e w' ⟨v', rfl, h1, h2, h3⟩
                          refine ⟨v', rfl, Lib.hid ((hW11.below hb).app h1 h3), Lib.hid ((hC11.below hb).kept h3 hnvb), Lib.hid ((hL11.below hb).kept h3 HNL.out), Lib.hid (by rw [h2]; exact HNL.out), Lib.hid (by rw [h2]; exact hnvb), Lib.hid fun b hc hlt => hc.kept h3 (fun e => ?_)⟩
                          have := (hW11.own e).2
                          omega
                      have hc11 := hC11.cell
                      have hbw : base ≤ w11.heap.size := hW11.2.2.2.2.2
                      have HDEL := Lib.hid hdel
                      have HW11 := Lib.hid hW11
                      have HC11 := Lib.hid hC11
                      have HL11 := Lib.hid hL11
                      have hfl : (ac2.filter fun x => !decide (x = (ln : Int))).length ≤ 1000 := by
                        have := List.length_filter_le (fun x => !decide (x = (ln : Int))) ac2
                        have := HNA.out
                        omega
                      clear hdel hW11 hC11 hL11 P0 P1 F1 F0 p0 p1 f1 f0 lc1 vc1 wlc wlf wvc wvf HW1 HC1 HL1 HW HC HL
                      have HOB := Lib.hid hbl8
                      go_region_held3 (fun w' => w'.cell? ⟨vb, 0, none⟩ = some (.int .i64 (vn : Int))) (first | assumption | go_keep)
                        (first
                          | ((go_at_call 28); (with_reducible refine (HDEL.out _ (by first | exact (Below.refl _ _).drew | exact ((Below.refl _ _).alloc (Nat.le_refl _) _).drew)).mono ?_); rintro e w12 ⟨act3, rfl, hW12, hC12, hL12, hn12, hv12, hB12⟩; have hc12 := hC12.out.cell; have hbw12 : base ≤ w12.heap.size := hW12.out.2.2.2.2.2)
                          | (refine step_append_ri rfl (.tmp 102) (.tmp 104) (by rfl) base _ _ (by rfl) (by first | exact hW12.out.2.1 | exact (hW12.out.alloc _).2.1) _ (vn : Int) (by rfl) (by first | exact cell_new1 (by simp) | exact (hB12.out _ (Cel.new _ _) (Nat.le_refl _)).cell) hfl (by first | assumption | (simp; omega)) ?_; intro v' w13 h1 h2 h3; have hc13 : w13.cell? ⟨vb, 0, none⟩ = some (.int .i64 (vn : Int)) := (by first | exact (hC12.out.kept h2 hv12.out).cell | exact ((hC12.out.alloc _).kept h2 hv12.out).cell); have HF : Hid (LW w tb g sb wg pb nv base s (.slice (some ⟨og, 0, none⟩) m ocap) ord (put1 st.wh vn (st.wh ln)) ((st.sl : Int) + 1) v' ((ac2.filter fun x => !decide (x = (ln : Int))) ++ [(vn : Int)]) w13) := Lib.hid (by first | exact hW12.out.app h1 h2 | exact (hW12.out.alloc _).app h1 h2); have HLF : Hid (Cel w13 lb ln) := Lib.hid (by first | exact hL12.out.kept h2 hn12.out | exact (hL12.out.alloc _).kept h2 hn12.out))
                          | fail)
                      all_goals
                        clear hc13 hc12 hbw12 hc11
                        obtain ⟨p0, p1, f1, f0⟩ := HF.out.1.pc
                        obtain ⟨wlc, wlf⟩ := HF.out.1.wc ln hln
                        have lc := HLF.out.cell
                        go_wp2_with fail
                        go_roundw
                        case rel =>
                          refine ⟨_, k + 1, ⟨put1 (put1 st.wh vn (st.wh ln)) ln (-((st.sl : Int) + 1)), st.sl + 1, (ac2.filter fun x => !decide (x = (ln : Int))) ++ [(vn : Int)]⟩, rfl, by omega, by go_num, Lib.hid ?_, Lib.hid (HF.out.setWh ln (-((st.sl : Int) + 1))), Lib.hid ?_, ?_, by simp; omega⟩
                          · rw [HE1.out, List.foldl_append, ← HST.out]
                            simp only [List.foldl_cons, List.foldl_nil, stepA, ← HA2.out, HREG.out, if_neg hr5, HLST.out, if_neg hlv2, Int.toNat_natCast]
                          · intro x hx
                            rcases List.mem_append.1 hx with hx | hx
                            · exact HAC2.out x (List.mem_filter.1 hx).1
                            · simp at hx
                              omega
                          · have h1 := List.length_filter_le (fun x => !decide (x = (ln : Int))) ac2
                            have h2 := HNA.out
                            simp only [List.length_append, List.length_cons, List.length_nil]
                            omega
                        case measure => simp [intOf]; omega
        · obtain rfl : m = k := by omega
          obtain ⟨p0, p1, f1, f0⟩ := HW.out.1.pc
          have htb := HW.out.1.2.2.2.2.1
          have t0 := blk_cell htb 0
          have t1 := blk_cell htb 1
          have tf0 : World.frozen? wr ⟨tb, 0, none⟩ = false := by simp [World.frozen?, htb]
          have tf1 : World.frozen? wr ⟨tb, 1, none⟩ = false := by simp [World.frozen?, htb]
          replace t0 := t0.trans rfl
          replace t1 := t1.trans rfl
          clear htb
          go_wp2_with fail
          have hfin : allocF (SpF l P l.length) nv l.length = st := by
            rw [← HS.out, ← HN.out, HST.out, HM.out, List.take_length, HORD.out]
            rfl
          have h1 := HW.out.1
          obtain ⟨q1, q2, q3, q4⟩ := h1.2.2.2.2.2.2
          refine bodyPost_ret (v := .agg #[.slice (some ⟨wg, 0, none⟩) nv nv, .int .i64 st.sl]) (by simp [results, Try.results21, go_sem, t0, t1]) rfl ⟨P, wg, HP.out, ?_, ?_, ?_, ?_⟩
          · rw [hfin]
          · rw [← HTB.out]; omega
          · rw [hfin]
            exact (h1.2.2.2.1.setOther (by simp; omega) _).setOther (by simp; omega) _
          · rw [← HTB.out]
            exact (h1.2.2.2.2.2.1.setCell (by simp) _).setCell (by simp) _
end Go.Proofs.Ythboknkpgbfmoaa.PA
