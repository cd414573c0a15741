/- The contracts of place.Of, Start and Size, by hand: a map that the call makes, and what is asked of it. -/
import Derived.Test.YthboknkpgbfmoaaPQx1
import Derived.Maps.Own
import Derived.Maps.OwnOps
import Derived.Maps.OwnSet
import Derived.Maps.Views
namespace Go.Proofs.Ythboknkpgbfmoaa.PQ
open Go.RowKit Go.WideMaps Go.Maps Go.Proofs.YthboknkpgbfmoaaW.PrintWords Go.Proofs.YthboknkpgbfmoaaW.PrintLast Go.Proofs.YthboknkpgbfmoaaW.PrintMore
set_option linter.unusedVariables false

theorem law9 : Keyed Try.prog 9 := string_keyed Try.underlying9
theorem zero3 (w : World) : (zeroValue 3).run Try.prog w = .ok (.int .i64 0) w := by kernel_rfl

/-- How many cells a declaration has. -/
def szOf (d : S28) : Int := mx 1 (mn d.f3 64)
theorem szOf_bd (d : S28) : 1 ≤ szOf d ∧ szOf d ≤ 64 := by unfold szOf mx mn; (repeat' split) <;> omega
/-- How many cells the first ones have. -/
def total (ds : List S28) : Int := ds.foldl (fun n d => n + szOf d) 0
theorem total_append (xs : List S28) (d : S28) : total (xs ++ [d]) = total xs + szOf d := by simp [total]
theorem total_bd (xs : List S28) : 0 ≤ total xs ∧ total xs ≤ 64 * xs.length := by
  suffices ∀ (xs : List S28) (n : Int), 0 ≤ n → n ≤ xs.foldl (fun n d => n + szOf d) n ∧ xs.foldl (fun n d => n + szOf d) n ≤ n + 64 * xs.length by
    have := this xs 0 (by omega)
    unfold total; omega
  intro xs
  induction xs with
  | nil => intro n hn; simp
  | cons d xs ih =>
    intro n hn
    have hb := szOf_bd d
    have := ih (n + szOf d) (by omega)
    simp only [List.foldl_cons, List.length_cons]
    omega
def keyOfD (s : ByteArray) : Lit := .string s.data.toList
/-- What the map holds behind some declarations. -/
def content {H : Type} (ds : List S28) : DataW H := (ds.foldl (fun (p : DataW H × Int) d => (p.1.put (keyOfD d.f2) (.lit (.int .i64 p.2)), p.2 + szOf d)) (.map [], 0)).1
theorem content_fold {H : Type} (ds : List S28) : (ds.foldl (fun (p : DataW H × Int) d => (p.1.put (keyOfD d.f2) (.lit (.int .i64 p.2)), p.2 + szOf d)) (.map [], 0)).2 = total ds := by
  suffices ∀ (ds : List S28) (p : DataW H × Int), (ds.foldl (fun (p : DataW H × Int) d => (p.1.put (keyOfD d.f2) (.lit (.int .i64 p.2)), p.2 + szOf d)) p).2 = ds.foldl (fun n d => n + szOf d) p.2 from this ds _
  intro ds
  induction ds with
  | nil => intro p; rfl
  | cons d ds ih => intro p; exact ih _
theorem content_append {H : Type} (xs : List S28) (d : S28) : content (H := H) (xs ++ [d]) = (content xs).put (keyOfD d.f2) (.lit (.int .i64 (total xs))) := by
  unfold content
  rw [List.foldl_append]
  simp only [List.foldl_cons, List.foldl_nil, content_fold]

theorem Size_calls (b : Option Nat) (n : Int) (w : World) :
    Calls Try.prog 16 #[.agg #[.map b, .int .i64 n]] w fun e w' => e = .returned (.int .i64 n) ∧ Below w.heap.size w w' := by
  go_enter Try.func16, Try.ntmps16
  go_wp2
  go_ret
  exact ⟨rfl, (Below.refl _ _).alloc (Nat.le_refl _) _⟩

theorem Start_calls {H : Type} (b n : Nat) (sz : Int) (D : DataW H) (s : ByteArray) (hs : s.size ≤ maxLen) (w : World) (hown : w.ownsMap Try.prog 9 (plainElem (H := H) Try.prog 3) b n D) :
    Calls Try.prog 15 #[.agg #[.map (some b), .int .i64 sz], .string s] w fun e w' => (∃ c : Int, e = .returned (.tuple #[.int .i64 c, .bool (has D (keyOfD s))]) ∧ D.atKey (keyOfD s) (.lit (.int .i64 0)) = .lit (.int .i64 c)) ∧ Below w.heap.size w w' := by
  have hkey : keyOf Try.prog 9 (.string s) = some (keyOfD s) := keyOf_string_mk Try.underlying9 hs
  go_enter Try.func15, Try.ntmps15
  go_wp2_with (at_lookup; refine wpList_lookup_own_ok_int _ rfl _ _ 30 rfl 9 3 .i64 law9 Try.underlying30 Try.underlying3 (zero3 _) b n D rfl (hown.alloc _) _ _ rfl hkey ?_; intro c hat hwc)
  go_ret2
  exact ⟨⟨c, rfl, hat⟩, (Below.refl _ _).alloc (Nat.le_refl _) _⟩

theorem w64 {x : Int} (h0 : -9223372036854775808 ≤ x) (h1 : x ≤ 9223372036854775807) : wrap64 x = x := by
  unfold wrap64
  omega
theorem rdT_at (xs : List S28) (i : Nat) (h : i < xs.length) : rd_T28 xs (i : Int) = xs[i] := by
  unfold rd_T28
  simp [h]
theorem i64_lit {n : Int} (h0 : -9223372036854775808 ≤ n) (h1 : n ≤ 9223372036854775807) : (Lit.int .i64 n).wf = true := by
  simp only [Lit.wf, IntKind.min, IntKind.max, IntKind.signed, IntKind.bits, Bool.and_eq_true, decide_eq_true_eq]
  simp; omega

attribute [local go_sem] max2_int min2_int max_two min_two max_three min_three max_four min_four
set_option maxRecDepth 100000 in
theorem Of_calls {H : Type} (A0 : Option Addr) (c0 : Nat) (l : List S28) (w : World) (hr : Kd.C k28 w A0 l.length l) (hc : l.length ≤ c0) (hl : l.length ≤ 100000) (hn : ∀ d ∈ l, d.f2.size ≤ maxLen) :
    Calls Try.prog 14 #[.slice A0 l.length c0] w fun e w' => ∃ b, e = .returned (.agg #[.map (some b), .int .i64 (total l)]) ∧ w.heap.size ≤ b ∧ w'.ownsMap Try.prog 9 (plainElem (H := H) Try.prog 3) b l.length (content l) ∧ Below w.heap.size w w' := by
  have hmm := @run_makeMap Try.prog
  have hu28 := Try.underlying28
  have hu32 := Try.underlying32
  have HR := Aside0.mk hr
  have HN := Aside0.mk hn
  clear hr hn
  go_enter Try.func14, Try.ntmps14
  go_wp2
  go_loopw [5, 10] (fun _ i wr => ∃ k : Nat, k ≤ l.length ∧ i = .int .i64 k ∧ wr.ownsMap Try.prog 9 (plainElem (H := H) Try.prog 3) (w.heap.size + 1) k (content (l.take k)) ∧ Aside0 (wr.heap[w.heap.size + 1 + 1]? = some (.cells #[.map (some (w.heap.size + 1)), .int .i64 (total (l.take k))] 32 (0, 0))) ∧ Aside0 (wr.heap[w.heap.size]? = some (.cells #[.map none, .int .i64 0] 32 (0, 0))) ∧ Aside0 (Below w.heap.size w wr)) (fun _ i _ => l.length - (intOf i).toNat)
  case atStart =>
    refine ⟨0, Nat.zero_le _, rfl, ?_, ⟨?_⟩, ⟨?_⟩, ⟨?_⟩⟩
    · have h0 := World.ownsMap_made (w.alloc (.cells #[.map none, .int .i64 0] 32)) Try.prog 9 (plainElem (H := H) Try.prog 3)
      have e : (w.alloc (.cells #[.map none, .int .i64 0] 32)).heap.size = w.heap.size + 1 := by simp
      rw [e] at h0
      exact h0.alloc _
    · have e : ((w.alloc (.cells #[.map none, .int .i64 0] 32)).alloc (.map #[] 0)).heap.size = w.heap.size + 1 + 1 := by simp
      have := blk_new ((w.alloc (.cells #[.map none, .int .i64 0] 32)).alloc (.map #[] 0)) (.cells #[.map (some (w.heap.size + 1)), .int .i64 0] 32)
      rw [e] at this
      exact this
    · exact blk_alloc (blk_alloc (blk_new _ _) _) _
    · exact (((Below.refl _ _).alloc (Nat.le_refl _) _).alloc (by simp) _).alloc (by simp; omega) _
  case round =>
    obtain ⟨k, hk, rfl, hown, HM, HZ, HB⟩ := hrel
    by_cases hlt : k < l.length
    · obtain ⟨ad, e1, x0, x1, x2, x3, x4, x5⟩ := at_T28 HR.out (k : Int) (by omega) (by omega)
      cases e1
      rw [Int.toNat_natCast] at x0 x1 x2 x3 x4 x5
      obtain ⟨d, hd⟩ : ∃ d, d = rd_T28 l (k : Int) := ⟨_, rfl⟩
      rw [← hd] at x0 x1 x2 x3 x4 x5
      have hdl : d = l[k] := hd.trans (rdT_at l k hlt)
      have hkey : keyOf Try.prog 9 (.string d.f2) = some (keyOfD d.f2) := keyOf_string_mk Try.underlying9 (HN.out d (by rw [hdl]; exact List.getElem_mem hlt))
      have HD := Aside0.mk hdl
      clear hd hdl
      replace x0 := (HB.out.cell (World.block_lt_of_cell? w _ x0)).trans x0
      replace x1 := (HB.out.cell (World.block_lt_of_cell? w _ x1)).trans x1
      replace x2 := (HB.out.cell (World.block_lt_of_cell? w _ x2)).trans x2
      replace x3 := (HB.out.cell (World.block_lt_of_cell? w _ x3)).trans x3
      replace x4 := (HB.out.cell (World.block_lt_of_cell? w _ x4)).trans x4
      replace x5 := (HB.out.cell (World.block_lt_of_cell? w _ x5)).trans x5
      have m0 : wr.cell? ⟨w.heap.size + 1 + 1, 0, none⟩ = some (.map (some (w.heap.size + 1))) := (blk_cell HM.out 0).trans rfl
      have m1 : wr.cell? ⟨w.heap.size + 1 + 1, 1, none⟩ = some (.int .i64 (total (l.take k))) := (blk_cell HM.out 1).trans rfl
      have f0 := blk_frozen HM.out 0
      have f1 := blk_frozen HM.out 1
      have hlt2 : w.heap.size + 1 + 1 < wr.heap.size := blk_lt HM.out
      have tb := total_bd (l.take k)
      have tl : (l.take k).length = k := by rw [List.length_take]; omega
      have hwf : (Lit.int .i64 (total (l.take k))).wf = true := i64_lit (by omega) (by omega)
      have hsb := szOf_bd d
      have hE : total (l.take (k + 1)) = total (l.take k) + szOf d := by rw [List.take_succ_eq_append_getElem hlt, total_append, HD.out]
      have hC : content (H := H) (l.take (k + 1)) = (content (l.take k)).put (keyOfD d.f2) (.lit (.int .i64 (total (l.take k)))) := by rw [List.take_succ_eq_append_getElem hlt, content_append, HD.out]
      have hsum : wrap64 (total (l.take k) + (if 1 < if 64 < d.f3 then 64 else d.f3 then if 64 < d.f3 then 64 else d.f3 else 1)) = total (l.take (k + 1)) := by
        rw [hE]
        show wrap64 (total (l.take k) + szOf d) = _
        exact w64 (by omega) (by omega)
      have HSUM := Aside0.mk hsum
      have HCC := Aside0.mk hC
      have HBD := Aside0.mk tb
      clear hE hC hsum tb tl
      go_wp2_with (at_mapUpdate; refine wpList_mapUpdate_own _ rfl _ _ _ 30 rfl 9 3 law9 Try.underlying30 _ (w.heap.size + 1) k _ rfl (hown.alloc _) (by unfold maxLen; omega) _ _ _ rfl rfl hkey _ [] (plainElem_int Try.underlying3 hwf) ?_)
      intro w1 hown1 hgrow1
      have HM1 := Aside0.mk (blk_grown (blk_alloc HM.out _) hgrow1 (by simp))
      have HZ1 := Aside0.mk (blk_grown (blk_alloc HZ.out _) hgrow1 (by simp))
      have HD1 := Aside0.mk (blk_grown (blk_new wr _) hgrow1 (by simp; omega))
      have HB1 := Aside0.mk ((HB.out.alloc (by omega) _).grown hgrow1 (by simp; omega) (fun j hj => by cases hj; omega))
      rw [← HCC.out] at hown1
      have n0 : w1.cell? ⟨w.heap.size + 1 + 1, 0, none⟩ = some (.map (some (w.heap.size + 1))) := (blk_cell HM1.out 0).trans rfl
      have n1 : w1.cell? ⟨w.heap.size + 1 + 1, 1, none⟩ = some (.int .i64 (total (l.take k))) := (blk_cell HM1.out 1).trans rfl
      have g1 := blk_frozen HM1.out 1
      have s3 : w1.cell? ⟨wr.heap.size, 3, none⟩ = some (.int .i64 d.f3) := (blk_cell HD1.out 3).trans rfl
      have OW := Aside0.mk hown1
      clear hown1 hgrow1 hown x0 x1 x2 x3 x4 x5 m0 m1 f0 f1 hkey hwf HM HZ HD1
      go_wp2
      go_roundw
      case rel =>
        rw [HSUM.out]
        refine ⟨k + 1, by omega, by go_num, ?_, ⟨blk_put HM1.out 1 _ rfl⟩, ⟨blk_far HZ1.out (by show w.heap.size ≠ w.heap.size + 1 + 1; omega) _⟩, ⟨HB1.out.setCell (by show w.heap.size ≤ w.heap.size + 1 + 1; omega) _⟩⟩
        exact OW.out.setCell (by simp) _
      case measure => simp [intOf]; omega
    · have e : k = l.length := by omega
      subst e
      rw [List.take_length] at hown HM
      have m0 : wr.cell? ⟨w.heap.size + 1 + 1, 0, none⟩ = some (.map (some (w.heap.size + 1))) := (blk_cell HM.out 0).trans rfl
      have m1 : wr.cell? ⟨w.heap.size + 1 + 1, 1, none⟩ = some (.int .i64 (total l)) := (blk_cell HM.out 1).trans rfl
      have z0 : wr.cell? ⟨w.heap.size, 0, none⟩ = some (.map none) := (blk_cell HZ.out 0).trans rfl
      have z1 : wr.cell? ⟨w.heap.size, 1, none⟩ = some (.int .i64 0) := (blk_cell HZ.out 1).trans rfl
      have f0 := blk_frozen HZ.out 0
      have f1 := blk_frozen HZ.out 1
      go_wp2
      have HZ2 := blk_put (cs' := #[.map (some (w.heap.size + 1)), .int .i64 (total l)]) (blk_put (cs' := #[.map (some (w.heap.size + 1)), .int .i64 0]) HZ.out 0 (.map (some (w.heap.size + 1))) rfl) 1 (.int .i64 (total l)) rfl
      have r0 := (blk_cell HZ2 0).trans rfl
      have r1 := (blk_cell HZ2 1).trans rfl
      refine bodyPost_ret (v := .agg #[.map (some (w.heap.size + 1)), .int .i64 (total l)]) (by simp [results, Try.results14, go_sem, r0, r1]) rfl ⟨w.heap.size + 1, rfl, by omega, ?_, ?_⟩
      · exact (hown.setCell (by show w.heap.size + 1 ≠ w.heap.size; omega) _).setCell (by show w.heap.size + 1 ≠ w.heap.size; omega) _
      · exact (HB.out.setCell (by show w.heap.size ≤ w.heap.size; omega) _).setCell (by show w.heap.size ≤ w.heap.size; omega) _
end Go.Proofs.Ythboknkpgbfmoaa.PQ
