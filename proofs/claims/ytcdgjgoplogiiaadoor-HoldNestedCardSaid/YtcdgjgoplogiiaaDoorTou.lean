/- (*holder).touch. -/
import Derived.Test.YtcdgjgoplogiiaaDoorHt
namespace Go.Proofs.YtcdgjgoplogiiaaDoor.PT
open Go.RowKit Go.Lib
set_option linter.unusedVariables false
set_option linter.unusedSimpArgs false
theorem cell_dw {w : World} {a : Addr} {v : Value} (h : w.cell? a = some v) : w.drew.cell? a = some v := h
theorem dec_ne (a b : Nat) : decide (a ≠ b) = ((a : Int) != (b : Int)) := by
  rw [Bool.eq_iff_iff, decide_eq_true_iff, bne_iff_ne]
  omega
theorem zS (w : World) : (zeroValue TSt).run Tryd.prog w = .ok (.string ByteArray.empty) w := by kernel_rfl
theorem zU (w : World) : (zeroValue THu).run Tryd.prog w = .ok (.agg #[.int .i64 0, .bool false, .bool false]) w := by kernel_rfl
abbrev TMs : TypeId := 133
abbrev TMu : TypeId := 134
set_option maxRecDepth 100000 in
set_option maxHeartbeats 4000000 in
theorem touch_calls {w : World} {B b mb mu : Nat} {by' : ByteArray → Option ByteArray} {th : Nat} {h : HS} {k : Nat} {hA : Option Addr} {hc : Nat} {oA : Option Addr} {oc : Nat} (hm : HMx w B b mb mu by' th h k hA hc oA oc) (hk : k + 1 ≤ 100000000) (s : ByteArray) (hs : s.size ≤ maxLen) (added : Bool) (p : Int) :
    Calls Tryd.prog 120 #[.pointer (some ⟨b, 0, none⟩), .string s, .bool added, .int .i64 p] w (HPost (touchp by' th s added p h) w B b mb mu by' th (k + 1) hA oA) := by
  have c0 : w.cell? ⟨b, 0, none⟩ = some (.map (some mb)) := (blk_cell hm.blk 0).trans rfl
  have c1 : w.cell? ⟨b, 1, none⟩ = some (.map (some mu)) := (blk_cell hm.blk 1).trans rfl
  have c2 : w.cell? ⟨b, 2, none⟩ = some (.int .i64 th) := (blk_cell hm.blk 2).trans rfl
  have c3 : w.cell? ⟨b, 3, none⟩ = some (.slice hA h.held.length hc) := (blk_cell hm.blk 3).trans rfl
  have c4 : w.cell? ⟨b, 4, none⟩ = some (.slice oA h.own.length oc) := (blk_cell hm.blk 4).trans rfl
  have hbl := hm.lt
  obtain ⟨n0, m0⟩ := hm.m0
  have M0 := Lib.hid m0
  have M1 := Lib.hid hm.m1
  have HM := Lib.hid hm
  clear m0 hm
  cases hby : by' s with
  | none =>
    have hf : byF by' s = none := by unfold byF; rw [hby]; rfl
    have e : touchp by' th s added p h = .ok h := by unfold touchp; rw [hby]
    rw [e]
    go_enter Tryd.func120, Tryd.ntmps120
    go_wp2_with (at_lookup; refine wpList_look_none M0.out rfl _ _ TMs rfl Tryd.underlying133 (zS _) rfl s rfl hs hf ?_)
    go_ret
    exact ⟨rfl, hA, hc, oA, oc, HM.out.mono (Nat.le_succ k) hk, HTr.refl _ _ _ _ _ _⟩
  | some d =>
    have hf : byF by' s = some (.string d) := by unfold byF; rw [hby]; rfl
    have CO := Lib.hid (contains_calls HM.out.r1 s rfl)
    cases hmo : memS s h.own with
    | true =>
      have e : touchp by' th s added p h = .ok h := by unfold touchp; rw [hby]; simp only [hmo, if_true]
      rw [e]
      rw [hmo] at CO
      clear hmo
      go_enter Tryd.func120, Tryd.ntmps120
      go_wp2_with (first | (at_lookup; refine wpList_look_some M0.out rfl _ _ TMs rfl Tryd.underlying133 (zS _) rfl s rfl hs hf ?_) | (go_at_call 121; refine CO.out.mono ?_; rintro e w' ⟨rfl, rfl⟩))
      go_ret
      exact ⟨rfl, hA, hc, oA, oc, HM.out.mono (Nat.le_succ k) hk, HTr.refl _ _ _ _ _ _⟩
    | false =>
      rw [hmo] at CO
      by_cases hd : d = ⟨#[]⟩
      · subst hd
        cases hus : h.us s with
        | none =>
          have e : touchp by' th s added p h = .ok { h with us := putF h.us s ⟨th, false, added⟩ } := by unfold touchp; rw [hby]; simp only [hmo, if_false, bq_self, if_true, hus]; rfl
          rw [e]
          have hu : usF h.us s = none := by unfold usF; rw [hus]; rfl
          clear hmo
          go_enter Tryd.func120, Tryd.ntmps120
          go_wp2_with (first | (at_lookup; refine wpList_look_some M0.out rfl _ _ TMs rfl Tryd.underlying133 (zS _) rfl s rfl hs hf ?_) | (at_lookup; refine wpList_look_none M1.out rfl _ _ TMu rfl Tryd.underlying134 (zU _) rfl s rfl hs hu ?_) | (go_at_call 121; refine CO.out.mono ?_; rintro e w' ⟨rfl, rfl⟩))
          obtain ⟨W, hW⟩ : ∃ W, W = w'.alloc (.cells #[.int .i64 0, .bool false, .bool false] THu) := ⟨_, rfl⟩
          have HW : Hid (HMx W B b mb mu by' th h k hA hc oA oc) := Lib.hid (by rw [hW]; exact HM.out.alloc _)
          have HWT : Hid (HTr w' B b mu hA oA W hA oA) := Lib.hid (by rw [hW]; exact (HTr.refl _ _ _ _ _ _).more ((Below.refl _ _).alloc (Nat.le_refl _) _) (Nat.le_trans HM.out.lb.1 (Nat.le_of_lt HM.out.lt)))
          rw [← hW]
          clear hW
          have d1 : W.cell? ⟨b, 1, none⟩ = some (.map (some mu)) := (blk_cell HW.out.blk 1).trans rfl
          have d2 : W.cell? ⟨b, 2, none⟩ = some (.int .i64 th) := (blk_cell HW.out.blk 2).trans rfl
          refine wp_region_S [(11, fun w0 => w0.cell? ⟨b, 1, none⟩ = some (.map (some mu)) ∧ w0.cell? ⟨b, 2, none⟩ = some (.int .i64 th))] (by kernel_rfl) (SL.cons ⟨cell_dw d1, cell_dw d2⟩ SL.nil) (fun hS => ?_)
          (refine wpAnyS_free 0 (v := ?_) rfl (by kernel_rfl) (by kernel_rfl) (by kernel_rfl) (by simp) (fun _ _ _ h => h) (Or.inl ⟨by rfl, ?_⟩) hS (fun hS => ?_); rotate_left)
          · ((intro w; go_simp) <;> with_reducible rfl)
          try simp only [List.getElem_toArray, List.getElem_cons_succ, List.getElem_cons_zero, Act.put, List.setIfInBounds_toArray, List.set_cons_zero, List.set_cons_succ]
          (refine wpAnyS_free 1 (v := ?_) rfl (by kernel_rfl) (by kernel_rfl) (by kernel_rfl) (by simp) (fun _ _ _ h => h) (Or.inl ⟨by rfl, ?_⟩) hS (fun hS => ?_); rotate_left)
          · ((intro w; go_simp) <;> with_reducible rfl)
          try simp only [List.getElem_toArray, List.getElem_cons_succ, List.getElem_cons_zero, Act.put, List.setIfInBounds_toArray, List.set_cons_zero, List.set_cons_succ]
          (refine wpAnyS_free 2 (v := ?_) rfl (by kernel_rfl) (by kernel_rfl) (by kernel_rfl) (by simp) (fun _ _ _ h => h) (Or.inl ⟨by rfl, ?_⟩) hS (fun hS => ?_); rotate_left)
          · ((intro w; go_simp) <;> with_reducible rfl)
          try simp only [List.getElem_toArray, List.getElem_cons_succ, List.getElem_cons_zero, Act.put, List.setIfInBounds_toArray, List.set_cons_zero, List.set_cons_succ]
          (refine wpAnyS_load 3 11 (v := ?_) (List.mem_singleton.2 rfl) rfl (by kernel_rfl) (by kernel_rfl) (by kernel_rfl) (by kernel_rfl) (by kernel_rfl) (by simp) (fun _ _ _ h => h) (Or.inl ⟨by rfl, ?_⟩) hS (fun hS => ?_); rotate_left)
          · ((intro w hSw; (try dsimp only at hSw); go_simp) <;> with_reducible rfl)
          try simp only [List.getElem_toArray, List.getElem_cons_succ, List.getElem_cons_zero, Act.put, List.setIfInBounds_toArray, List.set_cons_zero, List.set_cons_succ]
          (refine wpAnyS_free 4 (v := ?_) rfl (by kernel_rfl) (by kernel_rfl) (by kernel_rfl) (by simp) (fun _ _ _ h => h) (Or.inl ⟨by rfl, ?_⟩) hS (fun hS => ?_); rotate_left)
          · ((intro w; go_simp) <;> with_reducible rfl)
          try simp only [List.getElem_toArray, List.getElem_cons_succ, List.getElem_cons_zero, Act.put, List.setIfInBounds_toArray, List.set_cons_zero, List.set_cons_succ]
          (refine wpAnyS_free 5 (v := ?_) rfl (by kernel_rfl) (by kernel_rfl) (by kernel_rfl) (by simp) (fun _ _ _ h => h) (Or.inl ⟨by rfl, ?_⟩) hS (fun hS => ?_); rotate_left)
          · ((intro w; go_simp) <;> with_reducible rfl)
          try simp only [List.getElem_toArray, List.getElem_cons_succ, List.getElem_cons_zero, Act.put, List.setIfInBounds_toArray, List.set_cons_zero, List.set_cons_succ]
          (refine wpAnyS_free 6 (v := ?_) rfl (by kernel_rfl) (by kernel_rfl) (by kernel_rfl) (by simp) (fun _ _ _ h => h) (Or.inl ⟨by rfl, ?_⟩) hS (fun hS => ?_); rotate_left)
          · ((intro w; go_simp) <;> with_reducible rfl)
          try simp only [List.getElem_toArray, List.getElem_cons_succ, List.getElem_cons_zero, Act.put, List.setIfInBounds_toArray, List.set_cons_zero, List.set_cons_succ]
          (refine wpAnyS_free 7 (v := ?_) rfl (by kernel_rfl) (by kernel_rfl) (by kernel_rfl) (by simp) (fun _ _ _ h => h) (Or.inl ⟨by rfl, ?_⟩) hS (fun hS => ?_); rotate_left)
          · ((intro w; go_simp) <;> with_reducible rfl)
          try simp only [List.getElem_toArray, List.getElem_cons_succ, List.getElem_cons_zero, Act.put, List.setIfInBounds_toArray, List.set_cons_zero, List.set_cons_succ]
          (refine wpAnyS_load 8 11 (v := ?_) (List.mem_singleton.2 rfl) rfl (by kernel_rfl) (by kernel_rfl) (by kernel_rfl) (by kernel_rfl) (by kernel_rfl) (by simp) (fun _ _ _ h => h) (Or.inl ⟨by rfl, ?_⟩) hS (fun hS => ?_); rotate_left)
          · ((intro w hSw; (try dsimp only at hSw); go_simp) <;> with_reducible rfl)
          try simp only [List.getElem_toArray, List.getElem_cons_succ, List.getElem_cons_zero, Act.put, List.setIfInBounds_toArray, List.set_cons_zero, List.set_cons_succ]
          (refine wpAnyS_free 9 (v := ?_) rfl (by kernel_rfl) (by kernel_rfl) (by kernel_rfl) (by simp) (fun _ _ _ h => h) (Or.inl ⟨by rfl, ?_⟩) hS (fun hS => ?_); rotate_left)
          · ((intro w; go_simp) <;> with_reducible rfl)
          try simp only [List.getElem_toArray, List.getElem_cons_succ, List.getElem_cons_zero, Act.put, List.setIfInBounds_toArray, List.set_cons_zero, List.set_cons_succ]
          (refine wpAnyS_free 10 (v := ?_) rfl (by kernel_rfl) (by kernel_rfl) (by kernel_rfl) (by simp) (fun _ _ _ h => h) (Or.inl ⟨by rfl, ?_⟩) hS (fun hS => ?_); rotate_left)
          · ((intro w; go_simp) <;> with_reducible rfl)
          try simp only [List.getElem_toArray, List.getElem_cons_succ, List.getElem_cons_zero, Act.put, List.setIfInBounds_toArray, List.set_cons_zero, List.set_cons_succ]
          refine wpAnyS_one 11 rfl (by kernel_rfl) (by rfl) (fun K hK => ?_)
          refine wp_put HW.out.m1 _ _ _ TMu rfl Tryd.underlying134 (by unfold maxLen; omega) rfl s rfl hs (Us.val ⟨th, false, added⟩) rfl ?_
          intro w2 hp hg
          have hg2 : W.grownBy w2 (some mu) := ⟨hg.os, hg.tape, hg.output, hg.size, hg.block⟩
          have HU := Lib.hid (HW.out.used (u := ⟨th, false, added⟩) hp hg2 hk)
          clear hp hg hg2
          refine hK.out _ _ (SL.past (by kernel_rfl) SL.nil) (fun hS => ?_)
          clear hK K
          try simp only [List.getElem_toArray, List.getElem_cons_succ, List.getElem_cons_zero, Act.put, List.setIfInBounds_toArray, List.set_cons_zero, List.set_cons_succ]
          refine wpAnyS_done (by kernel_rfl) ?_ _
          clear d1 d2
          go_wp2
          go_ret
          exact ⟨rfl, hA, hc, oA, oc, HU.out.1, HWT.out.trans HU.out.2⟩
        | some u =>
          have hu : usF h.us s = some u.val := by unfold usF; rw [hus]; rfl
          obtain ⟨t, ot, ad⟩ := u
          obtain ⟨r, hr⟩ : ∃ r, r = touchp by' th s added p h := ⟨_, rfl⟩
          have e : r = if (ot || decide (t ≠ th)) && !(ad && added) then .error p else .ok { h with us := putF h.us s ⟨t, ot || decide (t ≠ th), ad && added⟩ } := by rw [hr]; unfold touchp; rw [hby]; simp only [hmo, if_false, bq_self, if_true, hus]; rfl
          rw [← hr]
          have HE := Lib.hid e
          unfold Us.val at hu
          dsimp only at hu
          clear hmo e hus hr
          go_enter Tryd.func120, Tryd.ntmps120
          go_wp2_with (first | (at_lookup; refine wpList_look_some M0.out rfl _ _ TMs rfl Tryd.underlying133 (zS _) rfl s rfl hs hf ?_) | (at_lookup; refine wpList_look_some M1.out rfl _ _ TMu rfl Tryd.underlying134 (zU _) rfl s rfl hs hu ?_) | (go_at_call 121; refine CO.out.mono ?_; rintro e w' ⟨rfl, rfl⟩))
          obtain ⟨W, hW⟩ : ∃ W, W = w'.alloc (.cells #[.int .i64 t, .bool ot, .bool ad] THu) := ⟨_, rfl⟩
          obtain ⟨U, hU⟩ : ∃ U, U = w'.heap.size := ⟨_, rfl⟩
          have HUW : Hid (W.heap[U]? = some (.cells #[.int .i64 t, .bool ot, .bool ad] THu (0, 0))) := Lib.hid (by rw [hW, hU]; exact blk_new _ _)
          have HW : Hid (HMx W B b mb mu by' th h k hA hc oA oc) := Lib.hid (by rw [hW]; exact HM.out.alloc _)
          have HWT : Hid (HTr w' B b mu hA oA W hA oA) := Lib.hid (by rw [hW]; exact (HTr.refl _ _ _ _ _ _).more ((Below.refl _ _).alloc (Nat.le_refl _) _) (Nat.le_trans HM.out.lb.1 (Nat.le_of_lt HM.out.lt)))
          have hUb : B ≤ U := by have := HM.out.lb.1; omega
          have hU2 : w'.heap.size ≤ U := by omega
          have hBw : B ≤ w'.heap.size := by have := HM.out.lb.1; omega
          rw [← hW, ← hU]
          clear hW hU
          go_cut [] (fun wx => Hid (wx.heap[U]? = some (.cells #[.int .i64 t, .bool (ot || decide (t ≠ th)), .bool ad] THu (0, 0)) ∧ HMx wx B b mb mu by' th h k hA hc oA oc ∧ HTr w' B b mu hA oA wx hA oA))
          case first =>
            cases ot with
            | true =>
              refine wp_region_S [(12, fun w0 => w0.cell? ⟨U, 0, none⟩ = some (.int .i64 t) ∧ w0.cell? ⟨U, 1, none⟩ = some (.bool true) ∧ w0.cell? ⟨b, 2, none⟩ = some (.int .i64 th))] (by kernel_rfl) (SL.cons ⟨cell_dw ((blk_cell HUW.out 0).trans rfl), cell_dw ((blk_cell HUW.out 1).trans rfl), cell_dw ((blk_cell HW.out.blk 2).trans rfl)⟩ SL.nil) (fun hS => ?_)
              (refine wpAnyS_free 0 (v := ?_) rfl (by kernel_rfl) (by kernel_rfl) (by kernel_rfl) (by simp) (fun _ _ _ h => h) (Or.inl ⟨by rfl, ?_⟩) hS (fun hS => ?_); rotate_left)
              · ((intro w; go_simp) <;> with_reducible rfl)
              try simp only [List.getElem_toArray, List.getElem_cons_succ, List.getElem_cons_zero, Act.put, List.setIfInBounds_toArray, List.set_cons_zero, List.set_cons_succ]
              (refine wpAnyS_load 1 12 (v := ?_) (List.mem_singleton.2 rfl) rfl (by kernel_rfl) (by kernel_rfl) (by kernel_rfl) (by kernel_rfl) (by kernel_rfl) (by simp) (fun _ _ _ h => h) (Or.inl ⟨by rfl, ?_⟩) hS (fun hS => ?_); rotate_left)
              · ((intro w hSw; (try dsimp only at hSw); go_simp) <;> with_reducible rfl)
              try simp only [List.getElem_toArray, List.getElem_cons_succ, List.getElem_cons_zero, Act.put, List.setIfInBounds_toArray, List.set_cons_zero, List.set_cons_succ]
              (refine wpAnyS_free 2 (v := ?_) rfl (by kernel_rfl) (by kernel_rfl) (by kernel_rfl) (by simp) (fun _ _ _ h => h) (Or.inl ⟨by rfl, ?_⟩) hS (fun hS => ?_); rotate_left)
              · ((intro w; go_simp) <;> with_reducible rfl)
              try simp only [List.getElem_toArray, List.getElem_cons_succ, List.getElem_cons_zero, Act.put, List.setIfInBounds_toArray, List.set_cons_zero, List.set_cons_succ]
              refine wpAnyS_free 3 (v := undef) rfl (by kernel_rfl) (by kernel_rfl) (by kernel_rfl) (by simp) (fun _ _ _ h => h) (Or.inr ⟨by rfl, rfl⟩) hS (fun hS => ?_)
              try simp only [List.getElem_toArray, List.getElem_cons_succ, List.getElem_cons_zero, Act.put, List.setIfInBounds_toArray, List.set_cons_zero, List.set_cons_succ]
              refine wpAnyS_free 4 (v := undef) rfl (by kernel_rfl) (by kernel_rfl) (by kernel_rfl) (by simp) (fun _ _ _ h => h) (Or.inr ⟨by rfl, rfl⟩) hS (fun hS => ?_)
              try simp only [List.getElem_toArray, List.getElem_cons_succ, List.getElem_cons_zero, Act.put, List.setIfInBounds_toArray, List.set_cons_zero, List.set_cons_succ]
              refine wpAnyS_free 5 (v := undef) rfl (by kernel_rfl) (by kernel_rfl) (by kernel_rfl) (by simp) (fun _ _ _ h => h) (Or.inr ⟨by rfl, rfl⟩) hS (fun hS => ?_)
              try simp only [List.getElem_toArray, List.getElem_cons_succ, List.getElem_cons_zero, Act.put, List.setIfInBounds_toArray, List.set_cons_zero, List.set_cons_succ]
              refine wpAnyS_free 6 (v := undef) rfl (by kernel_rfl) (by kernel_rfl) (by kernel_rfl) (by simp) (fun _ _ _ h => h) (Or.inr ⟨by rfl, rfl⟩) hS (fun hS => ?_)
              try simp only [List.getElem_toArray, List.getElem_cons_succ, List.getElem_cons_zero, Act.put, List.setIfInBounds_toArray, List.set_cons_zero, List.set_cons_succ]
              refine wpAnyS_free 7 (v := undef) rfl (by kernel_rfl) (by kernel_rfl) (by kernel_rfl) (by simp) (fun _ _ _ h => h) (Or.inr ⟨by rfl, rfl⟩) hS (fun hS => ?_)
              try simp only [List.getElem_toArray, List.getElem_cons_succ, List.getElem_cons_zero, Act.put, List.setIfInBounds_toArray, List.set_cons_zero, List.set_cons_succ]
              refine wpAnyS_free 8 (v := undef) rfl (by kernel_rfl) (by kernel_rfl) (by kernel_rfl) (by simp) (fun _ _ _ h => h) (Or.inr ⟨by rfl, rfl⟩) hS (fun hS => ?_)
              try simp only [List.getElem_toArray, List.getElem_cons_succ, List.getElem_cons_zero, Act.put, List.setIfInBounds_toArray, List.set_cons_zero, List.set_cons_succ]
              refine wpAnyS_free 9 (v := undef) rfl (by kernel_rfl) (by kernel_rfl) (by kernel_rfl) (by simp) (fun _ _ _ h => h) (Or.inr ⟨by rfl, rfl⟩) hS (fun hS => ?_)
              try simp only [List.getElem_toArray, List.getElem_cons_succ, List.getElem_cons_zero, Act.put, List.setIfInBounds_toArray, List.set_cons_zero, List.set_cons_succ]
              (refine wpAnyS_free 10 (v := ?_) rfl (by kernel_rfl) (by kernel_rfl) (by kernel_rfl) (by simp) (fun _ _ _ h => h) (Or.inl ⟨by rfl, ?_⟩) hS (fun hS => ?_); rotate_left)
              · ((intro w; go_simp) <;> with_reducible rfl)
              try simp only [List.getElem_toArray, List.getElem_cons_succ, List.getElem_cons_zero, Act.put, List.setIfInBounds_toArray, List.set_cons_zero, List.set_cons_succ]
              (refine wpAnyS_free 11 (v := ?_) rfl (by kernel_rfl) (by kernel_rfl) (by kernel_rfl) (by simp) (fun _ _ _ h => h) (Or.inl ⟨by rfl, ?_⟩) hS (fun hS => ?_); rotate_left)
              · ((intro w; go_simp) <;> with_reducible rfl)
              try simp only [List.getElem_toArray, List.getElem_cons_succ, List.getElem_cons_zero, Act.put, List.setIfInBounds_toArray, List.set_cons_zero, List.set_cons_succ]
              have f1 : W.drew.frozen? ⟨U, 1, none⟩ = false := blk_frozen HUW.out 1; have e1 := cell_dw ((blk_cell HUW.out 1).trans rfl)
              refine wpAnyS_one 12 rfl (by kernel_rfl) (by rfl) (fun K hK => ?_)
              go_simp
              refine hK.out _ _ (SL.past (by kernel_rfl) SL.nil) (fun hS => ?_)
              clear hK K
              try simp only [List.getElem_toArray, List.getElem_cons_succ, List.getElem_cons_zero, Act.put, List.setIfInBounds_toArray, List.set_cons_zero, List.set_cons_succ]
              refine wpAnyS_done (by kernel_rfl) ?_ _
              go_wp2
              go_meet
              case rel => exact Lib.hid ⟨by rw [Bool.true_or]; exact blk_put HUW.out 1 _ rfl, (HW.out.put HUW.out (by decide) (by decide) 1 _).drew, (HWT.out.put hU2 hBw 1 _).drew⟩
            | false =>
              refine wp_region_S [(12, fun w0 => w0.cell? ⟨U, 0, none⟩ = some (.int .i64 t) ∧ w0.cell? ⟨U, 1, none⟩ = some (.bool false) ∧ w0.cell? ⟨b, 2, none⟩ = some (.int .i64 th))] (by kernel_rfl) (SL.cons ⟨cell_dw ((blk_cell HUW.out 0).trans rfl), cell_dw ((blk_cell HUW.out 1).trans rfl), cell_dw ((blk_cell HW.out.blk 2).trans rfl)⟩ SL.nil) (fun hS => ?_)
              (refine wpAnyS_free 0 (v := ?_) rfl (by kernel_rfl) (by kernel_rfl) (by kernel_rfl) (by simp) (fun _ _ _ h => h) (Or.inl ⟨by rfl, ?_⟩) hS (fun hS => ?_); rotate_left)
              · ((intro w; go_simp) <;> with_reducible rfl)
              try simp only [List.getElem_toArray, List.getElem_cons_succ, List.getElem_cons_zero, Act.put, List.setIfInBounds_toArray, List.set_cons_zero, List.set_cons_succ]
              (refine wpAnyS_load 1 12 (v := ?_) (List.mem_singleton.2 rfl) rfl (by kernel_rfl) (by kernel_rfl) (by kernel_rfl) (by kernel_rfl) (by kernel_rfl) (by simp) (fun _ _ _ h => h) (Or.inl ⟨by rfl, ?_⟩) hS (fun hS => ?_); rotate_left)
              · ((intro w hSw; (try dsimp only at hSw); go_simp) <;> with_reducible rfl)
              try simp only [List.getElem_toArray, List.getElem_cons_succ, List.getElem_cons_zero, Act.put, List.setIfInBounds_toArray, List.set_cons_zero, List.set_cons_succ]
              (refine wpAnyS_free 2 (v := ?_) rfl (by kernel_rfl) (by kernel_rfl) (by kernel_rfl) (by simp) (fun _ _ _ h => h) (Or.inl ⟨by rfl, ?_⟩) hS (fun hS => ?_); rotate_left)
              · ((intro w; go_simp) <;> with_reducible rfl)
              try simp only [List.getElem_toArray, List.getElem_cons_succ, List.getElem_cons_zero, Act.put, List.setIfInBounds_toArray, List.set_cons_zero, List.set_cons_succ]
              (refine wpAnyS_free 3 (v := ?_) rfl (by kernel_rfl) (by kernel_rfl) (by kernel_rfl) (by simp) (fun _ _ _ h => h) (Or.inl ⟨by rfl, ?_⟩) hS (fun hS => ?_); rotate_left)
              · ((intro w; go_simp) <;> with_reducible rfl)
              try simp only [List.getElem_toArray, List.getElem_cons_succ, List.getElem_cons_zero, Act.put, List.setIfInBounds_toArray, List.set_cons_zero, List.set_cons_succ]
              (refine wpAnyS_load 4 12 (v := ?_) (List.mem_singleton.2 rfl) rfl (by kernel_rfl) (by kernel_rfl) (by kernel_rfl) (by kernel_rfl) (by kernel_rfl) (by simp) (fun _ _ _ h => h) (Or.inl ⟨by rfl, ?_⟩) hS (fun hS => ?_); rotate_left)
              · ((intro w hSw; (try dsimp only at hSw); go_simp) <;> with_reducible rfl)
              try simp only [List.getElem_toArray, List.getElem_cons_succ, List.getElem_cons_zero, Act.put, List.setIfInBounds_toArray, List.set_cons_zero, List.set_cons_succ]
              (refine wpAnyS_free 5 (v := ?_) rfl (by kernel_rfl) (by kernel_rfl) (by kernel_rfl) (by simp) (fun _ _ _ h => h) (Or.inl ⟨by rfl, ?_⟩) hS (fun hS => ?_); rotate_left)
              · ((intro w; go_simp) <;> with_reducible rfl)
              try simp only [List.getElem_toArray, List.getElem_cons_succ, List.getElem_cons_zero, Act.put, List.setIfInBounds_toArray, List.set_cons_zero, List.set_cons_succ]
              (refine wpAnyS_free 6 (v := ?_) rfl (by kernel_rfl) (by kernel_rfl) (by kernel_rfl) (by simp) (fun _ _ _ h => h) (Or.inl ⟨by rfl, ?_⟩) hS (fun hS => ?_); rotate_left)
              · ((intro w; go_simp) <;> with_reducible rfl)
              try simp only [List.getElem_toArray, List.getElem_cons_succ, List.getElem_cons_zero, Act.put, List.setIfInBounds_toArray, List.set_cons_zero, List.set_cons_succ]
              (refine wpAnyS_free 7 (v := ?_) rfl (by kernel_rfl) (by kernel_rfl) (by kernel_rfl) (by simp) (fun _ _ _ h => h) (Or.inl ⟨by rfl, ?_⟩) hS (fun hS => ?_); rotate_left)
              · ((intro w; go_simp) <;> with_reducible rfl)
              try simp only [List.getElem_toArray, List.getElem_cons_succ, List.getElem_cons_zero, Act.put, List.setIfInBounds_toArray, List.set_cons_zero, List.set_cons_succ]
              (refine wpAnyS_load 8 12 (v := ?_) (List.mem_singleton.2 rfl) rfl (by kernel_rfl) (by kernel_rfl) (by kernel_rfl) (by kernel_rfl) (by kernel_rfl) (by simp) (fun _ _ _ h => h) (Or.inl ⟨by rfl, ?_⟩) hS (fun hS => ?_); rotate_left)
              · ((intro w hSw; (try dsimp only at hSw); go_simp) <;> with_reducible rfl)
              try simp only [List.getElem_toArray, List.getElem_cons_succ, List.getElem_cons_zero, Act.put, List.setIfInBounds_toArray, List.set_cons_zero, List.set_cons_succ]
              (refine wpAnyS_free 9 (v := ?_) rfl (by kernel_rfl) (by kernel_rfl) (by kernel_rfl) (by simp) (fun _ _ _ h => h) (Or.inl ⟨by rfl, ?_⟩) hS (fun hS => ?_); rotate_left)
              · ((intro w; go_simp) <;> with_reducible rfl)
              try simp only [List.getElem_toArray, List.getElem_cons_succ, List.getElem_cons_zero, Act.put, List.setIfInBounds_toArray, List.set_cons_zero, List.set_cons_succ]
              (refine wpAnyS_free 10 (v := ?_) rfl (by kernel_rfl) (by kernel_rfl) (by kernel_rfl) (by simp) (fun _ _ _ h => h) (Or.inl ⟨by rfl, ?_⟩) hS (fun hS => ?_); rotate_left)
              · ((intro w; go_simp) <;> with_reducible rfl)
              try simp only [List.getElem_toArray, List.getElem_cons_succ, List.getElem_cons_zero, Act.put, List.setIfInBounds_toArray, List.set_cons_zero, List.set_cons_succ]
              (refine wpAnyS_free 11 (v := ?_) rfl (by kernel_rfl) (by kernel_rfl) (by kernel_rfl) (by simp) (fun _ _ _ h => h) (Or.inl ⟨by rfl, ?_⟩) hS (fun hS => ?_); rotate_left)
              · ((intro w; go_simp) <;> with_reducible rfl)
              try simp only [List.getElem_toArray, List.getElem_cons_succ, List.getElem_cons_zero, Act.put, List.setIfInBounds_toArray, List.set_cons_zero, List.set_cons_succ]
              have f1 : W.drew.frozen? ⟨U, 1, none⟩ = false := blk_frozen HUW.out 1; have e1 := cell_dw ((blk_cell HUW.out 1).trans rfl)
              refine wpAnyS_one 12 rfl (by kernel_rfl) (by rfl) (fun K hK => ?_)
              go_simp
              refine hK.out _ _ (SL.past (by kernel_rfl) SL.nil) (fun hS => ?_)
              clear hK K
              try simp only [List.getElem_toArray, List.getElem_cons_succ, List.getElem_cons_zero, Act.put, List.setIfInBounds_toArray, List.set_cons_zero, List.set_cons_succ]
              refine wpAnyS_done (by kernel_rfl) ?_ _
              go_wp2
              go_meet
              case rel => exact Lib.hid ⟨by rw [Bool.false_or, dec_ne]; exact blk_put HUW.out 1 _ rfl, (HW.out.put HUW.out (by decide) (by decide) 1 _).drew, (HWT.out.put hU2 hBw 1 _).drew⟩
          case rest =>
            have HX := hcut
            clear hcut HW HWT HUW
            have f2 : wc.frozen? ⟨U, 2, none⟩ = false := blk_frozen HX.out.1 2
            have e2 : wc.cell? ⟨U, 2, none⟩ = some (.bool ad) := (blk_cell HX.out.1 2).trans rfl
            go_upto_region 13 with fail
            go_cut [] (fun wy => Hid (wy.heap[U]? = some (.cells #[.int .i64 t, .bool (ot || decide (t ≠ th)), .bool (ad && added)] THu (0, 0)) ∧ HMx wy B b mb mu by' th h k hA hc oA oc ∧ HTr w' B b mu hA oA wy hA oA))
            case first =>
              cases ad with
              | true =>
                go_wp2
                go_meet
                case rel => exact Lib.hid ⟨by rw [Bool.true_and]; exact blk_put HX.out.1 2 _ rfl, HX.out.2.1.put HX.out.1 (by decide) (by decide) 2 _, HX.out.2.2.put hU2 hBw 2 _⟩
              | false =>
                go_wp2
                go_meet
                case rel => exact Lib.hid ⟨by rw [Bool.false_and]; exact blk_put HX.out.1 2 _ rfl, HX.out.2.1.put HX.out.1 (by decide) (by decide) 2 _, HX.out.2.2.put hU2 hBw 2 _⟩
            case rest =>
              have HY := hcut
              clear hcut HX f2 e2
              obtain ⟨oo, hoo⟩ : ∃ oo, oo = (ot || decide (t ≠ th)) := ⟨_, rfl⟩
              obtain ⟨aa, haa⟩ : ∃ aa, aa = (ad && added) := ⟨_, rfl⟩
              rw [← hoo, ← haa] at HY HE
              clear hoo haa
              have e0 : wc.cell? ⟨U, 0, none⟩ = some (.int .i64 t) := (blk_cell HY.out.1 0).trans rfl
              have e1 : wc.cell? ⟨U, 1, none⟩ = some (.bool oo) := (blk_cell HY.out.1 1).trans rfl
              have e2 : wc.cell? ⟨U, 2, none⟩ = some (.bool aa) := (blk_cell HY.out.1 2).trans rfl
              cases oo with
              | false =>
                have hfin : (false && !aa) = false := rfl
                go_wp2
                have d1 : wc.cell? ⟨b, 1, none⟩ = some (.map (some mu)) := (blk_cell HY.out.2.1.blk 1).trans rfl
                refine wp_region_S [(6, fun w0 => w0.cell? ⟨b, 1, none⟩ = some (.map (some mu)) ∧ w0.cell? ⟨U, 0, none⟩ = some (.int .i64 t) ∧ w0.cell? ⟨U, 1, none⟩ = some (.bool false) ∧ w0.cell? ⟨U, 2, none⟩ = some (.bool aa))] (by kernel_rfl) (SL.cons ⟨cell_dw d1, cell_dw e0, cell_dw e1, cell_dw e2⟩ SL.nil) (fun hS => ?_)
                (refine wpAnyS_free 0 (v := ?_) rfl (by kernel_rfl) (by kernel_rfl) (by kernel_rfl) (by simp) (fun _ _ _ h => h) (Or.inl ⟨by rfl, ?_⟩) hS (fun hS => ?_); rotate_left)
                · ((intro w; go_simp) <;> with_reducible rfl)
                try simp only [List.getElem_toArray, List.getElem_cons_succ, List.getElem_cons_zero, Act.put, List.setIfInBounds_toArray, List.set_cons_zero, List.set_cons_succ]
                (refine wpAnyS_free 1 (v := ?_) rfl (by kernel_rfl) (by kernel_rfl) (by kernel_rfl) (by simp) (fun _ _ _ h => h) (Or.inl ⟨by rfl, ?_⟩) hS (fun hS => ?_); rotate_left)
                · ((intro w; go_simp) <;> with_reducible rfl)
                try simp only [List.getElem_toArray, List.getElem_cons_succ, List.getElem_cons_zero, Act.put, List.setIfInBounds_toArray, List.set_cons_zero, List.set_cons_succ]
                (refine wpAnyS_free 2 (v := ?_) rfl (by kernel_rfl) (by kernel_rfl) (by kernel_rfl) (by simp) (fun _ _ _ h => h) (Or.inl ⟨by rfl, ?_⟩) hS (fun hS => ?_); rotate_left)
                · ((intro w; go_simp) <;> with_reducible rfl)
                try simp only [List.getElem_toArray, List.getElem_cons_succ, List.getElem_cons_zero, Act.put, List.setIfInBounds_toArray, List.set_cons_zero, List.set_cons_succ]
                (refine wpAnyS_load 3 6 (v := ?_) (List.mem_singleton.2 rfl) rfl (by kernel_rfl) (by kernel_rfl) (by kernel_rfl) (by kernel_rfl) (by kernel_rfl) (by simp) (fun _ _ _ h => h) (Or.inl ⟨by rfl, ?_⟩) hS (fun hS => ?_); rotate_left)
                · ((intro w hSw; (try dsimp only at hSw); go_simp) <;> with_reducible rfl)
                try simp only [List.getElem_toArray, List.getElem_cons_succ, List.getElem_cons_zero, Act.put, List.setIfInBounds_toArray, List.set_cons_zero, List.set_cons_succ]
                (refine wpAnyS_free 4 (v := ?_) rfl (by kernel_rfl) (by kernel_rfl) (by kernel_rfl) (by simp) (fun _ _ _ h => h) (Or.inl ⟨by rfl, ?_⟩) hS (fun hS => ?_); rotate_left)
                · ((intro w; go_simp) <;> with_reducible rfl)
                try simp only [List.getElem_toArray, List.getElem_cons_succ, List.getElem_cons_zero, Act.put, List.setIfInBounds_toArray, List.set_cons_zero, List.set_cons_succ]
                (refine wpAnyS_load 5 6 (v := ?_) (List.mem_singleton.2 rfl) rfl (by kernel_rfl) (by kernel_rfl) (by kernel_rfl) (by kernel_rfl) (by kernel_rfl) (by simp) (fun _ _ _ h => h) (Or.inl ⟨by rfl, ?_⟩) hS (fun hS => ?_); rotate_left)
                · ((intro w hSw; (try dsimp only at hSw); go_simp) <;> with_reducible rfl)
                try simp only [List.getElem_toArray, List.getElem_cons_succ, List.getElem_cons_zero, Act.put, List.setIfInBounds_toArray, List.set_cons_zero, List.set_cons_succ]
                refine wpAnyS_one 6 rfl (by kernel_rfl) (by rfl) (fun K hK => ?_)
                refine wp_put HY.out.2.1.m1 _ _ _ TMu rfl Tryd.underlying134 (by unfold maxLen; omega) rfl s rfl hs (Us.val ⟨t, false, aa⟩) rfl ?_
                intro w2 hp hg
                have hg2 : wc.grownBy w2 (some mu) := ⟨hg.os, hg.tape, hg.output, hg.size, hg.block⟩
                have HU := Lib.hid (HY.out.2.1.used (u := ⟨t, false, aa⟩) hp hg2 hk)
                clear hp hg hg2
                refine hK.out _ _ (SL.past (by kernel_rfl) SL.nil) (fun hS => ?_)
                clear hK K
                try simp only [List.getElem_toArray, List.getElem_cons_succ, List.getElem_cons_zero, Act.put, List.setIfInBounds_toArray, List.set_cons_zero, List.set_cons_succ]
                refine wpAnyS_done (by kernel_rfl) ?_ _
                clear d1 e0 e1 e2
                go_wp2
                go_ret
                rw [HE.out, if_neg (by rw [hfin]; decide)]
                exact ⟨rfl, hA, hc, oA, oc, HU.out.1, HY.out.2.2.trans HU.out.2⟩
              | true =>
                cases aa with
                | true =>
                  have hfin : (true && !true) = false := rfl
                  go_wp2
                  have d1 : wc.cell? ⟨b, 1, none⟩ = some (.map (some mu)) := (blk_cell HY.out.2.1.blk 1).trans rfl
                  refine wp_region_S [(6, fun w0 => w0.cell? ⟨b, 1, none⟩ = some (.map (some mu)) ∧ w0.cell? ⟨U, 0, none⟩ = some (.int .i64 t) ∧ w0.cell? ⟨U, 1, none⟩ = some (.bool true) ∧ w0.cell? ⟨U, 2, none⟩ = some (.bool true))] (by kernel_rfl) (SL.cons ⟨cell_dw d1, cell_dw e0, cell_dw e1, cell_dw e2⟩ SL.nil) (fun hS => ?_)
                  (refine wpAnyS_free 0 (v := ?_) rfl (by kernel_rfl) (by kernel_rfl) (by kernel_rfl) (by simp) (fun _ _ _ h => h) (Or.inl ⟨by rfl, ?_⟩) hS (fun hS => ?_); rotate_left)
                  · ((intro w; go_simp) <;> with_reducible rfl)
                  try simp only [List.getElem_toArray, List.getElem_cons_succ, List.getElem_cons_zero, Act.put, List.setIfInBounds_toArray, List.set_cons_zero, List.set_cons_succ]
                  (refine wpAnyS_free 1 (v := ?_) rfl (by kernel_rfl) (by kernel_rfl) (by kernel_rfl) (by simp) (fun _ _ _ h => h) (Or.inl ⟨by rfl, ?_⟩) hS (fun hS => ?_); rotate_left)
                  · ((intro w; go_simp) <;> with_reducible rfl)
                  try simp only [List.getElem_toArray, List.getElem_cons_succ, List.getElem_cons_zero, Act.put, List.setIfInBounds_toArray, List.set_cons_zero, List.set_cons_succ]
                  (refine wpAnyS_free 2 (v := ?_) rfl (by kernel_rfl) (by kernel_rfl) (by kernel_rfl) (by simp) (fun _ _ _ h => h) (Or.inl ⟨by rfl, ?_⟩) hS (fun hS => ?_); rotate_left)
                  · ((intro w; go_simp) <;> with_reducible rfl)
                  try simp only [List.getElem_toArray, List.getElem_cons_succ, List.getElem_cons_zero, Act.put, List.setIfInBounds_toArray, List.set_cons_zero, List.set_cons_succ]
                  (refine wpAnyS_load 3 6 (v := ?_) (List.mem_singleton.2 rfl) rfl (by kernel_rfl) (by kernel_rfl) (by kernel_rfl) (by kernel_rfl) (by kernel_rfl) (by simp) (fun _ _ _ h => h) (Or.inl ⟨by rfl, ?_⟩) hS (fun hS => ?_); rotate_left)
                  · ((intro w hSw; (try dsimp only at hSw); go_simp) <;> with_reducible rfl)
                  try simp only [List.getElem_toArray, List.getElem_cons_succ, List.getElem_cons_zero, Act.put, List.setIfInBounds_toArray, List.set_cons_zero, List.set_cons_succ]
                  (refine wpAnyS_free 4 (v := ?_) rfl (by kernel_rfl) (by kernel_rfl) (by kernel_rfl) (by simp) (fun _ _ _ h => h) (Or.inl ⟨by rfl, ?_⟩) hS (fun hS => ?_); rotate_left)
                  · ((intro w; go_simp) <;> with_reducible rfl)
                  try simp only [List.getElem_toArray, List.getElem_cons_succ, List.getElem_cons_zero, Act.put, List.setIfInBounds_toArray, List.set_cons_zero, List.set_cons_succ]
                  (refine wpAnyS_load 5 6 (v := ?_) (List.mem_singleton.2 rfl) rfl (by kernel_rfl) (by kernel_rfl) (by kernel_rfl) (by kernel_rfl) (by kernel_rfl) (by simp) (fun _ _ _ h => h) (Or.inl ⟨by rfl, ?_⟩) hS (fun hS => ?_); rotate_left)
                  · ((intro w hSw; (try dsimp only at hSw); go_simp) <;> with_reducible rfl)
                  try simp only [List.getElem_toArray, List.getElem_cons_succ, List.getElem_cons_zero, Act.put, List.setIfInBounds_toArray, List.set_cons_zero, List.set_cons_succ]
                  refine wpAnyS_one 6 rfl (by kernel_rfl) (by rfl) (fun K hK => ?_)
                  refine wp_put HY.out.2.1.m1 _ _ _ TMu rfl Tryd.underlying134 (by unfold maxLen; omega) rfl s rfl hs (Us.val ⟨t, true, true⟩) rfl ?_
                  intro w2 hp hg
                  have hg2 : wc.grownBy w2 (some mu) := ⟨hg.os, hg.tape, hg.output, hg.size, hg.block⟩
                  have HU := Lib.hid (HY.out.2.1.used (u := ⟨t, true, true⟩) hp hg2 hk)
                  clear hp hg hg2
                  refine hK.out _ _ (SL.past (by kernel_rfl) SL.nil) (fun hS => ?_)
                  clear hK K
                  try simp only [List.getElem_toArray, List.getElem_cons_succ, List.getElem_cons_zero, Act.put, List.setIfInBounds_toArray, List.set_cons_zero, List.set_cons_succ]
                  refine wpAnyS_done (by kernel_rfl) ?_ _
                  clear d1 e0 e1 e2
                  go_wp2
                  go_ret
                  rw [HE.out, if_neg (by rw [hfin]; decide)]
                  exact ⟨rfl, hA, hc, oA, oc, HU.out.1, HY.out.2.2.trans HU.out.2⟩
                | false =>
                  go_wp2_with (go_at_call 46; refine (wrapI_calls 5 p _).mono ?_; rintro e w3 ⟨rfl, rfl⟩)
                  go_ret
                  rw [HE.out, if_pos (by decide)]
                  exact ⟨_, rfl, ⟨_, rfl, blk_new _ _⟩, h, hA, hc, oA, oc, (HY.out.2.1.alloc _).mono (Nat.le_succ k) hk, HY.out.2.2.more ((Below.refl _ _).alloc (Nat.le_refl _) _) hBw⟩
      · cases hmh : memS d h.held with
        | true =>
          have e : touchp by' th s added p h = .ok h := by unfold touchp; rw [hby]; simp only [hmo, (bq_false d ⟨#[]⟩).2 hd, hmh, if_true]; rfl
          rw [e]
          have hd1 : ¬ d.toList = [] := fun e => hd ((bq_iff d ⟨#[]⟩).1 (by unfold beq; rw [← Lib.toList_data, e]; rfl))
          have hd2 : d.toList.isEmpty = false := by cases hl : d.toList with | nil => exact absurd hl hd1 | cons a l => rfl
          have CH := Lib.hid (contains_calls HM.out.r0 d rfl)
          rw [hmh] at CH
          clear hmo hmh
          go_enter Tryd.func120, Tryd.ntmps120
          go_wp2_with (first | (at_lookup; refine wpList_look_some M0.out rfl _ _ TMs rfl Tryd.underlying133 (zS _) rfl s rfl hs hf ?_) | (go_at_call 121; refine CO.out.mono ?_; rintro e w' ⟨rfl, rfl⟩) | (go_at_call 121; refine CH.out.mono ?_; rintro e w' ⟨rfl, rfl⟩))
          go_ret
          exact ⟨rfl, hA, hc, oA, oc, HM.out.mono (Nat.le_succ k) hk, HTr.refl _ _ _ _ _ _⟩
        | false =>
          have e : touchp by' th s added p h = .error p := by unfold touchp; rw [hby]; simp only [hmo, (bq_false d ⟨#[]⟩).2 hd, hmh]; rfl
          rw [e]
          have hd1 : ¬ d.toList = [] := fun e => hd ((bq_iff d ⟨#[]⟩).1 (by unfold beq; rw [← Lib.toList_data, e]; rfl))
          have hd2 : d.toList.isEmpty = false := by cases hl : d.toList with | nil => exact absurd hl hd1 | cons a l => rfl
          have CH := Lib.hid (contains_calls HM.out.r0 d rfl)
          rw [hmh] at CH
          clear hmo hmh
          go_enter Tryd.func120, Tryd.ntmps120
          go_wp2_with (first | (at_lookup; refine wpList_look_some M0.out rfl _ _ TMs rfl Tryd.underlying133 (zS _) rfl s rfl hs hf ?_) | (go_at_call 121; refine CO.out.mono ?_; rintro e w' ⟨rfl, rfl⟩) | (go_at_call 121; refine CH.out.mono ?_; rintro e w' ⟨rfl, rfl⟩) | (go_at_call 46; refine (wrapI_calls 5 p _).mono ?_; rintro e w3 ⟨rfl, rfl⟩))
          go_ret
          exact ⟨_, rfl, ⟨_, rfl, blk_new _ _⟩, h, hA, hc, oA, oc, (HM.out.alloc _).mono (Nat.le_succ k) hk, (HTr.refl _ _ _ _ _ _).more ((Below.refl _ _).alloc (Nat.le_refl _) _) (Nat.le_trans HM.out.lb.1 (Nat.le_of_lt HM.out.lt))⟩
end Go.Proofs.YtcdgjgoplogiiaaDoor.PT
