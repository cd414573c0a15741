/- The writer's statements that have blocks; blocks. -/
import Derived.Test.YtnihgifpfdlnhaaDoorStm
namespace Go.Proofs.YtnihgifpfdlnhaaDoor.PT
open Go.RowKit Go.Lib
set_option linter.unusedVariables false
set_option linter.unusedSimpArgs false

theorem tb_mem {es : List Tree} {t : Tree} (h : t ∈ es) : PT.bd t ≤ tb es := by
  induction es with
  | nil => cases h
  | cons u us ih =>
    simp only [tb]
    rcases List.mem_cons.1 h with rfl | h
    · omega
    · have := ih h; omega
theorem valT_tb (es : List Tree) (h : ∀ t ∈ es, PT.ok t ∧ PT.bd t ≤ 1000000) (k : Nat) : (valT es k).size ≤ 1 + tb es := by
  unfold valT
  split
  · rename_i t ht
    have hm := List.mem_of_getElem? ht
    have := txt_size t (h t hm).1 0
    have := tb_mem hm
    omega
  · show 1 ≤ _; omega
theorem valT_two (es : List Tree) (h : ∀ t ∈ es, PT.ok t ∧ PT.bd t ≤ 1000000) : (valT es 0).size + (valT es 1).size ≤ 2 + tb es := by
  match es with
  | [] => show 1 + 1 ≤ 2 + 0; omega
  | [t] =>
    have := txt_size t (h t (by simp)).1 0
    show (txt t 0).size + 1 ≤ 2 + (PT.bd t + 0); omega
  | t :: u :: r =>
    have := txt_size t (h t (by simp)).1 0
    have := txt_size u (h u (by simp)).1 0
    show (txt t 0).size + (txt u 0).size ≤ 2 + (PT.bd t + (PT.bd u + tb r)); omega
theorem numT_size (n : Int) (h0 : 0 ≤ n) (h1 : n < 1000000) : (numT n).size ≤ 20 := dec_size n.toNat (by omega)
theorem line_sum (d : Nat) (ps : List ByteArray) : (lineT d ps).length = d + (ps.map ByteArray.size).sum + 1 := by rw [lineT_len, pl]
theorem stT_len (k : Nat) (s : ByteArray) (es : List Tree) (n : Int) (body els : List UInt8) (ne : Bool) (d : Nat) (h : ∀ t ∈ es, PT.ok t ∧ PT.bd t ≤ 1000000) (h0 : 0 ≤ n) (h1 : n < 1000000) :
    (stT k s es n body els ne d).length ≤ 100 + 3 * d + s.size + tb es + body.length + els.length := by
  have v0 := valT_tb es h 0
  have v2 := valT_two es h
  have nn := numT_size n h0 h1
  have c1 : kLocal.size = 6 := rfl
  have c2 : kEq.size = 3 := rfl
  have c3 : kSemi.size = 1 := rfl
  have c4 : kOpen.size = 1 := rfl
  have c5 : kShutEq.size = 4 := rfl
  have c6 : kIf.size = 4 := rfl
  have c7 : kThen.size = 3 := rfl
  have c8 : kElse.size = 8 := rfl
  have c9 : kEnd.size = 1 := rfl
  have c10 : kLoop.size = 5 := rfl
  have c11 : kBl.size = 1 := rfl
  have c12 : kBegin.size = 2 := rfl
  have c13 : kTake.size = 5 := rfl
  have c14 : kGive.size = 5 := rfl
  have c15 : kAdd.size = 4 := rfl
  have c16 : kFence.size = 6 := rfl
  have c17 : kOut.size = 7 := rfl
  match k with
  | 0 | 1 | 2 | 4 | 5 | 6 | 7 | 8 | k + 9 => simp only [stT, List.length_append, line_sum, List.map_cons, List.map_nil, List.sum_cons, List.sum_nil, c1, c2, c3, c4, c5, c6, c7, c8, c9, c10, c11, c12, c13, c14, c15, c16, c17]; omega
  | 3 =>
    have : (if ne then lineT d [kElse] ++ els else []).length ≤ d + 9 + els.length := by
      cases ne
      · simp
      · simp only [if_true, List.length_append, line_sum, List.map_cons, List.map_nil, List.sum_cons, List.sum_nil, c8]; omega
    simp only [stT, List.length_append, line_sum, List.map_cons, List.map_nil, List.sum_cons, List.sum_nil, c6, c7, c9] at *
    omega
theorem blkT_len (c : Blk) (h : c.ok) (d : Nat) : (blkT c d).length ≤ c.bd d := by
  induction c generalizing d with
  | nil => exact Nat.le_refl _
  | cons k s es n body els p rest ib ie ir =>
    obtain ⟨h1, h2, h3, h4, h5, h6⟩ := h
    have a := ib h4 (d + 1)
    have b := ie h5 (d + 1)
    have c := ir h6 d
    have e := stT_len k s es n (blkT body (d + 1)) (blkT els (d + 1)) els.ne d h1 h2 h3
    simp only [blkT, Blk.bd, List.length_append]
    omega
theorem ne_len (c : Blk) : c.ne = true ↔ 0 < c.len := by cases c <;> simp [Blk.ne, Blk.len]; omega

theorem SH.below {B b : Nat} {l : List UInt8} {d : Nat} {P : Nat → Prop} {w w' : World} {x : SV} {k : Nat} {s : ByteArray} {es : List Tree} {n : Int} {body els : Blk} (h : SH B b l d P w x k s es n body els) (hb : Below w.heap.size w w') : SH B b l d P w' x k s es n body els := by
  have hB : B ≤ w.heap.size := by have := h.isb.lt; omega
  exact ⟨h.isb.below hb, h.far, h.fes.mono (fun _ hg _ => hg) fun g _ hl => hb.block g hl, h.fbody.mono (fun _ hg _ => hg) fun g _ hl => hb.block g hl, h.fels.mono (fun _ hg _ => hg) fun g _ hl => hb.block g hl, h.ok, h.tbb.next (hb.mono hB), h.len, h.deep, h.xk, h.xs, h.xn⟩
/-- What a call hands back that writes on. -/
def GoOn (B b : Nat) (m : List UInt8) (w : World) (e : Ending) (w' : World) : Prop := e = .returned (.tuple #[]) ∧ Hid (LW B b m w w')
section
variable {B b : Nat} {l : List UInt8} {d : Nat} {P : Nat → Prop} {w : World} {x : SV} {k : Nat} {s : ByteArray} {es : List Tree} {n : Int} {body els : Blk}
theorem SH.go_line (h : SH B b l d P w x k s es n body els) (ps : List ByteArray) (hn : ps.length ≤ 100) (m : List UInt8) (hm : m.length + d + (ps.map ByteArray.size).sum + 1 ≤ 140737488355328) (w' : World) (hw : LW B b m w w') (g : Nat)
    (hr : w'.heap[g]? = some (.cells (ps.map Value.string).toArray 9 (0, 0))) (hg : w.heap.size ≤ g) : Calls Tryd.prog 20 #[.pointer (some ⟨b, 0, none⟩), .int .i64 d, .slice (some ⟨g, 0, none⟩) ps.length ps.length] w' (GoOn B b (m ++ lineT d ps) w) := by
  have := h.deep
  refine (line_calls B b g m d ps w' hw.1 (by omega) hr (by have := h.isb.lt; omega) hn (by rw [pl]; omega)).mono ?_
  rintro e w2 ⟨rfl, k⟩
  exact ⟨rfl, Lib.hid (hw.trans k)⟩
theorem SH.go_body (h : SH B b l d P w x k s es n body els) (hb : BlkSays body) (m : List UInt8) (hm : m.length + body.bd (d + 1) ≤ 70368744177664) (w' : World) (hw : LW B b m w w') :
    Calls Tryd.prog 22 #[.pointer (some ⟨b, 0, none⟩), .slice x.bA x.bn x.bc, .int .i64 ((d : Int) + 1)] w' (GoOn B b (m ++ blkT body (d + 1)) w) := by
  have := h.deep
  refine (hb B b m (d + 1) x.bA x.bn x.bc P w' hw.1 (h.fbody.stay (fun _ hg _ => hg) (stayO hw.2.2 (by decide) h.far) (stayO hw.2.2 (by decide) h.far)) h.far h.ok.2.2.2.1 (h.tbb.next hw.2.1) hm (by omega)).mono ?_
  rintro e w2 ⟨rfl, k⟩
  exact ⟨rfl, Lib.hid (hw.trans k)⟩
theorem SH.go_els (h : SH B b l d P w x k s es n body els) (hb : BlkSays els) (m : List UInt8) (hm : m.length + els.bd (d + 1) ≤ 70368744177664) (w' : World) (hw : LW B b m w w') :
    Calls Tryd.prog 22 #[.pointer (some ⟨b, 0, none⟩), .slice x.lA x.ln x.lc, .int .i64 ((d : Int) + 1)] w' (GoOn B b (m ++ blkT els (d + 1)) w) := by
  have := h.deep
  refine (hb B b m (d + 1) x.lA x.ln x.lc P w' hw.1 (h.fels.stay (fun _ hg _ => hg) (stayO hw.2.2 (by decide) h.far) (stayO hw.2.2 (by decide) h.far)) h.far h.ok.2.2.2.2 (h.tbb.next hw.2.1) hm (by omega)).mono ?_
  rintro e w2 ⟨rfl, k⟩
  exact ⟨rfl, Lib.hid (hw.trans k)⟩
end
theorem LW.grew {B b : Nat} {l : List UInt8} {w w1 : World} (h : LW B b l w w1) : w.heap.size ≤ w1.heap.size := by
  rcases Nat.eq_zero_or_pos w.heap.size with h0 | h0
  · omega
  · exact h.2.1.size
set_option maxHeartbeats 2000000 in
theorem stmt_3 (s : ByteArray) (es : List Tree) (n : Int) (body els : Blk) (hb : BlkSays body) (he : BlkSays els) : SSays 3 s es n body els := by
  intro B b l d P w x h
  have hB : B ≤ w.heap.size := by have := h.isb.lt; omega
  have hd : d ≤ 1000 := by have := h.deep; omega
  have hlen := Lib.hid h.len
  have hok := Lib.hid h.ok
  have HV0 : Hid (∀ w', Below w.heap.size w w' → Calls Tryd.prog 68 #[x.val, .int .i64 0] w' (Says w' (valT es 0))) := Lib.hid (h.val 0 (by omega))
  obtain ⟨v0, e0⟩ : ∃ v0, v0 = valT es 0 := ⟨_, rfl⟩
  have hv0 : v0.size ≤ 1 + tb es := by rw [e0]; exact valT_tb es h.ok.1 0
  rw [← e0] at HV0
  have HE0 := Lib.hid e0
  have Hv0 := Lib.hid hv0
  clear e0 hv0
  obtain ⟨xk, xs, eA, en, ec, xn, bA, bn, bc, lA, ln, lc, xp⟩ := x
  obtain rfl : xk = 3 := h.xk
  obtain rfl : xs = s := h.xs
  obtain rfl : xn = n := h.xn
  have HX := Lib.hid (blk_new w (sbox ⟨3, xs, eA, en, ec, xn, bA, bn, bc, lA, ln, lc, xp⟩))
  have HB := Lib.hid ((Below.refl w.heap.size w).alloc (Nat.le_refl _) (sbox ⟨3, xs, eA, en, ec, xn, bA, bn, bc, lA, ln, lc, xp⟩))
  have H0 := Lib.hid (h.below HB.out)
  obtain ⟨w0, hw0⟩ : ∃ w0, w0 = w.alloc (sbox ⟨3, xs, eA, en, ec, xn, bA, bn, bc, lA, ln, lc, xp⟩) := ⟨_, rfl⟩
  rw [← hw0] at HX HB H0
  have HW := Lib.hid hw0
  have HS0 : Hid (w0.heap.size = w.heap.size + 1) := Lib.hid (by rw [hw0]; simp)
  have Hln : Hid (ln = els.len) := Lib.hid h.fels.1
  have hbx : w.heap.size ≠ b := by have := h.isb.lt; omega
  clear hw0 h
  simp only [SV.val] at HV0
  go_enter Tryd.func44, Tryd.ntmps44
  go_wp2_with fail
  rw [← HW.out]
  obtain ⟨⟨z0, z1, z2, z3⟩, z4, z5, z6⟩ := sbox_cells (HX.out) (Below.refl _ _)
  dsimp only at z0 z1 z2 z3 z4 z5 z6
  go_wp2_with fail
  refine (HV0.out _ HB.out).mono ?_
  rintro e w1 ⟨rfl, hbz0⟩
  have H1 := Lib.hid ((LW.start H0.out.isb).below hbz0)
  clear hbz0
  go_wp2_with fail
  refine (H0.out.go_line [kIf, v0, kThen] (Nat.le_of_ble_eq_true rfl) (l) (by have l1 := hlen.out; have l2 := hok.out; have b1 := blkT_len body l2.2.2.2.1 (d + 1); have b2 := blkT_len els l2.2.2.2.2 (d + 1); have b3 := numT_size _ l2.2.1 l2.2.2.1; have b4 := Hv0.out; simp only [List.length_append, line_sum, List.map_cons, List.map_nil, List.sum_cons, List.sum_nil, show kIf.size = 4 from rfl, show kThen.size = 3 from rfl, show kElse.size = 8 from rfl, show kEnd.size = 1 from rfl, show kLoop.size = 5 from rfl, show kBl.size = 1 from rfl, show kBegin.size = 2 from rfl]; omega) _ (H1.out.below ((Below.refl _ _).alloc (Nat.le_refl _) _)) _ (new_at _ (by first | rfl | exact HS0.out.symm)) (by first | exact H1.out.grew | (have := H1.out.grew; have := HS0.out; omega))).mono ?_
  rintro e w2 ⟨rfl, Hw2⟩
  obtain ⟨⟨y0, y1, y2, y3⟩, y4, y5, y6⟩ := sbox_cells (Hw2.out.keep HX.out (by decide) hbx) (Below.refl _ _)
  dsimp only at y0 y1 y2 y3 y4 y5 y6
  go_wp2_with fail
  refine (H0.out.go_body hb (l ++ lineT d [kIf, v0, kThen]) (by have l1 := hlen.out; have l2 := hok.out; have b1 := blkT_len body l2.2.2.2.1 (d + 1); have b2 := blkT_len els l2.2.2.2.2 (d + 1); have b3 := numT_size _ l2.2.1 l2.2.2.1; have b4 := Hv0.out; simp only [List.length_append, line_sum, List.map_cons, List.map_nil, List.sum_cons, List.sum_nil, show kIf.size = 4 from rfl, show kThen.size = 3 from rfl, show kElse.size = 8 from rfl, show kEnd.size = 1 from rfl, show kLoop.size = 5 from rfl, show kBl.size = 1 from rfl, show kBegin.size = 2 from rfl]; omega) _ Hw2.out).mono ?_
  rintro e w3 ⟨rfl, Hw3⟩
  obtain ⟨⟨x0, x1, x2, x3⟩, x4, x5, x6⟩ := sbox_cells (Hw3.out.keep HX.out (by decide) hbx) (Below.refl _ _)
  dsimp only at x0 x1 x2 x3 x4 x5 x6
  by_cases hz : ln = 0
  · subst hz
    have hne : els.ne = false := by
      have := Hln.out
      cases h : els.ne
      · rfl
      · have := (ne_len els).1 h; omega
    have HNE := Lib.hid hne
    clear hne
    go_wp2_with fail
    refine (H0.out.go_line [kEnd] (Nat.le_of_ble_eq_true rfl) (l ++ lineT d [kIf, v0, kThen] ++ blkT body (d + 1)) (by have l1 := hlen.out; have l2 := hok.out; have b1 := blkT_len body l2.2.2.2.1 (d + 1); have b2 := blkT_len els l2.2.2.2.2 (d + 1); have b3 := numT_size _ l2.2.1 l2.2.2.1; have b4 := Hv0.out; simp only [List.length_append, line_sum, List.map_cons, List.map_nil, List.sum_cons, List.sum_nil, show kIf.size = 4 from rfl, show kThen.size = 3 from rfl, show kElse.size = 8 from rfl, show kEnd.size = 1 from rfl, show kLoop.size = 5 from rfl, show kBl.size = 1 from rfl, show kBegin.size = 2 from rfl]; omega) _ (Hw3.out.below ((Below.refl _ _).alloc (Nat.le_refl _) _)) _ (new_at _ (by first | rfl | exact HS0.out.symm)) (by first | exact Hw3.out.grew | (have := Hw3.out.grew; have := HS0.out; omega))).mono ?_
    rintro e w4 ⟨rfl, Hw4⟩
    go_wp2
    go_end0
    refine LPost.of HB.out hB ⟨rfl, ?_⟩
    have e : l ++ stT 3 xs es xn (blkT body (d + 1)) (blkT els (d + 1)) els.ne d = l ++ lineT d [kIf, v0, kThen] ++ blkT body (d + 1) ++ lineT d [kEnd] := by
      simp only [stT, HNE.out, ← HE0.out, List.append_assoc, List.append_nil, List.nil_append]; simp
    rw [e]; exact Hw4.out
  · have hpos : 0 < ln := by omega
    have hne : els.ne = true := (ne_len els).2 (by have := Hln.out; omega)
    have HNE := Lib.hid hne
    clear hne
    go_wp2_with fail
    refine (H0.out.go_line [kElse] (Nat.le_of_ble_eq_true rfl) (l ++ lineT d [kIf, v0, kThen] ++ blkT body (d + 1)) (by have l1 := hlen.out; have l2 := hok.out; have b1 := blkT_len body l2.2.2.2.1 (d + 1); have b2 := blkT_len els l2.2.2.2.2 (d + 1); have b3 := numT_size _ l2.2.1 l2.2.2.1; have b4 := Hv0.out; simp only [List.length_append, line_sum, List.map_cons, List.map_nil, List.sum_cons, List.sum_nil, show kIf.size = 4 from rfl, show kThen.size = 3 from rfl, show kElse.size = 8 from rfl, show kEnd.size = 1 from rfl, show kLoop.size = 5 from rfl, show kBl.size = 1 from rfl, show kBegin.size = 2 from rfl]; omega) _ (Hw3.out.below ((Below.refl _ _).alloc (Nat.le_refl _) _)) _ (new_at _ (by first | rfl | exact HS0.out.symm)) (by first | exact Hw3.out.grew | (have := Hw3.out.grew; have := HS0.out; omega))).mono ?_
    rintro e w4 ⟨rfl, Hw4⟩
    obtain ⟨⟨q0, q1, q2, q3⟩, q4, q5, q6⟩ := sbox_cells (Hw4.out.keep HX.out (by decide) hbx) (Below.refl _ _)
    dsimp only at q0 q1 q2 q3 q4 q5 q6
    go_wp2_with fail
    refine (H0.out.go_els he (l ++ lineT d [kIf, v0, kThen] ++ blkT body (d + 1) ++ lineT d [kElse]) (by have l1 := hlen.out; have l2 := hok.out; have b1 := blkT_len body l2.2.2.2.1 (d + 1); have b2 := blkT_len els l2.2.2.2.2 (d + 1); have b3 := numT_size _ l2.2.1 l2.2.2.1; have b4 := Hv0.out; simp only [List.length_append, line_sum, List.map_cons, List.map_nil, List.sum_cons, List.sum_nil, show kIf.size = 4 from rfl, show kThen.size = 3 from rfl, show kElse.size = 8 from rfl, show kEnd.size = 1 from rfl, show kLoop.size = 5 from rfl, show kBl.size = 1 from rfl, show kBegin.size = 2 from rfl]; omega) _ Hw4.out).mono ?_
    rintro e w5 ⟨rfl, Hw5⟩
    go_wp2_with fail
    refine (H0.out.go_line [kEnd] (Nat.le_of_ble_eq_true rfl) (l ++ lineT d [kIf, v0, kThen] ++ blkT body (d + 1) ++ lineT d [kElse] ++ blkT els (d + 1)) (by have l1 := hlen.out; have l2 := hok.out; have b1 := blkT_len body l2.2.2.2.1 (d + 1); have b2 := blkT_len els l2.2.2.2.2 (d + 1); have b3 := numT_size _ l2.2.1 l2.2.2.1; have b4 := Hv0.out; simp only [List.length_append, line_sum, List.map_cons, List.map_nil, List.sum_cons, List.sum_nil, show kIf.size = 4 from rfl, show kThen.size = 3 from rfl, show kElse.size = 8 from rfl, show kEnd.size = 1 from rfl, show kLoop.size = 5 from rfl, show kBl.size = 1 from rfl, show kBegin.size = 2 from rfl]; omega) _ (Hw5.out.below ((Below.refl _ _).alloc (Nat.le_refl _) _)) _ (new_at _ (by first | rfl | exact HS0.out.symm)) (by first | exact Hw5.out.grew | (have := Hw5.out.grew; have := HS0.out; omega))).mono ?_
    rintro e w6 ⟨rfl, Hw6⟩
    go_wp2
    go_end0
    refine LPost.of HB.out hB ⟨rfl, ?_⟩
    have e : l ++ stT 3 xs es xn (blkT body (d + 1)) (blkT els (d + 1)) els.ne d = l ++ lineT d [kIf, v0, kThen] ++ blkT body (d + 1) ++ lineT d [kElse] ++ blkT els (d + 1) ++ lineT d [kEnd] := by
      simp only [stT, HNE.out, ← HE0.out, if_true, List.append_assoc]
    rw [e]; exact Hw6.out
set_option maxHeartbeats 2000000 in
theorem stmt_4 (s : ByteArray) (es : List Tree) (n : Int) (body els : Blk) (hb : BlkSays body) (he : BlkSays els) : SSays 4 s es n body els := by
  intro B b l d P w x h
  have hB : B ≤ w.heap.size := by have := h.isb.lt; omega
  have hd : d ≤ 1000 := by have := h.deep; omega
  have hlen := Lib.hid h.len
  have hok := Lib.hid h.ok
  obtain ⟨xk, xs, eA, en, ec, xn, bA, bn, bc, lA, ln, lc, xp⟩ := x
  obtain rfl : xk = 4 := h.xk
  obtain rfl : xs = s := h.xs
  obtain rfl : xn = n := h.xn
  have HX := Lib.hid (blk_new w (sbox ⟨4, xs, eA, en, ec, xn, bA, bn, bc, lA, ln, lc, xp⟩))
  have HB := Lib.hid ((Below.refl w.heap.size w).alloc (Nat.le_refl _) (sbox ⟨4, xs, eA, en, ec, xn, bA, bn, bc, lA, ln, lc, xp⟩))
  have H0 := Lib.hid (h.below HB.out)
  obtain ⟨w0, hw0⟩ : ∃ w0, w0 = w.alloc (sbox ⟨4, xs, eA, en, ec, xn, bA, bn, bc, lA, ln, lc, xp⟩) := ⟨_, rfl⟩
  rw [← hw0] at HX HB H0
  have HW := Lib.hid hw0
  have HS0 : Hid (w0.heap.size = w.heap.size + 1) := Lib.hid (by rw [hw0]; simp)
  have Hln : Hid (ln = els.len) := Lib.hid h.fels.1
  have hbx : w.heap.size ≠ b := by have := h.isb.lt; omega
  clear hw0 h
  go_enter Tryd.func44, Tryd.ntmps44
  go_wp2_with fail
  rw [← HW.out]
  obtain ⟨⟨z0, z1, z2, z3⟩, z4, z5, z6⟩ := sbox_cells (HX.out) (Below.refl _ _)
  dsimp only at z0 z1 z2 z3 z4 z5 z6
  have n0 : 0 ≤ xn := hok.out.2.1
  have n1 : xn < 1000000 := hok.out.2.2.1
  have HIT : Hid (∀ w', Below w0.heap.size w0 w' → Calls Tryd.prog 43 #[.int .i64 xn] w' (Says w' (numT xn))) := Lib.hid fun w' hw => by
    have hBw : B ≤ w0.heap.size := by have := HS0.out; omega
    refine (Tryd.strconv_Itoa xn (by omega) (by omega) w' (H0.out.tbb w' (hw.mono hBw))).mono ?_
    rintro e w2 ⟨rfl, k, os, rfl⟩
    refine ⟨?_, Lib.below_grow _ _ (Nat.le_refl _) _ _⟩
    have : Lib.itoa xn = Lib.decDigits xn.toNat := by unfold Lib.itoa; rw [if_neg (by omega)]; try rfl
    rw [this]; rfl
  obtain ⟨v0, e0⟩ : ∃ v0, v0 = numT xn := ⟨_, rfl⟩
  have Hv0 : Hid (v0.size ≤ 20) := Lib.hid (by rw [e0]; exact numT_size xn n0 n1)
  rw [← e0] at HIT
  have HE0 := Lib.hid e0
  clear e0
  have HL1 : Hid (∀ w' g, Below w0.heap.size w0 w' → w'.heap[g]? = some (.cells (List.map Value.string [kLoop, xs, kBl, v0, kBegin]).toArray 9 (0, 0)) → w0.heap.size ≤ g → Calls Tryd.prog 20 #[.pointer (some ⟨b, 0, none⟩), .int .i64 d, .slice (some ⟨g, 0, none⟩) 5 5] w' (GoOn B b (l ++ lineT d [kLoop, xs, kBl, v0, kBegin]) w0)) := Lib.hid fun w' g hw hr hg =>
    H0.out.go_line [kLoop, xs, kBl, v0, kBegin] (Nat.le_of_ble_eq_true rfl) l (by have l1 := hlen.out; have l2 := hok.out; have b1 := blkT_len body l2.2.2.2.1 (d + 1); have b2 := blkT_len els l2.2.2.2.2 (d + 1); have b3 := numT_size _ l2.2.1 l2.2.2.1; have b4 := Hv0.out; simp only [List.length_append, line_sum, List.map_cons, List.map_nil, List.sum_cons, List.sum_nil, show kIf.size = 4 from rfl, show kThen.size = 3 from rfl, show kElse.size = 8 from rfl, show kEnd.size = 1 from rfl, show kLoop.size = 5 from rfl, show kBl.size = 1 from rfl, show kBegin.size = 2 from rfl]; omega) w' ((LW.start H0.out.isb).below hw) g hr hg
  have hB0 : Below w0.heap.size w0 w0 := Below.refl _ _
  go_wp2_with fail
  go_region_with (first
      | ((go_at_call 43; (with_reducible refine (HIT.out _ (by first | assumption | exact (Below.refl _ _).drew)).mono ?_); rintro e w' ⟨rfl, hbz0⟩; have hbz := Below.trans (by first | assumption | exact (Below.refl _ _).drew : Below w0.heap.size w0 _) (hbz0.mono (Below.size (by first | assumption | exact (Below.refl _ _).drew : Below w0.heap.size w0 _))); obtain ⟨⟨y0, y1, y2, y3⟩, y4, y5, y6⟩ := sbox_cells HX.out hbz; dsimp only at y0 y1 y2 y3 y4 y5 y6; clear hbz0))
      | ((go_at_call 20; refine (HL1.out _ _ (Below.alloc (by assumption) (by exact Below.size (by assumption)) _) (new_at _ (by simp)) (by exact Below.size (by assumption))).mono ?_; rintro e w9 ⟨rfl, Hw2⟩)))
  all_goals
    obtain ⟨⟨q0, q1, q2, q3⟩, q4, q5, q6⟩ := sbox_cells (Hw2.out.keep HX.out (by decide) hbx) (Below.refl _ _)
    dsimp only at q0 q1 q2 q3 q4 q5 q6
    go_wp2_with fail
    refine (H0.out.go_body hb (l ++ lineT d [kLoop, xs, kBl, v0, kBegin]) (by have l1 := hlen.out; have l2 := hok.out; have b1 := blkT_len body l2.2.2.2.1 (d + 1); have b2 := blkT_len els l2.2.2.2.2 (d + 1); have b3 := numT_size _ l2.2.1 l2.2.2.1; have b4 := Hv0.out; simp only [List.length_append, line_sum, List.map_cons, List.map_nil, List.sum_cons, List.sum_nil, show kIf.size = 4 from rfl, show kThen.size = 3 from rfl, show kElse.size = 8 from rfl, show kEnd.size = 1 from rfl, show kLoop.size = 5 from rfl, show kBl.size = 1 from rfl, show kBegin.size = 2 from rfl]; omega) _ Hw2.out).mono ?_
    rintro e w3 ⟨rfl, Hw3⟩
    go_wp2_with fail
    refine (H0.out.go_line [kEnd] (Nat.le_of_ble_eq_true rfl) (l ++ lineT d [kLoop, xs, kBl, v0, kBegin] ++ blkT body (d + 1)) (by have l1 := hlen.out; have l2 := hok.out; have b1 := blkT_len body l2.2.2.2.1 (d + 1); have b2 := blkT_len els l2.2.2.2.2 (d + 1); have b3 := numT_size _ l2.2.1 l2.2.2.1; have b4 := Hv0.out; simp only [List.length_append, line_sum, List.map_cons, List.map_nil, List.sum_cons, List.sum_nil, show kIf.size = 4 from rfl, show kThen.size = 3 from rfl, show kElse.size = 8 from rfl, show kEnd.size = 1 from rfl, show kLoop.size = 5 from rfl, show kBl.size = 1 from rfl, show kBegin.size = 2 from rfl]; omega) _ (Hw3.out.below ((Below.refl _ _).alloc (Nat.le_refl _) _)) _ (new_at _ (by first | rfl | exact HS0.out.symm)) (by first | exact Hw3.out.grew | (have := Hw3.out.grew; have := HS0.out; omega))).mono ?_
    rintro e w4 ⟨rfl, Hw4⟩
    go_wp2
    go_end0
    refine LPost.of HB.out hB ⟨rfl, ?_⟩
    have e : l ++ stT 4 xs es xn (blkT body (d + 1)) (blkT els (d + 1)) els.ne d = l ++ lineT d [kLoop, xs, kBl, v0, kBegin] ++ blkT body (d + 1) ++ lineT d [kEnd] := by
      simp only [stT, ← HE0.out, List.append_assoc]
    rw [e]; exact Hw4.out
end Go.Proofs.YtnihgifpfdlnhaaDoor.PT
