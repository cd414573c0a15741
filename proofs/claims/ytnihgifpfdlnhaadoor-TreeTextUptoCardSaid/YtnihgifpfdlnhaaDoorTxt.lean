/- tree.Text: a program's text is progT's. -/
import Derived.Test.YtnihgifpfdlnhaaDoorStn
namespace Go.Proofs.YtnihgifpfdlnhaaDoor.PT
open Go.RowKit Go.Lib
set_option linter.unusedVariables false
set_option linter.unusedSimpArgs false

theorem stmt_any (k : Nat) (hk : k ≤ 10) (s : ByteArray) (es : List Tree) (n : Int) (body els : Blk) (hb : BlkSays body) (he : BlkSays els) : SSays k s es n body els := by
  rcases (show k = 0 ∨ k = 1 ∨ k = 2 ∨ k = 3 ∨ k = 4 ∨ k = 5 ∨ k = 6 ∨ k = 7 ∨ k = 8 ∨ k = 9 ∨ k = 10 by omega) with rfl | rfl | rfl | rfl | rfl | rfl | rfl | rfl | rfl | rfl | rfl
  · exact stmt_0 s es n body els
  · exact stmt_1 s es n body els
  · exact stmt_2 s es n body els
  · exact stmt_3 s es n body els hb he
  · exact stmt_4 s es n body els hb he
  · exact stmt_5 s es n body els
  · exact stmt_6 s es n body els
  · exact stmt_7 s es n body els
  · exact stmt_8 s es n body els
  · exact stmt_9 s es n body els
  · exact stmt_10 s es n body els
/-- All kinds are at most ten. -/
def Blk.low : Blk → Prop
  | .nil => True
  | .cons k _ _ _ body els _ rest => k ≤ 10 ∧ body.low ∧ els.low ∧ rest.low
/-- What is left of a block behind its first j statements. -/
def Blk.drop : Nat → Blk → Blk
  | 0, b => b
  | _ + 1, .nil => .nil
  | j + 1, .cons _ _ _ _ _ _ _ rest => rest.drop j
def Blk.pre : Nat → Blk → Nat → List UInt8
  | 0, _, _ => []
  | _ + 1, .nil, _ => []
  | j + 1, .cons k s es n body els _ rest, d => stT k s es n (blkT body (d + 1)) (blkT els (d + 1)) els.ne d ++ rest.pre j d
theorem pre_drop (j : Nat) (c : Blk) (d : Nat) : blkT c d = c.pre j d ++ blkT (c.drop j) d := by
  induction j generalizing c with
  | zero => simp [Blk.pre, Blk.drop]
  | succ j ih =>
    cases c with
    | nil => simp [Blk.pre, Blk.drop, blkT]
    | cons k s es n body els p rest => simp only [Blk.pre, Blk.drop, blkT, ih rest, List.append_assoc]
theorem drop_all (c : Blk) : c.drop c.len = .nil := by
  induction c with
  | nil => rfl
  | cons k s es n body els p rest ib ie ir => rw [Blk.len, Nat.add_comm]; exact ir
theorem pre_all (c : Blk) (d : Nat) : c.pre c.len d = blkT c d := by
  rw [pre_drop c.len c d, drop_all]; simp [blkT]
/-- The j-th statement. -/
structure Nth (c : Blk) (j : Nat) (P : Nat → Prop) (w : World) (l : List SV) (d : Nat) : Prop where
  ex : ∃ (k : Nat) (s : ByteArray) (es : List Tree) (n : Int) (body els : Blk) (x : SV), l[j]? = some x ∧ x.k = (k : Int) ∧ x.s = s ∧ x.n = n ∧ Es es P w x.eA x.en x.ec ∧ Bs body P w x.bA x.bn x.bc ∧ Bs els P w x.lA x.ln x.lc ∧ k ≤ 10 ∧
    ((∀ t ∈ es, PT.ok t ∧ PT.bd t ≤ 1000000) ∧ 0 ≤ n ∧ n < 1000000 ∧ body.ok ∧ els.ok) ∧ (body.low ∧ els.low) ∧ c.pre (j + 1) d = c.pre j d ++ stT k s es n (blkT body (d + 1)) (blkT els (d + 1)) els.ne d ∧
    (c.pre j d).length + (100 + 3 * d + s.size + tb es + body.bd (d + 1) + els.bd (d + 1)) ≤ c.bd d ∧ 1 + body.wt + els.wt ≤ c.wt
theorem nth_of (c : Blk) (j : Nat) (hj : j < c.len) (P : Nat → Prop) (w : World) (l : List SV) (d : Nat) (h : BA c P w l) (hok : c.ok) (hlow : c.low) : Nth c j P w l d := by
  induction c generalizing j l with
  | nil => simp [Blk.len] at hj
  | cons k s es n body els p rest ib ie ir =>
    obtain ⟨x, xs, rfl, h1, h2, h3, h4, h5, ⟨l1, h6, h7, h8⟩, ⟨l2, h9, h10, h11⟩, h12⟩ := h
    obtain ⟨o1, o2, o3, o4, o5, o6⟩ := hok
    obtain ⟨w1, w2, w3, w4⟩ := hlow
    have e := stT_len k s es n (blkT body (d + 1)) (blkT els (d + 1)) els.ne d o1 o2 o3
    have b1 := blkT_len body o4 (d + 1)
    have b2 := blkT_len els o5 (d + 1)
    cases j with
    | zero =>
      refine ⟨k, s, es, n, body, els, x, rfl, h1, h2, h3, h5, ⟨h7, l1, h6, h8⟩, ⟨h10, l2, h9, h11⟩, w1, ⟨o1, o2, o3, o4, o5⟩, ⟨w2, w3⟩, by simp [Blk.pre], ?_, ?_⟩
      · simp only [Blk.pre, Blk.bd, List.length_nil]; omega
      · simp only [Blk.wt]; omega
    | succ j =>
      obtain ⟨k', s', es', n', body', els', x', a1, a2, a3, a4, a5, a6, a7, a8, a9, a10, a11, a12, a13⟩ := (ir j (by simp only [Blk.len] at hj; omega) xs h12 o6 w4).ex
      refine ⟨k', s', es', n', body', els', x', by simpa using a1, a2, a3, a4, a5, a6, a7, a8, a9, a10, ?_, ?_, ?_⟩
      · rw [Blk.pre, Blk.pre, a11, List.append_assoc]
      · simp only [Blk.pre, Blk.bd, List.length_append]; omega
      · simp only [Blk.wt]; omega
/-- The k-th statement of a row. -/
theorem row_stmt {w : World} {g : Nat} {l : List SV} (h : Row w TS g (l.flatMap SV.cells)) (k : Nat) (x : SV) (hk : l[k]? = some x) :
    (w.cell? ⟨g, k * 7, none⟩ = some (.int .i64 x.k) ∧ w.cell? ⟨g, k * 7 + 1, none⟩ = some (.string x.s)) ∧ (w.cell? ⟨g, k * 7 + 2, none⟩ = some (.slice x.eA x.en x.ec) ∧ w.cell? ⟨g, k * 7 + 3, none⟩ = some (.int .i64 x.n)) ∧
    w.cell? ⟨g, k * 7 + 4, none⟩ = some (.slice x.bA x.bn x.bc) ∧ w.cell? ⟨g, k * 7 + 5, none⟩ = some (.slice x.lA x.ln x.lc) ∧ w.cell? ⟨g, k * 7 + 6, none⟩ = some (.int .i64 x.p) := by
  have hh : ∀ j, j < 7 → (l.flatMap SV.cells)[k * 7 + j]? = (SV.cells x)[j]? := fun j hj => flat_get SV.cells 7 (fun _ => rfl) l k x hk j hj
  exact ⟨⟨h.cell (hh 0 (by omega)), h.cell (hh 1 (by omega))⟩, ⟨h.cell (hh 2 (by omega)), h.cell (hh 3 (by omega))⟩, h.cell (hh 4 (by omega)), h.cell (hh 5 (by omega)), h.cell (hh 6 (by omega))⟩

theorem len_bd (c : Blk) (d : Nat) : c.len ≤ c.bd d := by
  induction c with
  | nil => exact Nat.le_refl _
  | cons k s es n body els p rest ib ie ir => simp only [Blk.len, Blk.bd]; omega
set_option maxHeartbeats 2000000 in
theorem block_any (N : Nat) : ∀ c : Blk, c.wt < N → c.low → BlkSays c := by
  induction N with
  | zero => intro c hN; omega
  | succ N ih =>
    intro c hN hlow B b l d A n cap P w hisb hbs hfar hok htbb hlen hdeep
    obtain ⟨hn, L, hba, hsl⟩ := hbs
    have hll := hba.length
    have hbB := hisb.lt
    have HX := Lib.hid (fun (j : Nat) (hj : j < c.len) (w' : World) (hw : LW B b (l ++ c.pre j d) w w') => nth_of c j hj P w' L d (hba.stay (fun _ hg _ => hg) (stayO hw.2.2 (by decide) hfar) (stayO hw.2.2 (by decide) hfar)) hok hlow)
    have hd : d ≤ 1000 := by omega
    have hmax : c.len ≤ 70368744177664 := by have := len_bd c d; omega
    have HI := Lib.hid ih
    have HLen := Lib.hid hlen
    have HDeep := Lib.hid hdeep
    have HN := Lib.hid hn
    have HNN := Lib.hid hN
    have HT := Lib.hid htbb
    have HF := Lib.hid hfar
    have H0 : Hid (LW B b (l ++ c.pre 0 d) w w) := Lib.hid (by rw [show c.pre 0 d = [] by cases c <;> rfl, List.append_nil]; exact LW.start hisb)
    have hn9 : n ≤ 9223372036854775806 := by omega
    rcases hsl with ⟨rfl, hn0, hc0, _⟩ | ⟨g, rfl, hPg, hnc, hcm, hr⟩
    · have HC0 : Hid (c.len = 0) := Lib.hid (by omega)
      subst hn0
      subst hc0
      clear hn hba hll hok htbb hlen hdeep ih hmax hn9 hfar hisb hN hlow
      go_enter Tryd.func22, Tryd.ntmps22
      go_wp2
      refine wp_loop_rounds 1 ?_
      rw [rounds_succ]
      go_wp2
      go_end0
      refine ⟨rfl, ?_⟩
      have h := H0.out
      rw [show c.pre 0 d = blkT c d by rw [← pre_all c d, HC0.out]] at h
      exact h
    · have HR := Lib.hid hr
      have hgb : g ≠ b := hfar g hPg
      clear hn hba hll hok htbb hlen hdeep ih hmax hfar hisb hr hN hlow
      go_enter Tryd.func22, Tryd.ntmps22
      go_wp2
      go_loopw [10] (fun i wr => ∃ k : Nat, k ≤ n ∧ i = .int .i64 k ∧ Hid (LW B b (l ++ c.pre k d) w wr)) (fun i _ => n - (RowKit.intOf i).toNat)
      case atStart => exact ⟨0, Nat.zero_le _, rfl, H0⟩
      case round =>
        obtain ⟨k, hk, rfl, HK⟩ := hrel
        by_cases hlt : k < n
        · obtain ⟨k', s', es', n', body', els', x', a1, a2, a3, a4, a5, a6, a7, a8, a9, a10, a11, a12, a13⟩ := (HX.out k (by have := HN.out; omega) wr HK.out).ex
          obtain ⟨cur, hcur1, hcur2⟩ := HR.out
          have hrow : Row wr TS g (L.flatMap SV.cells) := ⟨cur, HK.out.keep hcur1 (by decide) hgb, hcur2⟩
          obtain ⟨⟨c0, c1⟩, ⟨c2, c3⟩, c4, c5, c6⟩ := row_stmt hrow k x' a1
          have HB1 := Lib.hid ((Below.refl wr.heap.size wr).alloc (Nat.le_refl _) (sbox x'))
          have HSH : Hid (SH B b (l ++ c.pre k d) d P wr x' k' s' es' n' body' els') := Lib.hid ⟨HK.out.1, HF.out, a5, a6, a7, a9, HT.out.next HK.out.2.1, by rw [List.length_append]; have := HLen.out; omega, by have := HDeep.out; omega, a2, a3, a4⟩
          have HSS := Lib.hid (stmt_any k' a8 s' es' n' body' els' (HI.out body' (by have := HNN.out; omega) a10.1) (HI.out els' (by have := HNN.out; omega) a10.2))
          have HA := Lib.hid a11
          clear a1 a2 a3 a4 a5 a6 a7 a8 a9 a10 a11 a12 a13 hcur1 hcur2 hrow
          go_wp2_with fail
          refine (HSS.out B b (l ++ c.pre k d) d P _ x' (HSH.out.below HB1.out)).mono ?_
          rintro e w2 ⟨rfl, hw2⟩
          have HW2 : Hid (LW B b (l ++ c.pre (k + 1) d) w w2) := Lib.hid (by rw [HA.out, ← List.append_assoc]; exact (HK.out.below HB1.out).trans hw2)
          clear hw2
          go_wp2
          go_roundw
          case rel => exact ⟨k + 1, by omega, by go_num, HW2⟩
          case measure => simp [RowKit.intOf]; omega
        · have hkn : k = c.len := by have := HN.out; omega
          have HA : Hid (LW B b (l ++ blkT c d) w wr) := Lib.hid (by rw [← pre_all c d, ← hkn]; exact HK.out)
          clear hkn HK
          go_wp2
          go_end0
          exact ⟨rfl, HA.out⟩
end Go.Proofs.YtnihgifpfdlnhaaDoor.PT
