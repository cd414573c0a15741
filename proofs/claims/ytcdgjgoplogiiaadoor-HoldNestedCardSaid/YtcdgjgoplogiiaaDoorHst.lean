/- (*holder).stmt. (mkhst.py) -/
import Derived.Test.YtcdgjgoplogiiaaDoorHsa
import Derived.Deep.AppendLies
namespace Go.Proofs.YtcdgjgoplogiiaaDoor.PT
open Go.RowKit Go.Lib
set_option linter.unusedVariables false
set_option linter.unusedSimpArgs false
theorem infoS : (Tryd.prog.info? TSt).map (fun i => (i.zero, i.size, i.bytes)) = some (some (.string ByteArray.empty), 1, 16) := by kernel_rfl
theorem cell_aw {w : World} {a : Addr} {v : Value} (h : w.cell? a = some v) (o : Obj) : (w.alloc o).cell? a = some v := by
  have hl := World.block_lt_of_cell? w _ h
  exact ((Below.refl _ _).alloc (Nat.le_refl _) o).cell hl |>.trans h
theorem own_bk {A : Option Addr} {n c : Nat} : (Value.slice A n c).ownBlock = bk A := by cases A <;> rfl
theorem str_news {w : World} {G : Nat} {s : ByteArray} (hG : w.heap[G]? = some (.cells #[.string s] TSt (0, 0))) (j : Nat) (u : Value) (hj : [Value.string s][j]? = some u) : w.cell? ((⟨G, 0, none⟩ : Addr).add j) = some u := by
  obtain rfl : j = 0 := by
    have := (List.getElem?_eq_some_iff.1 hj).1
    simpa using this
  have hu : Value.string s = u := Option.some.inj hj
  rw [← hu]
  exact (blk_cell hG 0).trans rfl
/-- A name is appended, in a drawn region. -/
theorem wp_push {w : World} {B : Nat} {A : Option Addr} {c : Nat} {l : List ByteArray} {s : ByteArray} {G : Nat} {o : Oper} {a : Act} {K : Act → World → Prop} {Q : Exit → Act → World → Prop} (h : Ns w B A c l) (hG : w.heap[G]? = some (.cells #[.string s] TSt (0, 0))) (x y : Operand)
    (ho : o.op = .call { callee := .builtin .append, args := #[x, y], argTypes := #[31, 31] }) (hx : a.eval x = .slice A l.length c) (hy : a.eval y = .slice (some ⟨G, 0, none⟩) 1 1) (hl : l.length ≤ 1000000000) (hB : B ≤ w.heap.size)
    (hK : ∀ g cap w', Ns w' B (some ⟨g, 0, none⟩) cap (l ++ [s]) → w.grownBy w' (bk A) → (bk A = some g ∨ g = w.heap.size) → K (a.put o.dst (.slice (some ⟨g, 0, none⟩) (l.length + 1) cap)) w') : Oper.wp Tryd.prog o a w K Q := by
  obtain ⟨i0, hi, hz0, hz1, hz2⟩ := info_parts infoS
  refine wp_append_lies _ x y 31 ho B TSt i0 (.string ByteArray.empty) 1 16 Tryd.underlying31 hi hz0 hz1 hz2 (by rfl) (by decide) (.slice A l.length c) l.length (l.map Value.string) hx h.2 ⟨G, 0, none⟩ 1 1 [.string s] hy (by rfl) (str_news hG) (fun u hu => by rw [List.mem_singleton.1 hu]; rfl) (by decide) (by unfold maxLen; omega) (by omega) hB w.heap.size rfl (fun g cap w' h1 h2 h3 h4 => ?_)
  · rw [own_bk] at h2 h3
    exact hK g cap w' ⟨by simp, by simpa using h1⟩ h2 h3
section
variable {w w1 w2 : World} {B b mb mu : Nat} {by' : ByteArray → Option ByteArray} {th : Nat} {h : HS} {k : Nat} {hA : Option Addr} {hc : Nat} {oA : Option Addr} {oc : Nat}
/-- A local more: ahead of the store, and behind it. -/
theorem HMx.push_own (hm : HMx w B b mb mu by' th h k hA hc oA oc) {s : ByteArray} {g' cap' : Nat} (hw1 : Below w.heap.size w w1) (hN : Ns w2 B (some ⟨g', 0, none⟩) cap' (h.own ++ [s])) (hg : w1.grownBy w2 (bk oA)) (hor : bk oA = some g' ∨ g' = w1.heap.size) (hk : k + 1 ≤ 100000000) :
    w2.heap[b]? = w.heap[b]? ∧ (∀ S, S < w.heap.size → bk oA ≠ some S → w2.heap[S]? = w.heap[S]?) ∧ HMx (w2.setCell ⟨b, 4, none⟩ (.slice (some ⟨g', 0, none⟩) (h.own.length + 1) cap')) B b mb mu by' th { h with own := h.own ++ [s] } (k + 1) hA hc (some ⟨g', 0, none⟩) cap' ∧ HTr w B b mu hA oA (w2.setCell ⟨b, 4, none⟩ (.slice (some ⟨g', 0, none⟩) (h.own.length + 1) cap')) hA (some ⟨g', 0, none⟩) := by
  have hne : ∀ j, (∃ cs E fr, w.heap[j]? = some (.cells cs E fr) ∧ TSt ≠ E) ∨ (∃ es cl, w.heap[j]? = some (.map es cl)) → bk oA ≠ some j := by
    rintro j h1 e
    obtain ⟨_, _, cur, h3⟩ := hm.r1.lt e
    rcases h1 with ⟨cs, E, fr, h4, h5⟩ | ⟨es, cl, h4⟩
    · exact cells_ne h3 h4 h5 rfl
    · rw [h3] at h4; cases h4
  have hkeep : ∀ j, j < w.heap.size → bk oA ≠ some j → w2.heap[j]? = w.heap[j]? := fun j hj h1 => (hg.block j (Nat.lt_of_lt_of_le hj hw1.size) (fun e => h1 e.symm)).trans (hw1.block j hj)
  have hset : ∀ j, j ≠ b → (w2.setCell ⟨b, 4, none⟩ (.slice (some ⟨g', 0, none⟩) (h.own.length + 1) cap')).heap[j]? = w2.heap[j]? := fun j hj => Below.heap_setCell w2 ⟨b, 4, none⟩ _ j hj
  have hb2 : w2.heap[b]? = w.heap[b]? := hkeep b hm.lt (hne b (.inl ⟨_, _, _, hm.blk, by decide⟩))
  have hg'b : g' ≠ b := by
    obtain ⟨_, _, cur, h3⟩ := hN.lt (g := g') rfl
    exact cells_ne h3 (hb2.trans hm.blk) (by decide)
  refine ⟨hb2, hkeep, ⟨blk_put (hb2.trans hm.blk) 4 _ (by simp), ?_, ?_, ?_, ?_, hm.ne, ?_, Nat.le_succ_of_le hm.kh, by simpa using hm.ko, hk, hm.lb⟩, ⟨⟨?_, ?_, ?_, ?_, ?_⟩, ?_, .inl rfl, ?_⟩⟩
  · obtain ⟨n, h3⟩ := hm.m0
    obtain ⟨es, cl, h4⟩ := h3.isMap
    exact ⟨n, h3.kept ((hset mb (h3.ne hm.blk)).trans (hkeep mb h3.lt (hne mb (.inr ⟨es, cl, h4⟩))))⟩
  · obtain ⟨es, cl, h4⟩ := hm.m1.isMap
    exact (hm.m1.kept ((hset mu (hm.m1.ne hm.blk)).trans (hkeep mu hm.m1.lt (hne mu (.inr ⟨es, cl, h4⟩))))).mono (Nat.le_succ k)
  · refine hm.r0.keep fun j hj => ?_
    obtain ⟨h1, _, cur, h3⟩ := hm.r0.lt hj
    exact (hset j (cells_ne h3 hm.blk (by decide))).trans (hkeep j h1 (hm.apart j hj))
  · exact hN.keep fun j hj => by injection hj with hj; subst hj; exact hset g' hg'b
  · intro j hj e
    obtain rfl : g' = j := Option.some.inj e
    rcases hor with e | e
    · exact hm.apart g' hj e
    · have := (hm.r0.lt hj).1; have := hw1.size; omega
  · exact hg.os.trans hw1.os
  · exact hg.tape.trans hw1.tape
  · exact hg.output.trans hw1.output
  · have := hg.size; have := hw1.size; simp; omega
  · intro j hj
    have hjb : j ≠ b := by have := hm.lb.1; omega
    have hjw : j < w.heap.size := by have := hm.lb.1; have := hm.lt; omega
    exact (hset j hjb).trans (hkeep j hjw (fun e => by have := (hm.r1.lt e).2.1; omega))
  · intro j hj h1 _ _ h4
    exact (hset j h1).trans (hkeep j hj h4)
  · rcases hor with e | e
    · exact .inl e.symm
    · exact .inr fun j hj => by injection hj with hj; subst hj; have := hw1.size; show w.heap.size ≤ g'; omega
/-- A lock more. -/
theorem HMx.push_held (hm : HMx w B b mb mu by' th h k hA hc oA oc) {s : ByteArray} {g' cap' : Nat} (hw1 : Below w.heap.size w w1) (hN : Ns w2 B (some ⟨g', 0, none⟩) cap' (h.held ++ [s])) (hg : w1.grownBy w2 (bk hA)) (hor : bk hA = some g' ∨ g' = w1.heap.size) (hk : k + 1 ≤ 100000000) :
    w2.heap[b]? = w.heap[b]? ∧ (∀ S, S < w.heap.size → bk hA ≠ some S → w2.heap[S]? = w.heap[S]?) ∧ HMx (w2.setCell ⟨b, 3, none⟩ (.slice (some ⟨g', 0, none⟩) (h.held.length + 1) cap')) B b mb mu by' th { h with held := h.held ++ [s] } (k + 1) (some ⟨g', 0, none⟩) cap' oA oc ∧ HTr w B b mu hA oA (w2.setCell ⟨b, 3, none⟩ (.slice (some ⟨g', 0, none⟩) (h.held.length + 1) cap')) (some ⟨g', 0, none⟩) oA := by
  have hne : ∀ j, (∃ cs E fr, w.heap[j]? = some (.cells cs E fr) ∧ TSt ≠ E) ∨ (∃ es cl, w.heap[j]? = some (.map es cl)) → bk hA ≠ some j := by
    rintro j h1 e
    obtain ⟨_, _, cur, h3⟩ := hm.r0.lt e
    rcases h1 with ⟨cs, E, fr, h4, h5⟩ | ⟨es, cl, h4⟩
    · exact cells_ne h3 h4 h5 rfl
    · rw [h3] at h4; cases h4
  have hkeep : ∀ j, j < w.heap.size → bk hA ≠ some j → w2.heap[j]? = w.heap[j]? := fun j hj h1 => (hg.block j (Nat.lt_of_lt_of_le hj hw1.size) (fun e => h1 e.symm)).trans (hw1.block j hj)
  have hset : ∀ j, j ≠ b → (w2.setCell ⟨b, 3, none⟩ (.slice (some ⟨g', 0, none⟩) (h.held.length + 1) cap')).heap[j]? = w2.heap[j]? := fun j hj => Below.heap_setCell w2 ⟨b, 3, none⟩ _ j hj
  have hb2 : w2.heap[b]? = w.heap[b]? := hkeep b hm.lt (hne b (.inl ⟨_, _, _, hm.blk, by decide⟩))
  have hg'b : g' ≠ b := by
    obtain ⟨_, _, cur, h3⟩ := hN.lt (g := g') rfl
    exact cells_ne h3 (hb2.trans hm.blk) (by decide)
  refine ⟨hb2, hkeep, ⟨blk_put (hb2.trans hm.blk) 3 _ (by simp), ?_, ?_, ?_, ?_, hm.ne, ?_, by simpa using hm.kh, Nat.le_succ_of_le hm.ko, hk, hm.lb⟩, ⟨⟨?_, ?_, ?_, ?_, ?_⟩, ?_, ?_, .inl rfl⟩⟩
  · obtain ⟨n, h3⟩ := hm.m0
    obtain ⟨es, cl, h4⟩ := h3.isMap
    exact ⟨n, h3.kept ((hset mb (h3.ne hm.blk)).trans (hkeep mb h3.lt (hne mb (.inr ⟨es, cl, h4⟩))))⟩
  · obtain ⟨es, cl, h4⟩ := hm.m1.isMap
    exact (hm.m1.kept ((hset mu (hm.m1.ne hm.blk)).trans (hkeep mu hm.m1.lt (hne mu (.inr ⟨es, cl, h4⟩))))).mono (Nat.le_succ k)
  · exact hN.keep fun j hj => by injection hj with hj; subst hj; exact hset g' hg'b
  · refine hm.r1.keep fun j hj => ?_
    obtain ⟨h1, _, cur, h3⟩ := hm.r1.lt hj
    exact (hset j (cells_ne h3 hm.blk (by decide))).trans (hkeep j h1 (fun e => hm.apart j e hj))
  · intro j e hj
    obtain rfl : g' = j := Option.some.inj e
    rcases hor with e | e
    · exact hm.apart g' e hj
    · have := (hm.r1.lt hj).1; have := hw1.size; omega
  · exact hg.os.trans hw1.os
  · exact hg.tape.trans hw1.tape
  · exact hg.output.trans hw1.output
  · have := hg.size; have := hw1.size; simp; omega
  · intro j hj
    have hjb : j ≠ b := by have := hm.lb.1; omega
    have hjw : j < w.heap.size := by have := hm.lb.1; have := hm.lt; omega
    exact (hset j hjb).trans (hkeep j hjw (fun e => by have := (hm.r0.lt e).2.1; omega))
  · intro j hj h1 _ h4 _
    exact (hset j h1).trans (hkeep j hj h4)
  · rcases hor with e | e
    · exact .inl e.symm
    · exact .inr fun j hj => by injection hj with hj; subst hj; have := hw1.size; show w.heap.size ≤ g'; omega
end
abbrev sbx (x : SV) : Obj := .cells #[.int .i64 x.k, .string x.s, .slice x.eA x.en x.ec, .int .i64 x.n, .slice x.bA x.bn x.bc, .slice x.lA x.ln x.lc, .int .i64 x.p] TS
/-- A block of a statement's is none of the holder's. -/
theorem HMx.far {w : World} {B b mb mu : Nat} {by' : ByteArray → Option ByteArray} {th : Nat} {h : HS} {k : Nat} {hA : Option Addr} {hc : Nat} {oA : Option Addr} {oc : Nat} (hm : HMx w B b mb mu by' th h k hA hc oA oc) {g : Nat} {x : SV} (hg : w.heap[g]? = some (sbx x)) : g ≠ b ∧ g ≠ mu ∧ bk hA ≠ some g ∧ bk oA ≠ some g := by
  refine ⟨cells_ne hg hm.blk (by decide), (hm.m1.ne hg).symm, fun e => ?_, fun e => ?_⟩
  · obtain ⟨_, _, cur, h3⟩ := hm.r0.lt e
    exact cells_ne h3 hg (by decide) rfl
  · obtain ⟨_, _, cur, h3⟩ := hm.r1.lt e
    exact cells_ne h3 hg (by decide) rfl
theorem ErrI.cut {w : World} {B b mb mu : Nat} {by' : ByteArray → Option ByteArray} {th : Nat} {h : HS} {k : Nat} {hA : Option Addr} {hc : Nat} {oA : Option Addr} {oc : Nat} {u : Value} {n : Nat} {p : Int} (he : ErrI w u n p) (hm : HMx w B b mb mu by' th h k hA hc oA oc) {i : Nat} {v : Value} : ErrI (w.setCell ⟨b, i, none⟩ v).drew u n p := by
  obtain ⟨g, e, hg⟩ := he
  exact ⟨g, e, (Below.heap_setCell w ⟨b, i, none⟩ v g (cells_ne hg hm.blk (by decide))).trans hg⟩
/-- What (*holder).stmt does. -/
def HtSays (k : Nat) (s : ByteArray) (es : List Tree) (body els : Blk) (p : Int) : Prop := ∀ (w : World) (B b mb mu : Nat) (by' : ByteArray → Option ByteArray) (th : Nat) (h : HS) (k0 : Nat) (hA : Option Addr) (hc : Nat) (oA : Option Addr) (oc : Nat) (x : SV),
  HMx w B b mb mu by' th h k0 hA hc oA oc → x.k = k → x.s = s → x.p = p → Es es (fun g => g < B) w x.eA x.en x.ec → Bs body (fun g => g < B) w x.bA x.bn x.bc → Bs els (fun g => g < B) w x.lA x.ln x.lc →
  s.size ≤ 65536 → smT es = true → body.sm = true → els.sm = true → k0 + (1 + costs es + body.cost + els.cost) ≤ 100000000 →
  Calls Tryd.prog 107 #[.pointer (some ⟨b, 0, none⟩), SV.val x] w (HPost (thenp (hexprs by' th es h) (hact by' th k s (hblk by' th body) (hblk by' th els) p)) w B b mb mu by' th (k0 + (1 + costs es + body.cost + els.cost)) hA oA)
set_option maxRecDepth 100000 in
set_option maxHeartbeats 16000000 in
theorem stmt_of (k : Nat) (s : ByteArray) (es : List Tree) (body els : Blk) (p : Int) (hb : HsSays body) (he : HsSays els) : HtSays k s es body els p := by
  intro w B b mb mu by' th h k0 hA hc oA oc x hm hk hs hp hes hbb hbe hsz hsm hsb hse hkk
  obtain ⟨xk, xs, eA, en, ec, xn, bA, bn, bc, lA, ln, lc, xp⟩ := x
  dsimp only at hk hs hp hes hbb hbe
  subst hk hs hp
  have hen : en ≤ 9223372036854775807 := by
    obtain ⟨h1, ys, h2, h3⟩ := hes
    have hml : maxLen = 9223372036854775807 := by decide
    rcases h3 with ⟨_, rfl, _⟩ | ⟨g, _, _, h4, h5, _⟩ <;> omega
  obtain ⟨X, hX⟩ : ∃ X : SV, X = ⟨k, xs, eA, en, ec, xn, bA, bn, bc, lA, ln, lc, xp⟩ := ⟨_, rfl⟩
  obtain ⟨s, hss⟩ : ∃ s, s = xs := ⟨_, rfl⟩
  obtain ⟨p, hpp⟩ : ∃ p, p = xp := ⟨_, rfl⟩
  rw [← hss, ← hpp]
  rw [← hss] at hsz hX
  rw [← hpp] at hX
  clear hss hpp
  have HBw : Hid (B ≤ w.heap.size) := Lib.hid (Nat.le_trans hm.lb.1 (Nat.le_of_lt hm.lt))
  obtain ⟨W0, hW0⟩ : ∃ W0, W0 = w.alloc (sbx X) := ⟨_, rfl⟩
  obtain ⟨S0, hS0⟩ : ∃ S0, S0 = w.heap.size := ⟨_, rfl⟩
  have hba := (Below.refl w.heap.size w).alloc (Nat.le_refl _) (sbx X)
  have HX0 : Hid (W0.heap[S0]? = some (sbx X)) := Lib.hid (by rw [hW0, hS0]; exact blk_new _ _)
  have HM0 : Hid (HMx W0 B b mb mu by' th h k0 hA hc oA oc) := Lib.hid (by rw [hW0]; exact hm.alloc _)
  have HT0 : Hid (HTr w B b mu hA oA W0 hA oA) := Lib.hid (by rw [hW0]; exact (HTr.refl _ _ _ _ _ _).more hba HBw.out)
  have HK := Lib.hid (hes.kds.below HT0.out.bel)
  have HBB := Lib.hid (hbb.low HT0.out.bel)
  have HBE := Lib.hid (hbe.low HT0.out.bel)
  have HB := Lib.hid hb
  have HE := Lib.hid he
  have HKK : Hid (k0 + costs es + (1 + body.cost + els.cost) ≤ k0 + (1 + costs es + body.cost + els.cost) ∧ k0 + (1 + costs es + body.cost + els.cost) ≤ 100000000) := Lib.hid ⟨by omega, hkk⟩
  have HSM := Lib.hid (smT_mem hsm)
  obtain ⟨re, hre⟩ : ∃ re, re = hexprs by' th es h := ⟨_, rfl⟩
  obtain ⟨r, hr⟩ : ∃ r, r = thenp (hexprs by' th es h) (hact by' th k s (hblk by' th body) (hblk by' th els) p) := ⟨_, rfl⟩
  have HR : Hid (r = thenp re (hact by' th k s (hblk by' th body) (hblk by' th els) p)) := Lib.hid (by rw [hr, hre])
  have H0 : Hid (HL W0 B b mb mu by' th k0 hA oA es re 0 W0) := Lib.hid ⟨h, hA, hc, oA, oc, HM0.out, HTr.refl _ _ _ _ _ _, hre⟩
  have x0 : W0.cell? ⟨S0, 0, none⟩ = some (.int .i64 k) := (blk_cell HX0.out 0).trans (by rw [hX]; rfl)
  have x2 : W0.cell? ⟨S0, 2, none⟩ = some (.slice eA en ec) := (blk_cell HX0.out 2).trans (by rw [hX]; rfl)
  have hS0W := lt_heap HX0.out
  rw [← hr]
  clear hr hre hm hes hbb hbe hb he hkk hsm hba
  go_enter Tryd.func107, Tryd.ntmps107
  go_upto_region 1 with fail
  show Code.wp _ _ _ _ (w.alloc (.cells #[.int .i64 k, .string s, .slice eA en ec, .int .i64 xn, .slice bA bn bc, .slice lA ln lc, .int .i64 p] TS))
  rw [show w.alloc (.cells #[.int .i64 k, .string s, .slice eA en ec, .int .i64 xn, .slice bA bn bc, .slice lA ln lc, .int .i64 p] TS) = W0 by rw [hW0, hX], ← hS0]
  clear hW0 hS0
  go_wp2
  go_loopw [14] (fun i wr => ∃ j : Nat, j ≤ en ∧ i = .int .i64 j ∧ Hid (HL W0 B b mb mu by' th k0 hA oA es re j wr)) (fun i _ => en - (RowKit.intOf i).toNat)
  case atStart => exact ⟨0, Nat.zero_le _, rfl, H0⟩
  case round =>
    clear x0 x2
    obtain ⟨j, hj, rfl, HG⟩ := hrel
    obtain ⟨h1, hA1, hc1, oA1, oc1, hm1, ht1, he1⟩ := HG.out.ex
    have HM1 := Lib.hid hm1
    have HT1 := Lib.hid ht1
    have HE1 := Lib.hid he1
    clear hm1 ht1 he1 HG
    by_cases hlt : j < en
    · have hjl : j < es.length := by rw [← HK.out.1]; exact hlt
      obtain ⟨g, y, rfl, hg, haty, c0, c1, c2, c3, c4, c5⟩ := (HK.out.below HT1.out.bel).get hjl
      have hbx := HM1.out.lt
      have hct := costs_take es j hjl
      have hcl := costs_le es (j + 1)
      have HC := Lib.hid (hexpr_any es[j] (wr.alloc (.cells y.cells.toArray TE)) B b mb mu by' th h1 _ hA1 hc1 oA1 oc1 y (HM1.out.alloc _) (haty.alloc _) (HSM.out _ (List.getElem_mem hjl)) (by have := HKK.out; omega))
      have hd : es.drop j = es[j] :: es.drop (j + 1) := List.drop_eq_getElem_cons hjl
      have HEd : Hid (re = thenp (hexpr by' th es[j] h1) (hexprs by' th (es.drop (j + 1)))) := Lib.hid (by rw [HE1.out, hd]; rfl)
      have HCT := Lib.hid hct
      have HCL := Lib.hid hcl
      clear hct hcl hd haty
      cases hr1 : hexpr by' th es[j] h1 with
      | error p' =>
        rw [hr1] at HC HEd
        have HRe : Hid (r = .error p') := Lib.hid (by rw [HR.out, HEd.out]; rfl)
        go_wp2_with (go_at_call 119; refine HC.out.mono ?_; rintro e w2 ⟨u, rfl, hu, h9, hA9, hc9, oA9, oc9, hm9, ht9⟩; have HU := Lib.hid hu; have HM9 := Lib.hid hm9; have HT9 := Lib.hid ht9; obtain ⟨gF, rfl, _⟩ := hu; clear hm9 ht9)
        go_ret
        rw [HRe.out]
        exact ⟨_, rfl, HU.out, h9, hA9, hc9, oA9, oc9, HM9.out.mono (by have := HKK.out; have := HCT.out; have := HCL.out; omega) (by have := HKK.out; omega), HT0.out.trans ((HT1.out.more ((Below.refl _ _).alloc (Nat.le_refl _) _) (Nat.le_trans HBw.out HT0.out.bel.size)).trans HT9.out)⟩
      | ok h2 =>
        rw [hr1] at HC HEd
        go_wp2_with (go_at_call 119; refine HC.out.mono ?_; rintro e w2 ⟨rfl, hA2, hc2, oA2, oc2, hm2, ht2⟩; have HM2 := Lib.hid hm2; have HT2 := Lib.hid ht2; clear hm2 ht2)
        go_roundw
        case rel => exact ⟨j + 1, by omega, by go_num, Lib.hid ⟨h2, hA2, hc2, oA2, oc2, by rw [HCT.out, ← Nat.add_assoc]; exact HM2.out, (HT1.out.more ((Below.refl _ _).alloc (Nat.le_refl _) _) (Nat.le_trans HBw.out HT0.out.bel.size)).trans HT2.out, HEd.out⟩⟩
        case measure => simp [RowKit.intOf]; omega
    · have hjl : j = es.length := by have := HK.out.1; omega
      subst hjl
      have HR1 : Hid (r = hact by' th k s (hblk by' th body) (hblk by' th els) p h1) := Lib.hid (by
        have he := HE1.out
        rw [List.drop_length] at he
        rw [HR.out, he]; rfl)
      have HC1 : Hid (costs (es.take es.length) = costs es) := Lib.hid (by rw [List.take_length])
      have HXr : Hid (wr.heap[S0]? = some (sbx X)) := Lib.hid ((let q := HM0.out.far HX0.out; HT1.out.keep S0 hS0W q.1 q.2.1 q.2.2.1 q.2.2.2).trans HX0.out)
      have HBBr := Lib.hid (HBB.out.low HT1.out.bel)
      have HBEr := Lib.hid (HBE.out.low HT1.out.bel)
      have x0 : wr.cell? ⟨S0, 0, none⟩ = some (.int .i64 k) := (blk_cell HXr.out 0).trans (by rw [hX]; rfl)
      have x1 : wr.cell? ⟨S0, 1, none⟩ = some (.string s) := (blk_cell HXr.out 1).trans (by rw [hX]; rfl)
      have x4 : wr.cell? ⟨S0, 4, none⟩ = some (.slice bA bn bc) := (blk_cell HXr.out 4).trans (by rw [hX]; rfl)
      have x5 : wr.cell? ⟨S0, 5, none⟩ = some (.slice lA ln lc) := (blk_cell HXr.out 5).trans (by rw [hX]; rfl)
      have x6 : wr.cell? ⟨S0, 6, none⟩ = some (.int .i64 p) := (blk_cell HXr.out 6).trans (by rw [hX]; rfl)
      clear HE1 HK HBB HBE HX0 HM0 H0 HR
      rcases (show k = 0 ∨ k = 1 ∨ k = 2 ∨ k = 3 ∨ k = 4 ∨ k = 5 ∨ k = 6 ∨ k = 7 ∨ 8 ≤ k by omega) with hk0 | hk0 | hk0 | hk0 | hk0 | hk0 | hk0 | hk0 | hk0
      · subst hk0
        have HRk : Hid (r = .ok { h1 with own := h1.own ++ [s] }) := HR1
        go_wp2
        have dF : wr.cell? ⟨b, 4, none⟩ = some (.slice oA1 h1.own.length oc1) := (blk_cell HM1.out.blk 4).trans rfl
        have dN := x1
        refine wp_region_S [(11, fun w0 => w0.cell? ⟨b, 4, none⟩ = some (.slice oA1 h1.own.length oc1) ∧ w0.cell? ⟨S0, 1, none⟩ = some (.string s))] (by kernel_rfl) (SL.cons ⟨cell_dw dF, cell_dw dN⟩ SL.nil) (fun hS => ?_)
        (refine wpAnyS_free 0 (v := ?_) rfl (by kernel_rfl) (by kernel_rfl) (by kernel_rfl) (by simp) (fun _ _ _ h => h) (Or.inl ⟨by rfl, ?_⟩) hS (fun hS => ?_); rotate_left)
        · ((intro w; go_simp) <;> with_reducible rfl)
        try simp only [List.getElem_toArray, List.getElem_cons_succ, List.getElem_cons_zero, Act.put, List.setIfInBounds_toArray, List.set_cons_zero, List.set_cons_succ]
        (refine wpAnyS_free 1 (v := ?_) rfl (by kernel_rfl) (by kernel_rfl) (by kernel_rfl) (by simp) (fun _ _ _ h => h) (Or.inl ⟨by rfl, ?_⟩) hS (fun hS => ?_); rotate_left)
        · ((intro w; go_simp) <;> with_reducible rfl)
        try simp only [List.getElem_toArray, List.getElem_cons_succ, List.getElem_cons_zero, Act.put, List.setIfInBounds_toArray, List.set_cons_zero, List.set_cons_succ]
        (refine wpAnyS_free 2 (v := ?_) rfl (by kernel_rfl) (by kernel_rfl) (by kernel_rfl) (by simp) (fun _ _ _ h => h) (Or.inl ⟨by rfl, ?_⟩) hS (fun hS => ?_); rotate_left)
        · ((intro w; go_simp) <;> with_reducible rfl)
        try simp only [List.getElem_toArray, List.getElem_cons_succ, List.getElem_cons_zero, Act.put, List.setIfInBounds_toArray, List.set_cons_zero, List.set_cons_succ]
        (refine wpAnyS_free 3 (v := ?_) rfl (by kernel_rfl) (by kernel_rfl) (by kernel_rfl) (by simp) (fun _ _ _ h => h) (Or.inl ⟨by rfl, ?_⟩) hS (fun hS => ?_); rotate_left)
        · ((intro w; go_simp) <;> with_reducible rfl)
        try simp only [List.getElem_toArray, List.getElem_cons_succ, List.getElem_cons_zero, Act.put, List.setIfInBounds_toArray, List.set_cons_zero, List.set_cons_succ]
        (refine wpAnyS_load 4 11 (v := ?_) (List.mem_singleton.2 rfl) rfl (by kernel_rfl) (by kernel_rfl) (by kernel_rfl) (by kernel_rfl) (by kernel_rfl) (by simp) (fun _ _ _ h => h) (Or.inl ⟨by rfl, ?_⟩) hS (fun hS => ?_); rotate_left)
        · ((intro w hSw; (try dsimp only at hSw); go_simp) <;> with_reducible rfl)
        try simp only [List.getElem_toArray, List.getElem_cons_succ, List.getElem_cons_zero, Act.put, List.setIfInBounds_toArray, List.set_cons_zero, List.set_cons_succ]
        (refine wpAnyS_free 5 (v := ?_) rfl (by kernel_rfl) (by kernel_rfl) (by kernel_rfl) (by simp) (fun _ _ _ h => h) (Or.inl ⟨by rfl, ?_⟩) hS (fun hS => ?_); rotate_left)
        · ((intro w; go_simp) <;> with_reducible rfl)
        try simp only [List.getElem_toArray, List.getElem_cons_succ, List.getElem_cons_zero, Act.put, List.setIfInBounds_toArray, List.set_cons_zero, List.set_cons_succ]
        (refine wpAnyS_load 6 11 (v := ?_) (List.mem_singleton.2 rfl) rfl (by kernel_rfl) (by kernel_rfl) (by kernel_rfl) (by kernel_rfl) (by kernel_rfl) (by simp) (fun _ _ _ h => h) (Or.inl ⟨by rfl, ?_⟩) hS (fun hS => ?_); rotate_left)
        · ((intro w hSw; (try dsimp only at hSw); go_simp) <;> with_reducible rfl)
        try simp only [List.getElem_toArray, List.getElem_cons_succ, List.getElem_cons_zero, Act.put, List.setIfInBounds_toArray, List.set_cons_zero, List.set_cons_succ]
        refine wpAnyS_one 7 rfl (by kernel_rfl) (by rfl) (fun K hK => ?_)
        go_simp
        refine hK.out _ _ (SL.cons ⟨cell_aw (cell_dw dF) _, cell_aw (cell_dw dN) _⟩ SL.nil) (fun hS => ?_)
        clear hK K
        try simp only [List.getElem_toArray, List.getElem_cons_succ, List.getElem_cons_zero, Act.put, List.setIfInBounds_toArray, List.set_cons_zero, List.set_cons_succ]
        refine wpAnyS_one 8 rfl (by kernel_rfl) (by rfl) (fun K hK => ?_)
        refine wp_push (HM1.out.drew.alloc (.cells #[.string s] TSt)).r1 (blk_new wr.drew _) _ _ rfl rfl rfl (by have := HM1.out.kh; have := HM1.out.ko; have := HM1.out.kk; omega) (by have := HM1.out.lb.1; have := HM1.out.lt; simp; omega) ?_
        intro g' cap' w2 hns hgrow hor
        obtain ⟨hb2, hkeep, hmP, htP⟩ := HM1.out.drew.push_own (s := s) ((Below.refl _ _).alloc (Nat.le_refl _) _) hns hgrow hor (by have := HKK.out; have := HC1.out; omega)
        have HMP := Lib.hid hmP
        have HTP : Hid (HTr wr B b mu hA1 oA1 (w2.setCell ⟨b, 4, none⟩ (.slice (some ⟨g', 0, none⟩) (h1.own.length + 1) cap')) hA1 (some ⟨g', 0, none⟩)) := Lib.hid ((HTr.refl _ _ _ _ _ _).drew.trans htP)
        have dF2 : w2.cell? ⟨b, 4, none⟩ = some (.slice oA1 h1.own.length oc1) := (blk_cell (hb2.trans HM1.out.blk) 4).trans rfl
        have fF2 : w2.frozen? ⟨b, 4, none⟩ = false := blk_frozen (hb2.trans HM1.out.blk) 4
        have HX2 : Hid (w2.heap[S0]? = some (sbx X)) := Lib.hid ((hkeep S0 (lt_heap HXr.out) (fun e => by obtain ⟨_, _, cur, h3⟩ := HM1.out.r1.lt e; exact cells_ne h3 HXr.out (by decide) rfl)).trans HXr.out)
        have dN2 : w2.cell? ⟨S0, 1, none⟩ = some (.string s) := (blk_cell HX2.out 1).trans (by rw [hX]; rfl)
        clear hns hgrow hor hb2 hkeep hmP htP
        refine hK.out _ _ (SL.cons ⟨dF2, dN2⟩ SL.nil) (fun hS => ?_)
        clear hK K
        try simp only [List.getElem_toArray, List.getElem_cons_succ, List.getElem_cons_zero, Act.put, List.setIfInBounds_toArray, List.set_cons_zero, List.set_cons_succ]
        (refine wpAnyS_free 9 (v := ?_) rfl (by kernel_rfl) (by kernel_rfl) (by kernel_rfl) (by simp) (fun _ _ _ h => h) (Or.inl ⟨by rfl, ?_⟩) hS (fun hS => ?_); rotate_left)
        · ((intro w; go_simp) <;> with_reducible rfl)
        try simp only [List.getElem_toArray, List.getElem_cons_succ, List.getElem_cons_zero, Act.put, List.setIfInBounds_toArray, List.set_cons_zero, List.set_cons_succ]
        (refine wpAnyS_free 10 (v := ?_) rfl (by kernel_rfl) (by kernel_rfl) (by kernel_rfl) (by simp) (fun _ _ _ h => h) (Or.inl ⟨by rfl, ?_⟩) hS (fun hS => ?_); rotate_left)
        · ((intro w; go_simp) <;> with_reducible rfl)
        try simp only [List.getElem_toArray, List.getElem_cons_succ, List.getElem_cons_zero, Act.put, List.setIfInBounds_toArray, List.set_cons_zero, List.set_cons_succ]
        refine wpAnyS_one 11 rfl (by kernel_rfl) (by rfl) (fun K hK => ?_)
        go_simp
        refine hK.out _ _ (SL.past (by kernel_rfl) SL.nil) (fun hS => ?_)
        clear hK K
        try simp only [List.getElem_toArray, List.getElem_cons_succ, List.getElem_cons_zero, Act.put, List.setIfInBounds_toArray, List.set_cons_zero, List.set_cons_succ]
        refine wpAnyS_done (by kernel_rfl) ?_ _
        clear dF dN dF2 fF2 dN2
        go_wp2
        go_ret
        rw [HRk.out]
        exact ⟨rfl, hA1, hc1, _, cap', HMP.out.mono (by have := HKK.out; have := HC1.out; omega) (by have := HKK.out; omega), (HT0.out.trans HT1.out).trans HTP.out⟩
      · subst hk0
        have HRk : Hid (r = touchp by' th s false p h1) := HR1
        have HTO := Lib.hid (touch_calls HM1.out (by have := HKK.out; have := HC1.out; omega) s (by unfold maxLen; omega) false p)
        cases hto : touchp by' th s false p h1 with
        | error p' =>
          rw [hto] at HTO HRk
          go_wp2_with (go_at_call 120; refine HTO.out.mono ?_; rintro e w4 ⟨u, rfl, hu, h9, hA9, hc9, oA9, oc9, hm9, ht9⟩; have HU := Lib.hid hu; have HM9 := Lib.hid hm9; have HT9 := Lib.hid ht9; obtain ⟨gF, rfl, _⟩ := hu; clear hm9 ht9)
          go_ret
          rw [HRk.out]
          exact ⟨_, rfl, HU.out, h9, hA9, hc9, oA9, oc9, HM9.out.mono (by have := HKK.out; have := HC1.out; omega) (by have := HKK.out; omega), (HT0.out.trans HT1.out).trans HT9.out⟩
        | ok h4 =>
          rw [hto] at HTO HRk
          go_wp2_with (go_at_call 120; refine HTO.out.mono ?_; rintro e w4 ⟨rfl, hA4, hc4, oA4, oc4, hm4, ht4⟩; have HM4 := Lib.hid hm4; have HT4 := Lib.hid ht4; clear hm4 ht4)
          go_ret
          rw [HRk.out]
          exact ⟨rfl, hA4, hc4, oA4, oc4, HM4.out.mono (by have := HKK.out; have := HC1.out; omega) (by have := HKK.out; omega), (HT0.out.trans HT1.out).trans HT4.out⟩
      · subst hk0
        have HRk : Hid (r = touchp by' th s false p h1) := HR1
        have HTO := Lib.hid (touch_calls HM1.out (by have := HKK.out; have := HC1.out; omega) s (by unfold maxLen; omega) false p)
        cases hto : touchp by' th s false p h1 with
        | error p' =>
          rw [hto] at HTO HRk
          go_wp2_with (go_at_call 120; refine HTO.out.mono ?_; rintro e w4 ⟨u, rfl, hu, h9, hA9, hc9, oA9, oc9, hm9, ht9⟩; have HU := Lib.hid hu; have HM9 := Lib.hid hm9; have HT9 := Lib.hid ht9; obtain ⟨gF, rfl, _⟩ := hu; clear hm9 ht9)
          go_ret
          rw [HRk.out]
          exact ⟨_, rfl, HU.out, h9, hA9, hc9, oA9, oc9, HM9.out.mono (by have := HKK.out; have := HC1.out; omega) (by have := HKK.out; omega), (HT0.out.trans HT1.out).trans HT9.out⟩
        | ok h4 =>
          rw [hto] at HTO HRk
          go_wp2_with (go_at_call 120; refine HTO.out.mono ?_; rintro e w4 ⟨rfl, hA4, hc4, oA4, oc4, hm4, ht4⟩; have HM4 := Lib.hid hm4; have HT4 := Lib.hid ht4; clear hm4 ht4)
          go_ret
          rw [HRk.out]
          exact ⟨rfl, hA4, hc4, oA4, oc4, HM4.out.mono (by have := HKK.out; have := HC1.out; omega) (by have := HKK.out; omega), (HT0.out.trans HT1.out).trans HT4.out⟩
      · subst hk0
        have HRk : Hid (r = thenp (samep (hblk by' th body) p h1) (samep (hblk by' th els) p)) := HR1
        have HSA := Lib.hid (HB.out wr B b mb mu by' th h1 _ hA1 hc1 oA1 oc1 bA bn bc p HM1.out HBBr.out hsb (by have := HKK.out; have := HC1.out; omega))
        cases hs1 : samep (hblk by' th body) p h1 with
        | error p' =>
          rw [hs1] at HSA HRk
          go_wp2_with (go_at_call 59; refine HSA.out.mono ?_; rintro e w4 ⟨u, rfl, hu, h9, hA9, hc9, oA9, oc9, hm9, ht9⟩; have HU := Lib.hid hu; have HM9 := Lib.hid hm9; have HT9 := Lib.hid ht9; obtain ⟨gF, rfl, _⟩ := hu; clear hm9 ht9)
          go_ret
          rw [HRk.out]
          exact ⟨_, rfl, HU.out, h9, hA9, hc9, oA9, oc9, HM9.out.mono (by have := HKK.out; have := HC1.out; omega) (by have := HKK.out; omega), (HT0.out.trans HT1.out).trans HT9.out⟩
        | ok h4 =>
          rw [hs1] at HSA HRk
          have hS0r := lt_heap HXr.out
          obtain ⟨hS0b, hS0m, hS0h, hS0o⟩ := HM1.out.far HXr.out
          go_upto_region 19 with (go_at_call 59; refine HSA.out.mono ?_; rintro e w4 ⟨rfl, hA4, hc4, oA4, oc4, hm4, ht4⟩; have HM4 := Lib.hid hm4; have HT4 := Lib.hid ht4; clear hm4 ht4; have e5 : w4.cell? ⟨S0, 5, none⟩ = some (.slice lA ln lc) := (blk_cell ((HT4.out.keep S0 hS0r hS0b hS0m hS0h hS0o).trans HXr.out) 5).trans (by rw [hX]; rfl); have e6 : w4.cell? ⟨S0, 6, none⟩ = some (.int .i64 p) := (blk_cell ((HT4.out.keep S0 hS0r hS0b hS0m hS0h hS0o).trans HXr.out) 6).trans (by rw [hX]; rfl); have hS4 : S0 < w4.heap.size := (by have := HT4.out.bel.size; omega))
          have HSB := Lib.hid (HE.out w4 B b mb mu by' th h4 _ hA4 hc4 oA4 oc4 lA ln lc p HM4.out (HBEr.out.low HT4.out.bel) hse (by have := HKK.out; have := HC1.out; omega))
          cases hs2 : samep (hblk by' th els) p h4 with
          | error p' =>
            have hrk : r = .error p' := HRk.out.trans hs2
            rw [hs2] at HSB
            go_wp2_with (go_at_call 59; refine HSB.out.mono ?_; rintro e w6 ⟨u, rfl, hu, h9, hA9, hc9, oA9, oc9, hm9, ht9⟩; have HU := Lib.hid hu; have HM9 := Lib.hid hm9; have HT9 := Lib.hid ht9; obtain ⟨gF, rfl, _⟩ := hu; clear hm9 ht9)
            go_ret
            rw [hrk]
            exact ⟨_, rfl, HU.out, h9, hA9, hc9, oA9, oc9, HM9.out.mono (by have := HKK.out; have := HC1.out; omega) (by have := HKK.out; omega), ((HT0.out.trans HT1.out).trans HT4.out).trans HT9.out⟩
          | ok h6 =>
            have hrk : r = .ok h6 := HRk.out.trans hs2
            rw [hs2] at HSB
            go_wp2_with (go_at_call 59; refine HSB.out.mono ?_; rintro e w6 ⟨rfl, hA6, hc6, oA6, oc6, hm6, ht6⟩; have HM6 := Lib.hid hm6; have HT6 := Lib.hid ht6; clear hm6 ht6)
            go_ret
            rw [hrk]
            exact ⟨rfl, hA6, hc6, oA6, oc6, HM6.out.mono (by have := HKK.out; have := HC1.out; omega) (by have := HKK.out; omega), ((HT0.out.trans HT1.out).trans HT4.out).trans HT6.out⟩
      · subst hk0
        have HRk : Hid (r = thenp (samep (hblk by' th body) p { h1 with own := h1.own ++ [s] }) fun h1 => .ok { h1 with own := h1.own.take (h1.own.length - 1) }) := HR1
        go_wp2
        have dF : wr.cell? ⟨b, 4, none⟩ = some (.slice oA1 h1.own.length oc1) := (blk_cell HM1.out.blk 4).trans rfl
        have dN := x1
        refine wp_region_S [(11, fun w0 => w0.cell? ⟨b, 4, none⟩ = some (.slice oA1 h1.own.length oc1) ∧ w0.cell? ⟨S0, 1, none⟩ = some (.string s))] (by kernel_rfl) (SL.cons ⟨cell_dw dF, cell_dw dN⟩ SL.nil) (fun hS => ?_)
        (refine wpAnyS_free 0 (v := ?_) rfl (by kernel_rfl) (by kernel_rfl) (by kernel_rfl) (by simp) (fun _ _ _ h => h) (Or.inl ⟨by rfl, ?_⟩) hS (fun hS => ?_); rotate_left)
        · ((intro w; go_simp) <;> with_reducible rfl)
        try simp only [List.getElem_toArray, List.getElem_cons_succ, List.getElem_cons_zero, Act.put, List.setIfInBounds_toArray, List.set_cons_zero, List.set_cons_succ]
        (refine wpAnyS_free 1 (v := ?_) rfl (by kernel_rfl) (by kernel_rfl) (by kernel_rfl) (by simp) (fun _ _ _ h => h) (Or.inl ⟨by rfl, ?_⟩) hS (fun hS => ?_); rotate_left)
        · ((intro w; go_simp) <;> with_reducible rfl)
        try simp only [List.getElem_toArray, List.getElem_cons_succ, List.getElem_cons_zero, Act.put, List.setIfInBounds_toArray, List.set_cons_zero, List.set_cons_succ]
        (refine wpAnyS_free 2 (v := ?_) rfl (by kernel_rfl) (by kernel_rfl) (by kernel_rfl) (by simp) (fun _ _ _ h => h) (Or.inl ⟨by rfl, ?_⟩) hS (fun hS => ?_); rotate_left)
        · ((intro w; go_simp) <;> with_reducible rfl)
        try simp only [List.getElem_toArray, List.getElem_cons_succ, List.getElem_cons_zero, Act.put, List.setIfInBounds_toArray, List.set_cons_zero, List.set_cons_succ]
        (refine wpAnyS_free 3 (v := ?_) rfl (by kernel_rfl) (by kernel_rfl) (by kernel_rfl) (by simp) (fun _ _ _ h => h) (Or.inl ⟨by rfl, ?_⟩) hS (fun hS => ?_); rotate_left)
        · ((intro w; go_simp) <;> with_reducible rfl)
        try simp only [List.getElem_toArray, List.getElem_cons_succ, List.getElem_cons_zero, Act.put, List.setIfInBounds_toArray, List.set_cons_zero, List.set_cons_succ]
        (refine wpAnyS_load 4 11 (v := ?_) (List.mem_singleton.2 rfl) rfl (by kernel_rfl) (by kernel_rfl) (by kernel_rfl) (by kernel_rfl) (by kernel_rfl) (by simp) (fun _ _ _ h => h) (Or.inl ⟨by rfl, ?_⟩) hS (fun hS => ?_); rotate_left)
        · ((intro w hSw; (try dsimp only at hSw); go_simp) <;> with_reducible rfl)
        try simp only [List.getElem_toArray, List.getElem_cons_succ, List.getElem_cons_zero, Act.put, List.setIfInBounds_toArray, List.set_cons_zero, List.set_cons_succ]
        (refine wpAnyS_free 5 (v := ?_) rfl (by kernel_rfl) (by kernel_rfl) (by kernel_rfl) (by simp) (fun _ _ _ h => h) (Or.inl ⟨by rfl, ?_⟩) hS (fun hS => ?_); rotate_left)
        · ((intro w; go_simp) <;> with_reducible rfl)
        try simp only [List.getElem_toArray, List.getElem_cons_succ, List.getElem_cons_zero, Act.put, List.setIfInBounds_toArray, List.set_cons_zero, List.set_cons_succ]
        (refine wpAnyS_load 6 11 (v := ?_) (List.mem_singleton.2 rfl) rfl (by kernel_rfl) (by kernel_rfl) (by kernel_rfl) (by kernel_rfl) (by kernel_rfl) (by simp) (fun _ _ _ h => h) (Or.inl ⟨by rfl, ?_⟩) hS (fun hS => ?_); rotate_left)
        · ((intro w hSw; (try dsimp only at hSw); go_simp) <;> with_reducible rfl)
        try simp only [List.getElem_toArray, List.getElem_cons_succ, List.getElem_cons_zero, Act.put, List.setIfInBounds_toArray, List.set_cons_zero, List.set_cons_succ]
        refine wpAnyS_one 7 rfl (by kernel_rfl) (by rfl) (fun K hK => ?_)
        go_simp
        refine hK.out _ _ (SL.cons ⟨cell_aw (cell_dw dF) _, cell_aw (cell_dw dN) _⟩ SL.nil) (fun hS => ?_)
        clear hK K
        try simp only [List.getElem_toArray, List.getElem_cons_succ, List.getElem_cons_zero, Act.put, List.setIfInBounds_toArray, List.set_cons_zero, List.set_cons_succ]
        refine wpAnyS_one 8 rfl (by kernel_rfl) (by rfl) (fun K hK => ?_)
        refine wp_push (HM1.out.drew.alloc (.cells #[.string s] TSt)).r1 (blk_new wr.drew _) _ _ rfl rfl rfl (by have := HM1.out.kh; have := HM1.out.ko; have := HM1.out.kk; omega) (by have := HM1.out.lb.1; have := HM1.out.lt; simp; omega) ?_
        intro g' cap' w2 hns hgrow hor
        obtain ⟨hb2, hkeep, hmP, htP⟩ := HM1.out.drew.push_own (s := s) ((Below.refl _ _).alloc (Nat.le_refl _) _) hns hgrow hor (by have := HKK.out; have := HC1.out; omega)
        have HMP := Lib.hid hmP
        have HTP : Hid (HTr wr B b mu hA1 oA1 (w2.setCell ⟨b, 4, none⟩ (.slice (some ⟨g', 0, none⟩) (h1.own.length + 1) cap')) hA1 (some ⟨g', 0, none⟩)) := Lib.hid ((HTr.refl _ _ _ _ _ _).drew.trans htP)
        have dF2 : w2.cell? ⟨b, 4, none⟩ = some (.slice oA1 h1.own.length oc1) := (blk_cell (hb2.trans HM1.out.blk) 4).trans rfl
        have fF2 : w2.frozen? ⟨b, 4, none⟩ = false := blk_frozen (hb2.trans HM1.out.blk) 4
        have HX2 : Hid (w2.heap[S0]? = some (sbx X)) := Lib.hid ((hkeep S0 (lt_heap HXr.out) (fun e => by obtain ⟨_, _, cur, h3⟩ := HM1.out.r1.lt e; exact cells_ne h3 HXr.out (by decide) rfl)).trans HXr.out)
        have dN2 : w2.cell? ⟨S0, 1, none⟩ = some (.string s) := (blk_cell HX2.out 1).trans (by rw [hX]; rfl)
        clear hns hgrow hor hb2 hkeep hmP htP
        refine hK.out _ _ (SL.cons ⟨dF2, dN2⟩ SL.nil) (fun hS => ?_)
        clear hK K
        try simp only [List.getElem_toArray, List.getElem_cons_succ, List.getElem_cons_zero, Act.put, List.setIfInBounds_toArray, List.set_cons_zero, List.set_cons_succ]
        (refine wpAnyS_free 9 (v := ?_) rfl (by kernel_rfl) (by kernel_rfl) (by kernel_rfl) (by simp) (fun _ _ _ h => h) (Or.inl ⟨by rfl, ?_⟩) hS (fun hS => ?_); rotate_left)
        · ((intro w; go_simp) <;> with_reducible rfl)
        try simp only [List.getElem_toArray, List.getElem_cons_succ, List.getElem_cons_zero, Act.put, List.setIfInBounds_toArray, List.set_cons_zero, List.set_cons_succ]
        (refine wpAnyS_free 10 (v := ?_) rfl (by kernel_rfl) (by kernel_rfl) (by kernel_rfl) (by simp) (fun _ _ _ h => h) (Or.inl ⟨by rfl, ?_⟩) hS (fun hS => ?_); rotate_left)
        · ((intro w; go_simp) <;> with_reducible rfl)
        try simp only [List.getElem_toArray, List.getElem_cons_succ, List.getElem_cons_zero, Act.put, List.setIfInBounds_toArray, List.set_cons_zero, List.set_cons_succ]
        refine wpAnyS_one 11 rfl (by kernel_rfl) (by rfl) (fun K hK => ?_)
        go_simp
        refine hK.out _ _ (SL.past (by kernel_rfl) SL.nil) (fun hS => ?_)
        clear hK K
        try simp only [List.getElem_toArray, List.getElem_cons_succ, List.getElem_cons_zero, Act.put, List.setIfInBounds_toArray, List.set_cons_zero, List.set_cons_succ]
        refine wpAnyS_done (by kernel_rfl) ?_ _
        clear dF dN dF2 fF2 dN2
        obtain ⟨w5, hw5⟩ : ∃ w5, w5 = w2.setCell ⟨b, 4, none⟩ (.slice (some ⟨g', 0, none⟩) (h1.own.length + 1) cap') := ⟨_, rfl⟩
        have HX5 : Hid (w5.heap[S0]? = some (sbx X)) := Lib.hid (by rw [hw5]; exact (Below.heap_setCell w2 ⟨b, 4, none⟩ _ S0 (HM1.out.far HXr.out).1).trans HX2.out)
        rw [← hw5] at HMP HTP
        rw [← hw5]
        clear hw5 HX2
        have y4 : w5.cell? ⟨S0, 4, none⟩ = some (.slice bA bn bc) := (blk_cell HX5.out 4).trans (by rw [hX]; rfl)
        have y6 : w5.cell? ⟨S0, 6, none⟩ = some (.int .i64 p) := (blk_cell HX5.out 6).trans (by rw [hX]; rfl)
        have hS05 := lt_heap HX5.out
        have HSA := Lib.hid (HB.out w5 B b mb mu by' th { h1 with own := h1.own ++ [s] } _ hA1 hc1 (some ⟨g', 0, none⟩) cap' bA bn bc p HMP.out (HBBr.out.low HTP.out.bel) hsb (by have := HKK.out; have := HC1.out; omega))
        cases hs1 : samep (hblk by' th body) p { h1 with own := h1.own ++ [s] } with
        | error p' =>
          rw [hs1] at HSA HRk
          go_upto_region 23 with (go_at_call 59; refine HSA.out.mono ?_; rintro e w4 ⟨u, rfl, hu, h9, hA9, hc9, oA9, oc9, hm9, ht9⟩; have HU := Lib.hid hu; have HM9 := Lib.hid hm9; have HT9 := Lib.hid ht9; obtain ⟨gF, rfl, _⟩ := hu; clear hm9 ht9)
          have tF : w4.cell? ⟨b, 4, none⟩ = some (.slice oA9 h9.own.length oc9) := (blk_cell HM9.out.blk 4).trans rfl
          have tcap := HM9.out.r1.cap
          have tsm := HM9.out.ko
          have tsk := HM9.out.kk
          have twrap : IntKind.i64.wrap ((h9.own.length : Int) - 1) = (h9.own.length : Int) - 1 := IntWalk.i64_in _ (by omega)
          have tmax : max (0 : Int) ((h9.own.length : Int) - 1) = ((h9.own.length - 1 : Nat) : Int) := by omega
          have tle : h9.own.length - 1 ≤ oc9 := by omega
          refine wp_region_S [(15, fun w0 => w0.cell? ⟨b, 4, none⟩ = some (.slice oA9 h9.own.length oc9))] (by kernel_rfl) (SL.cons (cell_dw tF) SL.nil) (fun hS => ?_)
          (refine wpAnyS_free 0 (v := ?_) rfl (by kernel_rfl) (by kernel_rfl) (by kernel_rfl) (by simp) (fun _ _ _ h => h) (Or.inl ⟨by rfl, ?_⟩) hS (fun hS => ?_); rotate_left)
          · ((intro w; go_simp) <;> with_reducible rfl)
          try simp only [List.getElem_toArray, List.getElem_cons_succ, List.getElem_cons_zero, Act.put, List.setIfInBounds_toArray, List.set_cons_zero, List.set_cons_succ]
          (refine wpAnyS_free 1 (v := ?_) rfl (by kernel_rfl) (by kernel_rfl) (by kernel_rfl) (by simp) (fun _ _ _ h => h) (Or.inl ⟨by rfl, ?_⟩) hS (fun hS => ?_); rotate_left)
          · ((intro w; go_simp) <;> with_reducible rfl)
          try simp only [List.getElem_toArray, List.getElem_cons_succ, List.getElem_cons_zero, Act.put, List.setIfInBounds_toArray, List.set_cons_zero, List.set_cons_succ]
          (refine wpAnyS_free 2 (v := ?_) rfl (by kernel_rfl) (by kernel_rfl) (by kernel_rfl) (by simp) (fun _ _ _ h => h) (Or.inl ⟨by rfl, ?_⟩) hS (fun hS => ?_); rotate_left)
          · ((intro w; go_simp) <;> with_reducible rfl)
          try simp only [List.getElem_toArray, List.getElem_cons_succ, List.getElem_cons_zero, Act.put, List.setIfInBounds_toArray, List.set_cons_zero, List.set_cons_succ]
          (refine wpAnyS_free 3 (v := ?_) rfl (by kernel_rfl) (by kernel_rfl) (by kernel_rfl) (by simp) (fun _ _ _ h => h) (Or.inl ⟨by rfl, ?_⟩) hS (fun hS => ?_); rotate_left)
          · ((intro w; go_simp) <;> with_reducible rfl)
          try simp only [List.getElem_toArray, List.getElem_cons_succ, List.getElem_cons_zero, Act.put, List.setIfInBounds_toArray, List.set_cons_zero, List.set_cons_succ]
          (refine wpAnyS_load 4 15 (v := ?_) (List.mem_singleton.2 rfl) rfl (by kernel_rfl) (by kernel_rfl) (by kernel_rfl) (by kernel_rfl) (by kernel_rfl) (by simp) (fun _ _ _ h => h) (Or.inl ⟨by rfl, ?_⟩) hS (fun hS => ?_); rotate_left)
          · ((intro w hSw; (try dsimp only at hSw); go_simp) <;> with_reducible rfl)
          try simp only [List.getElem_toArray, List.getElem_cons_succ, List.getElem_cons_zero, Act.put, List.setIfInBounds_toArray, List.set_cons_zero, List.set_cons_succ]
          (refine wpAnyS_free 5 (v := ?_) rfl (by kernel_rfl) (by kernel_rfl) (by kernel_rfl) (by simp) (fun _ _ _ h => h) (Or.inl ⟨by rfl, ?_⟩) hS (fun hS => ?_); rotate_left)
          · ((intro w; go_simp) <;> with_reducible rfl)
          try simp only [List.getElem_toArray, List.getElem_cons_succ, List.getElem_cons_zero, Act.put, List.setIfInBounds_toArray, List.set_cons_zero, List.set_cons_succ]
          (refine wpAnyS_free 6 (v := ?_) rfl (by kernel_rfl) (by kernel_rfl) (by kernel_rfl) (by simp) (fun _ _ _ h => h) (Or.inl ⟨by rfl, ?_⟩) hS (fun hS => ?_); rotate_left)
          · ((intro w; go_simp) <;> with_reducible rfl)
          try simp only [List.getElem_toArray, List.getElem_cons_succ, List.getElem_cons_zero, Act.put, List.setIfInBounds_toArray, List.set_cons_zero, List.set_cons_succ]
          (refine wpAnyS_free 7 (v := ?_) rfl (by kernel_rfl) (by kernel_rfl) (by kernel_rfl) (by simp) (fun _ _ _ h => h) (Or.inl ⟨by rfl, ?_⟩) hS (fun hS => ?_); rotate_left)
          · ((intro w; go_simp) <;> with_reducible rfl)
          try simp only [List.getElem_toArray, List.getElem_cons_succ, List.getElem_cons_zero, Act.put, List.setIfInBounds_toArray, List.set_cons_zero, List.set_cons_succ]
          (refine wpAnyS_load 8 15 (v := ?_) (List.mem_singleton.2 rfl) rfl (by kernel_rfl) (by kernel_rfl) (by kernel_rfl) (by kernel_rfl) (by kernel_rfl) (by simp) (fun _ _ _ h => h) (Or.inl ⟨by rfl, ?_⟩) hS (fun hS => ?_); rotate_left)
          · ((intro w hSw; (try dsimp only at hSw); go_simp) <;> with_reducible rfl)
          try simp only [List.getElem_toArray, List.getElem_cons_succ, List.getElem_cons_zero, Act.put, List.setIfInBounds_toArray, List.set_cons_zero, List.set_cons_succ]
          (refine wpAnyS_free 9 (v := ?_) rfl (by kernel_rfl) (by kernel_rfl) (by kernel_rfl) (by simp) (fun _ _ _ h => h) (Or.inl ⟨by rfl, ?_⟩) hS (fun hS => ?_); rotate_left)
          · ((intro w; go_simp) <;> with_reducible rfl)
          try simp only [List.getElem_toArray, List.getElem_cons_succ, List.getElem_cons_zero, Act.put, List.setIfInBounds_toArray, List.set_cons_zero, List.set_cons_succ]
          (refine wpAnyS_free 10 (v := ?_) rfl (by kernel_rfl) (by kernel_rfl) (by kernel_rfl) (by simp) (fun _ _ _ h => h) (Or.inl ⟨by rfl, ?_⟩) hS (fun hS => ?_); rotate_left)
          · ((intro w; go_simp) <;> with_reducible rfl)
          try simp only [List.getElem_toArray, List.getElem_cons_succ, List.getElem_cons_zero, Act.put, List.setIfInBounds_toArray, List.set_cons_zero, List.set_cons_succ]
          (refine wpAnyS_free 11 (v := ?_) rfl (by kernel_rfl) (by kernel_rfl) (by kernel_rfl) (by simp) (fun _ _ _ h => h) (Or.inl ⟨by rfl, ?_⟩) hS (fun hS => ?_); rotate_left)
          · ((intro w; go_simp) <;> with_reducible rfl)
          try simp only [List.getElem_toArray, List.getElem_cons_succ, List.getElem_cons_zero, Act.put, List.setIfInBounds_toArray, List.set_cons_zero, List.set_cons_succ]
          (refine wpAnyS_free 12 (v := ?_) rfl (by kernel_rfl) (by kernel_rfl) (by kernel_rfl) (by simp) (fun _ _ _ h => h) (Or.inl ⟨by rfl, ?_⟩) hS (fun hS => ?_); rotate_left)
          · ((intro w; go_simp) <;> with_reducible rfl)
          try simp only [List.getElem_toArray, List.getElem_cons_succ, List.getElem_cons_zero, Act.put, List.setIfInBounds_toArray, List.set_cons_zero, List.set_cons_succ]
          have tF1 := blk_frozen HM9.out.blk 4
          (refine wpAnyS_free 13 (v := ?_) rfl (by kernel_rfl) (by kernel_rfl) (by kernel_rfl) (by simp) (fun _ _ _ h => h) (Or.inl ⟨by rfl, ?_⟩) hS (fun hS => ?_); rotate_left)
          · ((intro w; go_simp) <;> with_reducible rfl)
          try simp only [List.getElem_toArray, List.getElem_cons_succ, List.getElem_cons_zero, Act.put, List.setIfInBounds_toArray, List.set_cons_zero, List.set_cons_succ]
          (refine wpAnyS_free 14 (v := ?_) rfl (by kernel_rfl) (by kernel_rfl) (by kernel_rfl) (by simp) (fun _ _ _ h => h) (Or.inl ⟨by rfl, ?_⟩) hS (fun hS => ?_); rotate_left)
          · ((intro w; go_simp) <;> with_reducible rfl)
          try simp only [List.getElem_toArray, List.getElem_cons_succ, List.getElem_cons_zero, Act.put, List.setIfInBounds_toArray, List.set_cons_zero, List.set_cons_succ]
          refine wpAnyS_one 15 rfl (by kernel_rfl) (by rfl) (fun K hK => ?_)
          go_simp
          refine hK.out _ _ (SL.past (by kernel_rfl) SL.nil) (fun hS => ?_)
          clear hK K
          try simp only [List.getElem_toArray, List.getElem_cons_succ, List.getElem_cons_zero, Act.put, List.setIfInBounds_toArray, List.set_cons_zero, List.set_cons_succ]
          refine wpAnyS_done (by kernel_rfl) ?_ _
          go_wp2
          go_ret
          have hcut := HM9.out.cut (h' := { h9 with own := h9.own.take (h9.own.length - 1) }) (i := 4) (v := .slice oA9 (h9.own.length - 1) oc9) rfl ⟨Nat.le_refl _, by simp⟩ ⟨by simp, by simp⟩ (by simp)
          rw [HRk.out]
          exact ⟨_, rfl, HU.out.cut HM9.out, _, hA9, hc9, oA9, oc9, hcut.1.drew.mono (by have := HKK.out; have := HC1.out; omega) (by have := HKK.out; omega), (((HT0.out.trans HT1.out).trans HTP.out).trans HT9.out).trans hcut.2.drew⟩
        | ok h4 =>
          rw [hs1] at HSA HRk
          go_upto_region 23 with (go_at_call 59; refine HSA.out.mono ?_; rintro e w4 ⟨rfl, hA4, hc4, oA4, oc4, hm4, ht4⟩; have HM4 := Lib.hid hm4; have HT4 := Lib.hid ht4; clear hm4 ht4)
          have tF : w4.cell? ⟨b, 4, none⟩ = some (.slice oA4 h4.own.length oc4) := (blk_cell HM4.out.blk 4).trans rfl
          have tcap := HM4.out.r1.cap
          have tsm := HM4.out.ko
          have tsk := HM4.out.kk
          have twrap : IntKind.i64.wrap ((h4.own.length : Int) - 1) = (h4.own.length : Int) - 1 := IntWalk.i64_in _ (by omega)
          have tmax : max (0 : Int) ((h4.own.length : Int) - 1) = ((h4.own.length - 1 : Nat) : Int) := by omega
          have tle : h4.own.length - 1 ≤ oc4 := by omega
          refine wp_region_S [(15, fun w0 => w0.cell? ⟨b, 4, none⟩ = some (.slice oA4 h4.own.length oc4))] (by kernel_rfl) (SL.cons (cell_dw tF) SL.nil) (fun hS => ?_)
          (refine wpAnyS_free 0 (v := ?_) rfl (by kernel_rfl) (by kernel_rfl) (by kernel_rfl) (by simp) (fun _ _ _ h => h) (Or.inl ⟨by rfl, ?_⟩) hS (fun hS => ?_); rotate_left)
          · ((intro w; go_simp) <;> with_reducible rfl)
          try simp only [List.getElem_toArray, List.getElem_cons_succ, List.getElem_cons_zero, Act.put, List.setIfInBounds_toArray, List.set_cons_zero, List.set_cons_succ]
          (refine wpAnyS_free 1 (v := ?_) rfl (by kernel_rfl) (by kernel_rfl) (by kernel_rfl) (by simp) (fun _ _ _ h => h) (Or.inl ⟨by rfl, ?_⟩) hS (fun hS => ?_); rotate_left)
          · ((intro w; go_simp) <;> with_reducible rfl)
          try simp only [List.getElem_toArray, List.getElem_cons_succ, List.getElem_cons_zero, Act.put, List.setIfInBounds_toArray, List.set_cons_zero, List.set_cons_succ]
          (refine wpAnyS_free 2 (v := ?_) rfl (by kernel_rfl) (by kernel_rfl) (by kernel_rfl) (by simp) (fun _ _ _ h => h) (Or.inl ⟨by rfl, ?_⟩) hS (fun hS => ?_); rotate_left)
          · ((intro w; go_simp) <;> with_reducible rfl)
          try simp only [List.getElem_toArray, List.getElem_cons_succ, List.getElem_cons_zero, Act.put, List.setIfInBounds_toArray, List.set_cons_zero, List.set_cons_succ]
          (refine wpAnyS_free 3 (v := ?_) rfl (by kernel_rfl) (by kernel_rfl) (by kernel_rfl) (by simp) (fun _ _ _ h => h) (Or.inl ⟨by rfl, ?_⟩) hS (fun hS => ?_); rotate_left)
          · ((intro w; go_simp) <;> with_reducible rfl)
          try simp only [List.getElem_toArray, List.getElem_cons_succ, List.getElem_cons_zero, Act.put, List.setIfInBounds_toArray, List.set_cons_zero, List.set_cons_succ]
          (refine wpAnyS_load 4 15 (v := ?_) (List.mem_singleton.2 rfl) rfl (by kernel_rfl) (by kernel_rfl) (by kernel_rfl) (by kernel_rfl) (by kernel_rfl) (by simp) (fun _ _ _ h => h) (Or.inl ⟨by rfl, ?_⟩) hS (fun hS => ?_); rotate_left)
          · ((intro w hSw; (try dsimp only at hSw); go_simp) <;> with_reducible rfl)
          try simp only [List.getElem_toArray, List.getElem_cons_succ, List.getElem_cons_zero, Act.put, List.setIfInBounds_toArray, List.set_cons_zero, List.set_cons_succ]
          (refine wpAnyS_free 5 (v := ?_) rfl (by kernel_rfl) (by kernel_rfl) (by kernel_rfl) (by simp) (fun _ _ _ h => h) (Or.inl ⟨by rfl, ?_⟩) hS (fun hS => ?_); rotate_left)
          · ((intro w; go_simp) <;> with_reducible rfl)
          try simp only [List.getElem_toArray, List.getElem_cons_succ, List.getElem_cons_zero, Act.put, List.setIfInBounds_toArray, List.set_cons_zero, List.set_cons_succ]
          (refine wpAnyS_free 6 (v := ?_) rfl (by kernel_rfl) (by kernel_rfl) (by kernel_rfl) (by simp) (fun _ _ _ h => h) (Or.inl ⟨by rfl, ?_⟩) hS (fun hS => ?_); rotate_left)
          · ((intro w; go_simp) <;> with_reducible rfl)
          try simp only [List.getElem_toArray, List.getElem_cons_succ, List.getElem_cons_zero, Act.put, List.setIfInBounds_toArray, List.set_cons_zero, List.set_cons_succ]
          (refine wpAnyS_free 7 (v := ?_) rfl (by kernel_rfl) (by kernel_rfl) (by kernel_rfl) (by simp) (fun _ _ _ h => h) (Or.inl ⟨by rfl, ?_⟩) hS (fun hS => ?_); rotate_left)
          · ((intro w; go_simp) <;> with_reducible rfl)
          try simp only [List.getElem_toArray, List.getElem_cons_succ, List.getElem_cons_zero, Act.put, List.setIfInBounds_toArray, List.set_cons_zero, List.set_cons_succ]
          (refine wpAnyS_load 8 15 (v := ?_) (List.mem_singleton.2 rfl) rfl (by kernel_rfl) (by kernel_rfl) (by kernel_rfl) (by kernel_rfl) (by kernel_rfl) (by simp) (fun _ _ _ h => h) (Or.inl ⟨by rfl, ?_⟩) hS (fun hS => ?_); rotate_left)
          · ((intro w hSw; (try dsimp only at hSw); go_simp) <;> with_reducible rfl)
          try simp only [List.getElem_toArray, List.getElem_cons_succ, List.getElem_cons_zero, Act.put, List.setIfInBounds_toArray, List.set_cons_zero, List.set_cons_succ]
          (refine wpAnyS_free 9 (v := ?_) rfl (by kernel_rfl) (by kernel_rfl) (by kernel_rfl) (by simp) (fun _ _ _ h => h) (Or.inl ⟨by rfl, ?_⟩) hS (fun hS => ?_); rotate_left)
          · ((intro w; go_simp) <;> with_reducible rfl)
          try simp only [List.getElem_toArray, List.getElem_cons_succ, List.getElem_cons_zero, Act.put, List.setIfInBounds_toArray, List.set_cons_zero, List.set_cons_succ]
          (refine wpAnyS_free 10 (v := ?_) rfl (by kernel_rfl) (by kernel_rfl) (by kernel_rfl) (by simp) (fun _ _ _ h => h) (Or.inl ⟨by rfl, ?_⟩) hS (fun hS => ?_); rotate_left)
          · ((intro w; go_simp) <;> with_reducible rfl)
          try simp only [List.getElem_toArray, List.getElem_cons_succ, List.getElem_cons_zero, Act.put, List.setIfInBounds_toArray, List.set_cons_zero, List.set_cons_succ]
          (refine wpAnyS_free 11 (v := ?_) rfl (by kernel_rfl) (by kernel_rfl) (by kernel_rfl) (by simp) (fun _ _ _ h => h) (Or.inl ⟨by rfl, ?_⟩) hS (fun hS => ?_); rotate_left)
          · ((intro w; go_simp) <;> with_reducible rfl)
          try simp only [List.getElem_toArray, List.getElem_cons_succ, List.getElem_cons_zero, Act.put, List.setIfInBounds_toArray, List.set_cons_zero, List.set_cons_succ]
          (refine wpAnyS_free 12 (v := ?_) rfl (by kernel_rfl) (by kernel_rfl) (by kernel_rfl) (by simp) (fun _ _ _ h => h) (Or.inl ⟨by rfl, ?_⟩) hS (fun hS => ?_); rotate_left)
          · ((intro w; go_simp) <;> with_reducible rfl)
          try simp only [List.getElem_toArray, List.getElem_cons_succ, List.getElem_cons_zero, Act.put, List.setIfInBounds_toArray, List.set_cons_zero, List.set_cons_succ]
          have tF1 := blk_frozen HM4.out.blk 4
          (refine wpAnyS_free 13 (v := ?_) rfl (by kernel_rfl) (by kernel_rfl) (by kernel_rfl) (by simp) (fun _ _ _ h => h) (Or.inl ⟨by rfl, ?_⟩) hS (fun hS => ?_); rotate_left)
          · ((intro w; go_simp) <;> with_reducible rfl)
          try simp only [List.getElem_toArray, List.getElem_cons_succ, List.getElem_cons_zero, Act.put, List.setIfInBounds_toArray, List.set_cons_zero, List.set_cons_succ]
          (refine wpAnyS_free 14 (v := ?_) rfl (by kernel_rfl) (by kernel_rfl) (by kernel_rfl) (by simp) (fun _ _ _ h => h) (Or.inl ⟨by rfl, ?_⟩) hS (fun hS => ?_); rotate_left)
          · ((intro w; go_simp) <;> with_reducible rfl)
          try simp only [List.getElem_toArray, List.getElem_cons_succ, List.getElem_cons_zero, Act.put, List.setIfInBounds_toArray, List.set_cons_zero, List.set_cons_succ]
          refine wpAnyS_one 15 rfl (by kernel_rfl) (by rfl) (fun K hK => ?_)
          go_simp
          refine hK.out _ _ (SL.past (by kernel_rfl) SL.nil) (fun hS => ?_)
          clear hK K
          try simp only [List.getElem_toArray, List.getElem_cons_succ, List.getElem_cons_zero, Act.put, List.setIfInBounds_toArray, List.set_cons_zero, List.set_cons_succ]
          refine wpAnyS_done (by kernel_rfl) ?_ _
          go_wp2
          go_ret
          have hcut := HM4.out.cut (h' := { h4 with own := h4.own.take (h4.own.length - 1) }) (i := 4) (v := .slice oA4 (h4.own.length - 1) oc4) rfl ⟨Nat.le_refl _, by simp⟩ ⟨by simp, by simp⟩ (by simp)
          rw [HRk.out]
          exact ⟨rfl, hA4, hc4, oA4, oc4, hcut.1.drew.mono (by have := HKK.out; have := HC1.out; omega) (by have := HKK.out; omega), (((HT0.out.trans HT1.out).trans HTP.out).trans HT4.out).trans hcut.2.drew⟩
      · subst hk0
        have HRk : Hid (r = if memS s h1.held then .error p else .ok { h1 with held := h1.held ++ [s] }) := HR1
        have zF : wr.cell? ⟨b, 3, none⟩ = some (.slice hA1 h1.held.length hc1) := (blk_cell HM1.out.blk 3).trans rfl
        have HCO := Lib.hid (contains_calls HM1.out.drew.r0 s rfl)
        have HMd : Hid (HMx wr.drew B b mb mu by' th h1 _ hA1 hc1 oA1 oc1) := Lib.hid HM1.out.drew
        have HTd : Hid (HTr W0 B b mu hA oA wr.drew hA1 oA1) := Lib.hid HT1.out.drew
        have HXd : Hid (wr.drew.heap[S0]? = some (sbx X)) := Lib.hid HXr.out
        go_upto_region 26 with fail
        refine wp_region_S [(6, fun w0 => w0.cell? ⟨b, 3, none⟩ = some (.slice hA1 h1.held.length hc1) ∧ w0.cell? ⟨S0, 1, none⟩ = some (.string s))] (by kernel_rfl) (SL.cons ⟨cell_dw zF, cell_dw x1⟩ SL.nil) (fun hS => ?_)
        (refine wpAnyS_free 0 (v := ?_) rfl (by kernel_rfl) (by kernel_rfl) (by kernel_rfl) (by simp) (fun _ _ _ h => h) (Or.inl ⟨by rfl, ?_⟩) hS (fun hS => ?_); rotate_left)
        · ((intro w; go_simp) <;> with_reducible rfl)
        try simp only [List.getElem_toArray, List.getElem_cons_succ, List.getElem_cons_zero, Act.put, List.setIfInBounds_toArray, List.set_cons_zero, List.set_cons_succ]
        (refine wpAnyS_free 1 (v := ?_) rfl (by kernel_rfl) (by kernel_rfl) (by kernel_rfl) (by simp) (fun _ _ _ h => h) (Or.inl ⟨by rfl, ?_⟩) hS (fun hS => ?_); rotate_left)
        · ((intro w; go_simp) <;> with_reducible rfl)
        try simp only [List.getElem_toArray, List.getElem_cons_succ, List.getElem_cons_zero, Act.put, List.setIfInBounds_toArray, List.set_cons_zero, List.set_cons_succ]
        (refine wpAnyS_free 2 (v := ?_) rfl (by kernel_rfl) (by kernel_rfl) (by kernel_rfl) (by simp) (fun _ _ _ h => h) (Or.inl ⟨by rfl, ?_⟩) hS (fun hS => ?_); rotate_left)
        · ((intro w; go_simp) <;> with_reducible rfl)
        try simp only [List.getElem_toArray, List.getElem_cons_succ, List.getElem_cons_zero, Act.put, List.setIfInBounds_toArray, List.set_cons_zero, List.set_cons_succ]
        (refine wpAnyS_load 3 6 (v := ?_) (List.mem_singleton.2 rfl) rfl (by kernel_rfl) (by kernel_rfl) (by kernel_rfl) (by kernel_rfl) (by kernel_rfl) (by simp) (fun _ _ _ h => h) (Or.inl ⟨by rfl, ?_⟩) hS (fun hS => ?_); rotate_left)
        · ((intro w hSw; (try dsimp only at hSw); go_simp) <;> with_reducible rfl)
        try simp only [List.getElem_toArray, List.getElem_cons_succ, List.getElem_cons_zero, Act.put, List.setIfInBounds_toArray, List.set_cons_zero, List.set_cons_succ]
        (refine wpAnyS_free 4 (v := ?_) rfl (by kernel_rfl) (by kernel_rfl) (by kernel_rfl) (by simp) (fun _ _ _ h => h) (Or.inl ⟨by rfl, ?_⟩) hS (fun hS => ?_); rotate_left)
        · ((intro w; go_simp) <;> with_reducible rfl)
        try simp only [List.getElem_toArray, List.getElem_cons_succ, List.getElem_cons_zero, Act.put, List.setIfInBounds_toArray, List.set_cons_zero, List.set_cons_succ]
        (refine wpAnyS_load 5 6 (v := ?_) (List.mem_singleton.2 rfl) rfl (by kernel_rfl) (by kernel_rfl) (by kernel_rfl) (by kernel_rfl) (by kernel_rfl) (by simp) (fun _ _ _ h => h) (Or.inl ⟨by rfl, ?_⟩) hS (fun hS => ?_); rotate_left)
        · ((intro w hSw; (try dsimp only at hSw); go_simp) <;> with_reducible rfl)
        try simp only [List.getElem_toArray, List.getElem_cons_succ, List.getElem_cons_zero, Act.put, List.setIfInBounds_toArray, List.set_cons_zero, List.set_cons_succ]
        refine wpAnyS_one 6 rfl (by kernel_rfl) (by rfl) (fun K hK => ?_)
        go_simp
        refine HCO.out.mono ?_
        rintro e w4 ⟨rfl, rfl⟩
        refine hK.out _ _ (SL.past (by kernel_rfl) SL.nil) (fun hS => ?_)
        clear hK K
        try simp only [List.getElem_toArray, List.getElem_cons_succ, List.getElem_cons_zero, Act.put, List.setIfInBounds_toArray, List.set_cons_zero, List.set_cons_succ]
        refine wpAnyS_done (by kernel_rfl) ?_ _
        clear x0 x1 x4 x5 x6 zF
        obtain ⟨wv, hwv⟩ : ∃ wv, wv = wr.drew := ⟨_, rfl⟩
        rw [← hwv] at HMd HTd HXd
        rw [← hwv]
        clear hwv HM1 HT1 HXr HCO
        have xd1 : wv.cell? ⟨S0, 1, none⟩ = some (.string s) := (blk_cell HXd.out 1).trans (by rw [hX]; rfl)
        have xd6 : wv.cell? ⟨S0, 6, none⟩ = some (.int .i64 p) := (blk_cell HXd.out 6).trans (by rw [hX]; rfl)
        have hSv := lt_heap HXd.out
        cases hmh : memS s h1.held with
        | true =>
          rw [hmh] at HRk
          go_wp2_with (go_at_call 46; refine (wrapI_calls 5 p _).mono ?_; rintro e w6 ⟨rfl, rfl⟩)
          go_ret
          rw [HRk.out, if_pos (by simp)]
          exact ⟨_, rfl, ⟨_, rfl, blk_new _ _⟩, h1, hA1, hc1, oA1, oc1, (HMd.out.alloc _).mono (by have := HKK.out; have := HC1.out; omega) (by have := HKK.out; omega), (HT0.out.trans HTd.out).more ((Below.refl _ _).alloc (Nat.le_refl _) _) HBw.out⟩
        | false =>
          rw [hmh] at HRk
          go_wp2
          have dF : wv.cell? ⟨b, 3, none⟩ = some (.slice hA1 h1.held.length hc1) := (blk_cell HMd.out.blk 3).trans rfl
          have dN := xd1
          refine wp_region_S [(11, fun w0 => w0.cell? ⟨b, 3, none⟩ = some (.slice hA1 h1.held.length hc1) ∧ w0.cell? ⟨S0, 1, none⟩ = some (.string s))] (by kernel_rfl) (SL.cons ⟨cell_dw dF, cell_dw dN⟩ SL.nil) (fun hS => ?_)
          (refine wpAnyS_free 0 (v := ?_) rfl (by kernel_rfl) (by kernel_rfl) (by kernel_rfl) (by simp) (fun _ _ _ h => h) (Or.inl ⟨by rfl, ?_⟩) hS (fun hS => ?_); rotate_left)
          · ((intro w; go_simp) <;> with_reducible rfl)
          try simp only [List.getElem_toArray, List.getElem_cons_succ, List.getElem_cons_zero, Act.put, List.setIfInBounds_toArray, List.set_cons_zero, List.set_cons_succ]
          (refine wpAnyS_free 1 (v := ?_) rfl (by kernel_rfl) (by kernel_rfl) (by kernel_rfl) (by simp) (fun _ _ _ h => h) (Or.inl ⟨by rfl, ?_⟩) hS (fun hS => ?_); rotate_left)
          · ((intro w; go_simp) <;> with_reducible rfl)
          try simp only [List.getElem_toArray, List.getElem_cons_succ, List.getElem_cons_zero, Act.put, List.setIfInBounds_toArray, List.set_cons_zero, List.set_cons_succ]
          (refine wpAnyS_free 2 (v := ?_) rfl (by kernel_rfl) (by kernel_rfl) (by kernel_rfl) (by simp) (fun _ _ _ h => h) (Or.inl ⟨by rfl, ?_⟩) hS (fun hS => ?_); rotate_left)
          · ((intro w; go_simp) <;> with_reducible rfl)
          try simp only [List.getElem_toArray, List.getElem_cons_succ, List.getElem_cons_zero, Act.put, List.setIfInBounds_toArray, List.set_cons_zero, List.set_cons_succ]
          (refine wpAnyS_free 3 (v := ?_) rfl (by kernel_rfl) (by kernel_rfl) (by kernel_rfl) (by simp) (fun _ _ _ h => h) (Or.inl ⟨by rfl, ?_⟩) hS (fun hS => ?_); rotate_left)
          · ((intro w; go_simp) <;> with_reducible rfl)
          try simp only [List.getElem_toArray, List.getElem_cons_succ, List.getElem_cons_zero, Act.put, List.setIfInBounds_toArray, List.set_cons_zero, List.set_cons_succ]
          (refine wpAnyS_load 4 11 (v := ?_) (List.mem_singleton.2 rfl) rfl (by kernel_rfl) (by kernel_rfl) (by kernel_rfl) (by kernel_rfl) (by kernel_rfl) (by simp) (fun _ _ _ h => h) (Or.inl ⟨by rfl, ?_⟩) hS (fun hS => ?_); rotate_left)
          · ((intro w hSw; (try dsimp only at hSw); go_simp) <;> with_reducible rfl)
          try simp only [List.getElem_toArray, List.getElem_cons_succ, List.getElem_cons_zero, Act.put, List.setIfInBounds_toArray, List.set_cons_zero, List.set_cons_succ]
          (refine wpAnyS_free 5 (v := ?_) rfl (by kernel_rfl) (by kernel_rfl) (by kernel_rfl) (by simp) (fun _ _ _ h => h) (Or.inl ⟨by rfl, ?_⟩) hS (fun hS => ?_); rotate_left)
          · ((intro w; go_simp) <;> with_reducible rfl)
          try simp only [List.getElem_toArray, List.getElem_cons_succ, List.getElem_cons_zero, Act.put, List.setIfInBounds_toArray, List.set_cons_zero, List.set_cons_succ]
          (refine wpAnyS_load 6 11 (v := ?_) (List.mem_singleton.2 rfl) rfl (by kernel_rfl) (by kernel_rfl) (by kernel_rfl) (by kernel_rfl) (by kernel_rfl) (by simp) (fun _ _ _ h => h) (Or.inl ⟨by rfl, ?_⟩) hS (fun hS => ?_); rotate_left)
          · ((intro w hSw; (try dsimp only at hSw); go_simp) <;> with_reducible rfl)
          try simp only [List.getElem_toArray, List.getElem_cons_succ, List.getElem_cons_zero, Act.put, List.setIfInBounds_toArray, List.set_cons_zero, List.set_cons_succ]
          refine wpAnyS_one 7 rfl (by kernel_rfl) (by rfl) (fun K hK => ?_)
          go_simp
          refine hK.out _ _ (SL.cons ⟨cell_aw (cell_dw dF) _, cell_aw (cell_dw dN) _⟩ SL.nil) (fun hS => ?_)
          clear hK K
          try simp only [List.getElem_toArray, List.getElem_cons_succ, List.getElem_cons_zero, Act.put, List.setIfInBounds_toArray, List.set_cons_zero, List.set_cons_succ]
          refine wpAnyS_one 8 rfl (by kernel_rfl) (by rfl) (fun K hK => ?_)
          refine wp_push (HMd.out.drew.alloc (.cells #[.string s] TSt)).r0 (blk_new wv.drew _) _ _ rfl rfl rfl (by have := HMd.out.kh; have := HMd.out.ko; have := HMd.out.kk; omega) (by have := HMd.out.lb.1; have := HMd.out.lt; simp; omega) ?_
          intro g' cap' w2 hns hgrow hor
          obtain ⟨hb2, hkeep, hmP, htP⟩ := HMd.out.drew.push_held (s := s) ((Below.refl _ _).alloc (Nat.le_refl _) _) hns hgrow hor (by have := HKK.out; have := HC1.out; omega)
          have HMP := Lib.hid hmP
          have HTP : Hid (HTr wv B b mu hA1 oA1 (w2.setCell ⟨b, 3, none⟩ (.slice (some ⟨g', 0, none⟩) (h1.held.length + 1) cap')) (some ⟨g', 0, none⟩) oA1) := Lib.hid ((HTr.refl _ _ _ _ _ _).drew.trans htP)
          have dF2 : w2.cell? ⟨b, 3, none⟩ = some (.slice hA1 h1.held.length hc1) := (blk_cell (hb2.trans HMd.out.blk) 3).trans rfl
          have fF2 : w2.frozen? ⟨b, 3, none⟩ = false := blk_frozen (hb2.trans HMd.out.blk) 3
          have HX2 : Hid (w2.heap[S0]? = some (sbx X)) := Lib.hid ((hkeep S0 (lt_heap HXd.out) (fun e => by obtain ⟨_, _, cur, h3⟩ := HMd.out.r0.lt e; exact cells_ne h3 HXd.out (by decide) rfl)).trans HXd.out)
          have dN2 : w2.cell? ⟨S0, 1, none⟩ = some (.string s) := (blk_cell HX2.out 1).trans (by rw [hX]; rfl)
          clear hns hgrow hor hb2 hkeep hmP htP
          refine hK.out _ _ (SL.cons ⟨dF2, dN2⟩ SL.nil) (fun hS => ?_)
          clear hK K
          try simp only [List.getElem_toArray, List.getElem_cons_succ, List.getElem_cons_zero, Act.put, List.setIfInBounds_toArray, List.set_cons_zero, List.set_cons_succ]
          (refine wpAnyS_free 9 (v := ?_) rfl (by kernel_rfl) (by kernel_rfl) (by kernel_rfl) (by simp) (fun _ _ _ h => h) (Or.inl ⟨by rfl, ?_⟩) hS (fun hS => ?_); rotate_left)
          · ((intro w; go_simp) <;> with_reducible rfl)
          try simp only [List.getElem_toArray, List.getElem_cons_succ, List.getElem_cons_zero, Act.put, List.setIfInBounds_toArray, List.set_cons_zero, List.set_cons_succ]
          (refine wpAnyS_free 10 (v := ?_) rfl (by kernel_rfl) (by kernel_rfl) (by kernel_rfl) (by simp) (fun _ _ _ h => h) (Or.inl ⟨by rfl, ?_⟩) hS (fun hS => ?_); rotate_left)
          · ((intro w; go_simp) <;> with_reducible rfl)
          try simp only [List.getElem_toArray, List.getElem_cons_succ, List.getElem_cons_zero, Act.put, List.setIfInBounds_toArray, List.set_cons_zero, List.set_cons_succ]
          refine wpAnyS_one 11 rfl (by kernel_rfl) (by rfl) (fun K hK => ?_)
          go_simp
          refine hK.out _ _ (SL.past (by kernel_rfl) SL.nil) (fun hS => ?_)
          clear hK K
          try simp only [List.getElem_toArray, List.getElem_cons_succ, List.getElem_cons_zero, Act.put, List.setIfInBounds_toArray, List.set_cons_zero, List.set_cons_succ]
          refine wpAnyS_done (by kernel_rfl) ?_ _
          clear dF dN dF2 fF2 dN2
          go_wp2
          go_ret
          rw [HRk.out, if_neg (by simp)]
          exact ⟨rfl, _, cap', oA1, oc1, HMP.out.mono (by have := HKK.out; have := HC1.out; omega) (by have := HKK.out; omega), (HT0.out.trans HTd.out).trans HTP.out⟩
      · subst hk0
        have HRk : Hid (r = match h1.held.getLast? with
          | none => .error p
          | some x => if beq x s then .ok { h1 with held := h1.held.take (h1.held.length - 1) } else .error p) := HR1
        have zF : wr.cell? ⟨b, 3, none⟩ = some (.slice hA1 h1.held.length hc1) := (blk_cell HM1.out.blk 3).trans rfl
        have zf := blk_frozen HM1.out.blk 3
        have zl := HM1.out.lt
        have zs := lt_heap HXr.out
        have zk := HM1.out.kh
        have zk2 := HM1.out.kk
        cases hgl : h1.held.getLast? with
        | none =>
          rw [hgl] at HRk
          have hnil : h1.held = [] := List.getLast?_eq_none_iff.1 hgl
          have q1 : ((h1.held.length : Int) == 0) = true := by rw [hnil]; rfl
          go_wp2
          refine wp_region_S [] (by kernel_rfl) SL.nil (fun hS => ?_)
          (refine wpAnyS_free 0 (v := ?_) rfl (by kernel_rfl) (by kernel_rfl) (by kernel_rfl) (by simp) (fun _ _ _ h => h) (Or.inl ⟨by rfl, ?_⟩) hS (fun hS => ?_); rotate_left)
          · ((intro w; go_simp) <;> with_reducible rfl)
          try simp only [List.getElem_toArray, List.getElem_cons_succ, List.getElem_cons_zero, Act.put, List.setIfInBounds_toArray, List.set_cons_zero, List.set_cons_succ]
          (refine wpAnyS_free 1 (v := ?_) rfl (by kernel_rfl) (by kernel_rfl) (by kernel_rfl) (by simp) (fun _ _ _ h => h) (Or.inl ⟨by rfl, ?_⟩) hS (fun hS => ?_); rotate_left)
          · ((intro w; go_simp) <;> with_reducible rfl)
          try simp only [List.getElem_toArray, List.getElem_cons_succ, List.getElem_cons_zero, Act.put, List.setIfInBounds_toArray, List.set_cons_zero, List.set_cons_succ]
          (refine wpAnyS_free 2 (v := ?_) rfl (by kernel_rfl) (by kernel_rfl) (by kernel_rfl) (by simp) (fun _ _ _ h => h) (Or.inl ⟨by rfl, ?_⟩) hS (fun hS => ?_); rotate_left)
          · ((intro w; go_simp) <;> with_reducible rfl)
          try simp only [List.getElem_toArray, List.getElem_cons_succ, List.getElem_cons_zero, Act.put, List.setIfInBounds_toArray, List.set_cons_zero, List.set_cons_succ]
          refine wpAnyS_free 3 (v := undef) rfl (by kernel_rfl) (by kernel_rfl) (by kernel_rfl) (by simp) (fun _ _ _ h => h) (Or.inr ⟨by rfl, rfl⟩) hS (fun hS => ?_)
          try simp only [List.getElem_toArray, List.getElem_cons_succ, List.getElem_cons_zero, Act.put, List.setIfInBounds_toArray, List.set_cons_zero, List.set_cons_succ]
          refine wpAnyS_free 4 (v := undef) rfl (by kernel_rfl) (by kernel_rfl) (by kernel_rfl) (by simp) (fun _ _ _ h => h) (Or.inr ⟨by rfl, rfl⟩) hS (fun hS => ?_)
          try simp only [List.getElem_toArray, List.getElem_cons_succ, List.getElem_cons_zero, Act.put, List.setIfInBounds_toArray, List.set_cons_zero, List.set_cons_succ]
          refine wpAnyS_free 5 (v := undef) rfl (by kernel_rfl) (by kernel_rfl) (by kernel_rfl) (by simp) (fun _ _ _ h => h) (Or.inr ⟨by rfl, rfl⟩) hS (fun hS => ?_)
          try simp only [List.getElem_toArray, List.getElem_cons_succ, List.getElem_cons_zero, Act.put, List.setIfInBounds_toArray, List.set_cons_zero, List.set_cons_succ]
          refine wpAnyS_free 6 (v := undef) rfl (by kernel_rfl) (by kernel_rfl) (by kernel_rfl) (by simp) (fun _ _ _ h => h) (Or.inr ⟨by rfl, rfl⟩) hS (fun hS => ?_)
          try simp only [List.getElem_toArray, List.getElem_cons_succ, List.getElem_cons_zero, Act.put, List.setIfInBounds_toArray, List.set_cons_zero, List.set_cons_succ]
          refine wpAnyS_free 7 (v := undef) rfl (by kernel_rfl) (by kernel_rfl) (by kernel_rfl) (by simp) (fun _ _ _ h => h) (Or.inr ⟨by rfl, rfl⟩) hS (fun hS => ?_)
          try simp only [List.getElem_toArray, List.getElem_cons_succ, List.getElem_cons_zero, Act.put, List.setIfInBounds_toArray, List.set_cons_zero, List.set_cons_succ]
          refine wpAnyS_free 8 (v := undef) rfl (by kernel_rfl) (by kernel_rfl) (by kernel_rfl) (by simp) (fun _ _ _ h => h) (Or.inr ⟨by rfl, rfl⟩) hS (fun hS => ?_)
          try simp only [List.getElem_toArray, List.getElem_cons_succ, List.getElem_cons_zero, Act.put, List.setIfInBounds_toArray, List.set_cons_zero, List.set_cons_succ]
          refine wpAnyS_free 9 (v := undef) rfl (by kernel_rfl) (by kernel_rfl) (by kernel_rfl) (by simp) (fun _ _ _ h => h) (Or.inr ⟨by rfl, rfl⟩) hS (fun hS => ?_)
          try simp only [List.getElem_toArray, List.getElem_cons_succ, List.getElem_cons_zero, Act.put, List.setIfInBounds_toArray, List.set_cons_zero, List.set_cons_succ]
          refine wpAnyS_free 10 (v := undef) rfl (by kernel_rfl) (by kernel_rfl) (by kernel_rfl) (by simp) (fun _ _ _ h => h) (Or.inr ⟨by rfl, rfl⟩) hS (fun hS => ?_)
          try simp only [List.getElem_toArray, List.getElem_cons_succ, List.getElem_cons_zero, Act.put, List.setIfInBounds_toArray, List.set_cons_zero, List.set_cons_succ]
          refine wpAnyS_free 11 (v := undef) rfl (by kernel_rfl) (by kernel_rfl) (by kernel_rfl) (by simp) (fun _ _ _ h => h) (Or.inr ⟨by rfl, rfl⟩) hS (fun hS => ?_)
          try simp only [List.getElem_toArray, List.getElem_cons_succ, List.getElem_cons_zero, Act.put, List.setIfInBounds_toArray, List.set_cons_zero, List.set_cons_succ]
          refine wpAnyS_free 12 (v := undef) rfl (by kernel_rfl) (by kernel_rfl) (by kernel_rfl) (by simp) (fun _ _ _ h => h) (Or.inr ⟨by rfl, rfl⟩) hS (fun hS => ?_)
          try simp only [List.getElem_toArray, List.getElem_cons_succ, List.getElem_cons_zero, Act.put, List.setIfInBounds_toArray, List.set_cons_zero, List.set_cons_succ]
          refine wpAnyS_free 13 (v := undef) rfl (by kernel_rfl) (by kernel_rfl) (by kernel_rfl) (by simp) (fun _ _ _ h => h) (Or.inr ⟨by rfl, rfl⟩) hS (fun hS => ?_)
          try simp only [List.getElem_toArray, List.getElem_cons_succ, List.getElem_cons_zero, Act.put, List.setIfInBounds_toArray, List.set_cons_zero, List.set_cons_succ]
          (refine wpAnyS_free 14 (v := ?_) rfl (by kernel_rfl) (by kernel_rfl) (by kernel_rfl) (by simp) (fun _ _ _ h => h) (Or.inl ⟨by rfl, ?_⟩) hS (fun hS => ?_); rotate_left)
          · ((intro w; go_simp) <;> with_reducible rfl)
          try simp only [List.getElem_toArray, List.getElem_cons_succ, List.getElem_cons_zero, Act.put, List.setIfInBounds_toArray, List.set_cons_zero, List.set_cons_succ]
          refine wpAnyS_done (by kernel_rfl) ?_ _
          have x6d := cell_dw x6
          go_wp2_with (go_at_call 46; refine (wrapI_calls 5 p _).mono ?_; rintro e w6 ⟨rfl, rfl⟩)
          go_ret
          rw [HRk.out]
          exact ⟨_, rfl, ⟨_, rfl, blk_new _ _⟩, h1, hA1, hc1, oA1, oc1, (HM1.out.drew.alloc _).mono (by have := HKK.out; have := HC1.out; omega) (by have := HKK.out; omega), (HT0.out.trans HT1.out.drew).more ((Below.refl _ _).alloc (Nat.le_refl _) _) HBw.out⟩
        | some x =>
          rw [hgl] at HRk
          replace HRk : Hid (r = if beq x s then .ok { h1 with held := h1.held.take (h1.held.length - 1) } else .error p) := HRk
          have hlen : 0 < h1.held.length := by cases hh : h1.held with | nil => rw [hh] at hgl; simp at hgl | cons a l => simp
          have q1 : ((h1.held.length : Int) == 0) = false := by rw [beq_eq_false_iff_ne]; omega
          obtain ⟨gH, cur, rfl, _, _, hcp, _, hcells⟩ := (show ∃ g cur, hA1 = some ⟨g, 0, none⟩ ∧ B ≤ g ∧ wr.heap[g]? = some (.cells cur TSt (0, 0)) ∧ h1.held.length ≤ hc1 ∧ hc1 ≤ maxLen ∧ (∀ j, j < h1.held.length → wr.cell? ⟨g, j, none⟩ = some (.string (h1.held.getD j ByteArray.empty))) by
            rcases HM1.out.r0.form with ⟨_, _, e⟩ | e
            · rw [e] at hlen; cases hlen
            · exact e)
          have hx : h1.held.getD (h1.held.length - 1) ByteArray.empty = x := by rw [List.getLast?_eq_getElem?] at hgl; rw [List.getD_eq_getElem?_getD, hgl]; rfl
          have zx := hcells (h1.held.length - 1) (by omega)
          rw [hx] at zx
          have zw : IntKind.i64.wrap ((h1.held.length : Int) - 1) = ((h1.held.length - 1 : Nat) : Int) := (IntWalk.i64_in _ (by omega)).trans (by omega)
          have zl1 : h1.held.length - 1 < h1.held.length := by omega
          clear hcells hx
          cases hq : beq x s with
          | true =>
            rw [hq] at HRk
            have q2 : (x.toList == s.toList) = true := by rw [Lib.toList_data, Lib.toList_data]; exact hq
            have q3 : (x.toList != s.toList) = false := by rw [bne, q2]; rfl
            have hqx : x.toList = s.toList := by simpa using q2
            go_wp2
            refine wp_region_S [(9, fun w0 => w0.cell? ⟨b, 3, none⟩ = some (.slice (some ⟨gH, 0, none⟩) h1.held.length hc1) ∧ w0.cell? ⟨gH, h1.held.length - 1, none⟩ = some (.string x) ∧ w0.cell? ⟨S0, 1, none⟩ = some (.string s)), (13, fun w0 => w0.cell? ⟨b, 3, none⟩ = some (.slice (some ⟨gH, 0, none⟩) h1.held.length hc1) ∧ w0.cell? ⟨gH, h1.held.length - 1, none⟩ = some (.string x) ∧ w0.cell? ⟨S0, 1, none⟩ = some (.string s))] (by kernel_rfl) (SL.cons ⟨cell_dw zF, cell_dw zx, cell_dw x1⟩ (SL.cons ⟨cell_dw zF, cell_dw zx, cell_dw x1⟩ SL.nil)) (fun hS => ?_)
            (refine wpAnyS_free 0 (v := ?_) rfl (by kernel_rfl) (by kernel_rfl) (by kernel_rfl) (by simp) (fun _ _ _ h => h) (Or.inl ⟨by rfl, ?_⟩) hS (fun hS => ?_); rotate_left)
            · ((intro w; go_simp) <;> with_reducible rfl)
            try simp only [List.getElem_toArray, List.getElem_cons_succ, List.getElem_cons_zero, Act.put, List.setIfInBounds_toArray, List.set_cons_zero, List.set_cons_succ]
            (refine wpAnyS_free 1 (v := ?_) rfl (by kernel_rfl) (by kernel_rfl) (by kernel_rfl) (by simp) (fun _ _ _ h => h) (Or.inl ⟨by rfl, ?_⟩) hS (fun hS => ?_); rotate_left)
            · ((intro w; go_simp) <;> with_reducible rfl)
            try simp only [List.getElem_toArray, List.getElem_cons_succ, List.getElem_cons_zero, Act.put, List.setIfInBounds_toArray, List.set_cons_zero, List.set_cons_succ]
            (refine wpAnyS_free 2 (v := ?_) rfl (by kernel_rfl) (by kernel_rfl) (by kernel_rfl) (by simp) (fun _ _ _ h => h) (Or.inl ⟨by rfl, ?_⟩) hS (fun hS => ?_); rotate_left)
            · ((intro w; go_simp) <;> with_reducible rfl)
            try simp only [List.getElem_toArray, List.getElem_cons_succ, List.getElem_cons_zero, Act.put, List.setIfInBounds_toArray, List.set_cons_zero, List.set_cons_succ]
            (refine wpAnyS_free 3 (v := ?_) rfl (by kernel_rfl) (by kernel_rfl) (by kernel_rfl) (by simp) (fun _ _ _ h => h) (Or.inl ⟨by rfl, ?_⟩) hS (fun hS => ?_); rotate_left)
            · ((intro w; go_simp) <;> with_reducible rfl)
            try simp only [List.getElem_toArray, List.getElem_cons_succ, List.getElem_cons_zero, Act.put, List.setIfInBounds_toArray, List.set_cons_zero, List.set_cons_succ]
            (refine wpAnyS_free 4 (v := ?_) rfl (by kernel_rfl) (by kernel_rfl) (by kernel_rfl) (by simp) (fun _ _ _ h => h) (Or.inl ⟨by rfl, ?_⟩) hS (fun hS => ?_); rotate_left)
            · ((intro w; go_simp) <;> with_reducible rfl)
            try simp only [List.getElem_toArray, List.getElem_cons_succ, List.getElem_cons_zero, Act.put, List.setIfInBounds_toArray, List.set_cons_zero, List.set_cons_succ]
            (refine wpAnyS_free 5 (v := ?_) rfl (by kernel_rfl) (by kernel_rfl) (by kernel_rfl) (by simp) (fun _ _ _ h => h) (Or.inl ⟨by rfl, ?_⟩) hS (fun hS => ?_); rotate_left)
            · ((intro w; go_simp) <;> with_reducible rfl)
            try simp only [List.getElem_toArray, List.getElem_cons_succ, List.getElem_cons_zero, Act.put, List.setIfInBounds_toArray, List.set_cons_zero, List.set_cons_succ]
            (refine wpAnyS_load 6 9 (v := ?_) (List.Mem.head _) rfl (by kernel_rfl) (by kernel_rfl) (by kernel_rfl) (by kernel_rfl) (by kernel_rfl) (by simp) (fun _ _ _ h => h) (Or.inl ⟨by rfl, ?_⟩) hS (fun hS => ?_); rotate_left)
            · ((intro w hSw; (try dsimp only at hSw); go_simp) <;> with_reducible rfl)
            try simp only [List.getElem_toArray, List.getElem_cons_succ, List.getElem_cons_zero, Act.put, List.setIfInBounds_toArray, List.set_cons_zero, List.set_cons_succ]
            (refine wpAnyS_free 7 (v := ?_) rfl (by kernel_rfl) (by kernel_rfl) (by kernel_rfl) (by simp) (fun _ _ _ h => h) (Or.inl ⟨by rfl, ?_⟩) hS (fun hS => ?_); rotate_left)
            · ((intro w; go_simp) <;> with_reducible rfl)
            try simp only [List.getElem_toArray, List.getElem_cons_succ, List.getElem_cons_zero, Act.put, List.setIfInBounds_toArray, List.set_cons_zero, List.set_cons_succ]
            (refine wpAnyS_free 8 (v := ?_) rfl (by kernel_rfl) (by kernel_rfl) (by kernel_rfl) (by simp) (fun _ _ _ h => h) (Or.inl ⟨by rfl, ?_⟩) hS (fun hS => ?_); rotate_left)
            · ((intro w; go_simp) <;> with_reducible rfl)
            try simp only [List.getElem_toArray, List.getElem_cons_succ, List.getElem_cons_zero, Act.put, List.setIfInBounds_toArray, List.set_cons_zero, List.set_cons_succ]
            (refine wpAnyS_free 11 (v := ?_) rfl (by kernel_rfl) (by kernel_rfl) (by kernel_rfl) (by simp) (fun _ _ _ h => h) (Or.inl ⟨by rfl, ?_⟩) hS (fun hS => ?_); rotate_left)
            · ((intro w; go_simp) <;> with_reducible rfl)
            try simp only [List.getElem_toArray, List.getElem_cons_succ, List.getElem_cons_zero, Act.put, List.setIfInBounds_toArray, List.set_cons_zero, List.set_cons_succ]
            (refine wpAnyS_load 12 13 (v := ?_) (List.Mem.tail _ (List.Mem.head _)) rfl (by kernel_rfl) (by kernel_rfl) (by kernel_rfl) (by kernel_rfl) (by kernel_rfl) (by simp) (fun _ _ _ h => h) (Or.inl ⟨by rfl, ?_⟩) hS (fun hS => ?_); rotate_left)
            · ((intro w hSw; (try dsimp only at hSw); go_simp) <;> with_reducible rfl)
            try simp only [List.getElem_toArray, List.getElem_cons_succ, List.getElem_cons_zero, Act.put, List.setIfInBounds_toArray, List.set_cons_zero, List.set_cons_succ]
            refine wpAnyS_one 9 rfl (by kernel_rfl) (by rfl) (fun K hK => ?_)
            go_simp
            refine hK.out _ _ (SL.past (by kernel_rfl) (SL.cons ⟨cell_dw zF, cell_dw zx, cell_dw x1⟩ SL.nil)) (fun hS => ?_)
            clear hK K
            try simp only [List.getElem_toArray, List.getElem_cons_succ, List.getElem_cons_zero, Act.put, List.setIfInBounds_toArray, List.set_cons_zero, List.set_cons_succ]
            (refine wpAnyS_load 10 13 (v := ?_) (List.Mem.tail _ (List.Mem.head _)) rfl (by kernel_rfl) (by kernel_rfl) (by kernel_rfl) (by kernel_rfl) (by kernel_rfl) (by simp) (fun _ _ _ h => h) (Or.inl ⟨by rfl, ?_⟩) hS (fun hS => ?_); rotate_left)
            · ((intro w hSw; (try dsimp only at hSw); go_simp) <;> with_reducible rfl)
            try simp only [List.getElem_toArray, List.getElem_cons_succ, List.getElem_cons_zero, Act.put, List.setIfInBounds_toArray, List.set_cons_zero, List.set_cons_succ]
            refine wpAnyS_one 13 rfl (by kernel_rfl) (by rfl) (fun K hK => ?_)
            go_simp
            refine hK.out _ _ (SL.past (by kernel_rfl) (SL.past (by kernel_rfl) SL.nil)) (fun hS => ?_)
            clear hK K
            try simp only [List.getElem_toArray, List.getElem_cons_succ, List.getElem_cons_zero, Act.put, List.setIfInBounds_toArray, List.set_cons_zero, List.set_cons_succ]
            (refine wpAnyS_free 14 (v := ?_) rfl (by kernel_rfl) (by kernel_rfl) (by kernel_rfl) (by simp) (fun _ _ _ h => h) (Or.inl ⟨by rfl, ?_⟩) hS (fun hS => ?_); rotate_left)
            · ((intro w; go_simp) <;> with_reducible rfl)
            try simp only [List.getElem_toArray, List.getElem_cons_succ, List.getElem_cons_zero, Act.put, List.setIfInBounds_toArray, List.set_cons_zero, List.set_cons_succ]
            refine wpAnyS_done (by kernel_rfl) ?_ _
            have x6d := cell_dw x6
            have zFd := cell_dw zF
            have zfd : wr.drew.frozen? ⟨b, 3, none⟩ = false := zf
            go_wp2
            go_ret
            have hcut := HM1.out.drew.cut (h' := { h1 with held := h1.held.take (h1.held.length - 1) }) (i := 3) (v := .slice (some ⟨gH, 0, none⟩) (h1.held.length - 1) hc1) rfl ⟨by simp, by simp⟩ ⟨Nat.le_refl _, by simp⟩ (by simp)
            rw [HRk.out]
            exact ⟨rfl, _, hc1, oA1, oc1, hcut.1.mono (by have := HKK.out; have := HC1.out; omega) (by have := HKK.out; omega), (HT0.out.trans HT1.out.drew).trans hcut.2⟩
          | false =>
            rw [hq] at HRk
            have q2 : (x.toList == s.toList) = false := by rw [Lib.toList_data, Lib.toList_data]; exact hq
            have q3 : (x.toList != s.toList) = true := by rw [bne, q2]; rfl
            have hqx : ¬ x.toList = s.toList := by simpa using q2
            go_wp2
            refine wp_region_S [(9, fun w0 => w0.cell? ⟨b, 3, none⟩ = some (.slice (some ⟨gH, 0, none⟩) h1.held.length hc1) ∧ w0.cell? ⟨gH, h1.held.length - 1, none⟩ = some (.string x) ∧ w0.cell? ⟨S0, 1, none⟩ = some (.string s)), (13, fun w0 => w0.cell? ⟨b, 3, none⟩ = some (.slice (some ⟨gH, 0, none⟩) h1.held.length hc1) ∧ w0.cell? ⟨gH, h1.held.length - 1, none⟩ = some (.string x) ∧ w0.cell? ⟨S0, 1, none⟩ = some (.string s))] (by kernel_rfl) (SL.cons ⟨cell_dw zF, cell_dw zx, cell_dw x1⟩ (SL.cons ⟨cell_dw zF, cell_dw zx, cell_dw x1⟩ SL.nil)) (fun hS => ?_)
            (refine wpAnyS_free 0 (v := ?_) rfl (by kernel_rfl) (by kernel_rfl) (by kernel_rfl) (by simp) (fun _ _ _ h => h) (Or.inl ⟨by rfl, ?_⟩) hS (fun hS => ?_); rotate_left)
            · ((intro w; go_simp) <;> with_reducible rfl)
            try simp only [List.getElem_toArray, List.getElem_cons_succ, List.getElem_cons_zero, Act.put, List.setIfInBounds_toArray, List.set_cons_zero, List.set_cons_succ]
            (refine wpAnyS_free 1 (v := ?_) rfl (by kernel_rfl) (by kernel_rfl) (by kernel_rfl) (by simp) (fun _ _ _ h => h) (Or.inl ⟨by rfl, ?_⟩) hS (fun hS => ?_); rotate_left)
            · ((intro w; go_simp) <;> with_reducible rfl)
            try simp only [List.getElem_toArray, List.getElem_cons_succ, List.getElem_cons_zero, Act.put, List.setIfInBounds_toArray, List.set_cons_zero, List.set_cons_succ]
            (refine wpAnyS_free 2 (v := ?_) rfl (by kernel_rfl) (by kernel_rfl) (by kernel_rfl) (by simp) (fun _ _ _ h => h) (Or.inl ⟨by rfl, ?_⟩) hS (fun hS => ?_); rotate_left)
            · ((intro w; go_simp) <;> with_reducible rfl)
            try simp only [List.getElem_toArray, List.getElem_cons_succ, List.getElem_cons_zero, Act.put, List.setIfInBounds_toArray, List.set_cons_zero, List.set_cons_succ]
            (refine wpAnyS_free 3 (v := ?_) rfl (by kernel_rfl) (by kernel_rfl) (by kernel_rfl) (by simp) (fun _ _ _ h => h) (Or.inl ⟨by rfl, ?_⟩) hS (fun hS => ?_); rotate_left)
            · ((intro w; go_simp) <;> with_reducible rfl)
            try simp only [List.getElem_toArray, List.getElem_cons_succ, List.getElem_cons_zero, Act.put, List.setIfInBounds_toArray, List.set_cons_zero, List.set_cons_succ]
            (refine wpAnyS_free 4 (v := ?_) rfl (by kernel_rfl) (by kernel_rfl) (by kernel_rfl) (by simp) (fun _ _ _ h => h) (Or.inl ⟨by rfl, ?_⟩) hS (fun hS => ?_); rotate_left)
            · ((intro w; go_simp) <;> with_reducible rfl)
            try simp only [List.getElem_toArray, List.getElem_cons_succ, List.getElem_cons_zero, Act.put, List.setIfInBounds_toArray, List.set_cons_zero, List.set_cons_succ]
            (refine wpAnyS_free 5 (v := ?_) rfl (by kernel_rfl) (by kernel_rfl) (by kernel_rfl) (by simp) (fun _ _ _ h => h) (Or.inl ⟨by rfl, ?_⟩) hS (fun hS => ?_); rotate_left)
            · ((intro w; go_simp) <;> with_reducible rfl)
            try simp only [List.getElem_toArray, List.getElem_cons_succ, List.getElem_cons_zero, Act.put, List.setIfInBounds_toArray, List.set_cons_zero, List.set_cons_succ]
            (refine wpAnyS_load 6 9 (v := ?_) (List.Mem.head _) rfl (by kernel_rfl) (by kernel_rfl) (by kernel_rfl) (by kernel_rfl) (by kernel_rfl) (by simp) (fun _ _ _ h => h) (Or.inl ⟨by rfl, ?_⟩) hS (fun hS => ?_); rotate_left)
            · ((intro w hSw; (try dsimp only at hSw); go_simp) <;> with_reducible rfl)
            try simp only [List.getElem_toArray, List.getElem_cons_succ, List.getElem_cons_zero, Act.put, List.setIfInBounds_toArray, List.set_cons_zero, List.set_cons_succ]
            (refine wpAnyS_free 7 (v := ?_) rfl (by kernel_rfl) (by kernel_rfl) (by kernel_rfl) (by simp) (fun _ _ _ h => h) (Or.inl ⟨by rfl, ?_⟩) hS (fun hS => ?_); rotate_left)
            · ((intro w; go_simp) <;> with_reducible rfl)
            try simp only [List.getElem_toArray, List.getElem_cons_succ, List.getElem_cons_zero, Act.put, List.setIfInBounds_toArray, List.set_cons_zero, List.set_cons_succ]
            (refine wpAnyS_free 8 (v := ?_) rfl (by kernel_rfl) (by kernel_rfl) (by kernel_rfl) (by simp) (fun _ _ _ h => h) (Or.inl ⟨by rfl, ?_⟩) hS (fun hS => ?_); rotate_left)
            · ((intro w; go_simp) <;> with_reducible rfl)
            try simp only [List.getElem_toArray, List.getElem_cons_succ, List.getElem_cons_zero, Act.put, List.setIfInBounds_toArray, List.set_cons_zero, List.set_cons_succ]
            (refine wpAnyS_free 11 (v := ?_) rfl (by kernel_rfl) (by kernel_rfl) (by kernel_rfl) (by simp) (fun _ _ _ h => h) (Or.inl ⟨by rfl, ?_⟩) hS (fun hS => ?_); rotate_left)
            · ((intro w; go_simp) <;> with_reducible rfl)
            try simp only [List.getElem_toArray, List.getElem_cons_succ, List.getElem_cons_zero, Act.put, List.setIfInBounds_toArray, List.set_cons_zero, List.set_cons_succ]
            (refine wpAnyS_load 12 13 (v := ?_) (List.Mem.tail _ (List.Mem.head _)) rfl (by kernel_rfl) (by kernel_rfl) (by kernel_rfl) (by kernel_rfl) (by kernel_rfl) (by simp) (fun _ _ _ h => h) (Or.inl ⟨by rfl, ?_⟩) hS (fun hS => ?_); rotate_left)
            · ((intro w hSw; (try dsimp only at hSw); go_simp) <;> with_reducible rfl)
            try simp only [List.getElem_toArray, List.getElem_cons_succ, List.getElem_cons_zero, Act.put, List.setIfInBounds_toArray, List.set_cons_zero, List.set_cons_succ]
            refine wpAnyS_one 9 rfl (by kernel_rfl) (by rfl) (fun K hK => ?_)
            go_simp
            refine hK.out _ _ (SL.past (by kernel_rfl) (SL.cons ⟨cell_dw zF, cell_dw zx, cell_dw x1⟩ SL.nil)) (fun hS => ?_)
            clear hK K
            try simp only [List.getElem_toArray, List.getElem_cons_succ, List.getElem_cons_zero, Act.put, List.setIfInBounds_toArray, List.set_cons_zero, List.set_cons_succ]
            (refine wpAnyS_load 10 13 (v := ?_) (List.Mem.tail _ (List.Mem.head _)) rfl (by kernel_rfl) (by kernel_rfl) (by kernel_rfl) (by kernel_rfl) (by kernel_rfl) (by simp) (fun _ _ _ h => h) (Or.inl ⟨by rfl, ?_⟩) hS (fun hS => ?_); rotate_left)
            · ((intro w hSw; (try dsimp only at hSw); go_simp) <;> with_reducible rfl)
            try simp only [List.getElem_toArray, List.getElem_cons_succ, List.getElem_cons_zero, Act.put, List.setIfInBounds_toArray, List.set_cons_zero, List.set_cons_succ]
            refine wpAnyS_one 13 rfl (by kernel_rfl) (by rfl) (fun K hK => ?_)
            go_simp
            refine hK.out _ _ (SL.past (by kernel_rfl) (SL.past (by kernel_rfl) SL.nil)) (fun hS => ?_)
            clear hK K
            try simp only [List.getElem_toArray, List.getElem_cons_succ, List.getElem_cons_zero, Act.put, List.setIfInBounds_toArray, List.set_cons_zero, List.set_cons_succ]
            (refine wpAnyS_free 14 (v := ?_) rfl (by kernel_rfl) (by kernel_rfl) (by kernel_rfl) (by simp) (fun _ _ _ h => h) (Or.inl ⟨by rfl, ?_⟩) hS (fun hS => ?_); rotate_left)
            · ((intro w; go_simp) <;> with_reducible rfl)
            try simp only [List.getElem_toArray, List.getElem_cons_succ, List.getElem_cons_zero, Act.put, List.setIfInBounds_toArray, List.set_cons_zero, List.set_cons_succ]
            refine wpAnyS_done (by kernel_rfl) ?_ _
            have x6d := cell_dw x6
            have zFd := cell_dw zF
            have zfd : wr.drew.frozen? ⟨b, 3, none⟩ = false := zf
            go_wp2_with (go_at_call 46; refine (wrapI_calls 5 p _).mono ?_; rintro e w6 ⟨rfl, rfl⟩)
            go_ret
            rw [HRk.out]
            exact ⟨_, rfl, ⟨_, rfl, blk_new _ _⟩, h1, _, hc1, oA1, oc1, (HM1.out.drew.alloc _).mono (by have := HKK.out; have := HC1.out; omega) (by have := HKK.out; omega), (HT0.out.trans HT1.out.drew).more ((Below.refl _ _).alloc (Nat.le_refl _) _) HBw.out⟩
      · subst hk0
        have HRk : Hid (r = touchp by' th s true p h1) := HR1
        have HTO := Lib.hid (touch_calls HM1.out (by have := HKK.out; have := HC1.out; omega) s (by unfold maxLen; omega) true p)
        cases hto : touchp by' th s true p h1 with
        | error p' =>
          rw [hto] at HTO HRk
          go_wp2_with (go_at_call 120; refine HTO.out.mono ?_; rintro e w4 ⟨u, rfl, hu, h9, hA9, hc9, oA9, oc9, hm9, ht9⟩; have HU := Lib.hid hu; have HM9 := Lib.hid hm9; have HT9 := Lib.hid ht9; obtain ⟨gF, rfl, _⟩ := hu; clear hm9 ht9)
          go_ret
          rw [HRk.out]
          exact ⟨_, rfl, HU.out, h9, hA9, hc9, oA9, oc9, HM9.out.mono (by have := HKK.out; have := HC1.out; omega) (by have := HKK.out; omega), (HT0.out.trans HT1.out).trans HT9.out⟩
        | ok h4 =>
          rw [hto] at HTO HRk
          go_wp2_with (go_at_call 120; refine HTO.out.mono ?_; rintro e w4 ⟨rfl, hA4, hc4, oA4, oc4, hm4, ht4⟩; have HM4 := Lib.hid hm4; have HT4 := Lib.hid ht4; clear hm4 ht4)
          go_ret
          rw [HRk.out]
          exact ⟨rfl, hA4, hc4, oA4, oc4, HM4.out.mono (by have := HKK.out; have := HC1.out; omega) (by have := HKK.out; omega), (HT0.out.trans HT1.out).trans HT4.out⟩
      · have HRk : Hid (r = .ok h1) := Lib.hid (by rw [HR1.out]; unfold hact; rw [if_neg (by omega), if_neg (by omega), if_neg (by omega), if_neg (by omega), if_neg (by omega), if_neg (by omega)])
        have q0 : ((k : Int) == 0) = false := by rw [beq_eq_false_iff_ne]; omega
        have q1 : ((k : Int) == 1) = false := by rw [beq_eq_false_iff_ne]; omega
        have q2 : ((k : Int) == 2) = false := by rw [beq_eq_false_iff_ne]; omega
        have q3 : ((k : Int) == 3) = false := by rw [beq_eq_false_iff_ne]; omega
        have q4 : ((k : Int) == 4) = false := by rw [beq_eq_false_iff_ne]; omega
        have q5 : ((k : Int) == 5) = false := by rw [beq_eq_false_iff_ne]; omega
        have q6 : ((k : Int) == 6) = false := by rw [beq_eq_false_iff_ne]; omega
        have q7 : ((k : Int) == 7) = false := by rw [beq_eq_false_iff_ne]; omega
        go_wp2
        go_ret
        rw [HRk.out]
        exact ⟨rfl, hA1, hc1, oA1, oc1, HM1.out.mono (by have := HKK.out; have := HC1.out; omega) (by have := HKK.out; omega), HT0.out.trans HT1.out⟩
end Go.Proofs.YtcdgjgoplogiiaaDoor.PT
