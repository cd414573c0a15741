/- tree.Text. -/
import Derived.Test.YtnihgifpfdlnhaaDoorDcl
namespace Go.Proofs.YtnihgifpfdlnhaaDoor.PT
open Go.RowKit Go.Lib
set_option linter.unusedVariables false
set_option linter.unusedSimpArgs false

/-- Declarations in a row. -/
def DsA (ds : List Dcl) (P : Nat → Prop) (w : World) (A : Option Addr) (n c : Nat) : Prop := n = ds.length ∧ Slc w P TD A n c (ds.flatMap Dcl.cells)
/-- Threads' slices. -/
def TsV : List Blk → (Nat → Prop) → World → List (Option Addr × Nat × Nat) → Prop
  | [], _, _, vs => vs = []
  | t :: ts, P, w, vs => ∃ v r, vs = v :: r ∧ Bs t P w v.1 v.2.1 v.2.2 ∧ TsV ts P w r
def tcell (v : Option Addr × Nat × Nat) : Value := .slice v.1 v.2.1 v.2.2
def ThA (ts : List Blk) (P : Nat → Prop) (w : World) (A : Option Addr) (n c : Nat) : Prop := n = ts.length ∧ ∃ vs, TsV ts P w vs ∧ Slc w P TB' A n c (vs.map tcell)
theorem TsV.stay {ts : List Blk} {P P' : Nat → Prop} {w w' : World} {vs : List (Option Addr × Nat × Nat)} (h : TsV ts P w vs) (hP : ∀ g, P g → g < w.heap.size → P' g) (hk : Stay TE P w w') (ht : Stay TS P w w') : TsV ts P' w' vs := by
  induction ts generalizing vs with
  | nil => exact h
  | cons t ts ih =>
    obtain ⟨v, r, e, ha, hr⟩ := h
    exact ⟨v, r, e, ha.stay hP hk ht, ih hr⟩
theorem TsV.length {ts : List Blk} {P : Nat → Prop} {w : World} {vs : List (Option Addr × Nat × Nat)} (h : TsV ts P w vs) : vs.length = ts.length := by
  induction ts generalizing vs with
  | nil => rw [show vs = [] from h]; rfl
  | cons t ts ih =>
    obtain ⟨v, r, rfl, ha, hr⟩ := h
    simp [ih hr]
theorem TsV.get {ts : List Blk} {P : Nat → Prop} {w : World} {vs : List (Option Addr × Nat × Nat)} (h : TsV ts P w vs) (k : Nat) (t : Blk) (hk : ts[k]? = some t) : ∃ v, vs[k]? = some v ∧ Bs t P w v.1 v.2.1 v.2.2 := by
  induction ts generalizing vs k with
  | nil => simp at hk
  | cons u us ih =>
    obtain ⟨x, xs, rfl, ha, hr⟩ := h
    cases k with
    | zero => simp at hk; subst hk; exact ⟨x, rfl, ha⟩
    | succ k => simp at hk; obtain ⟨y, h1, h2⟩ := ih hr k hk; exact ⟨y, by simpa using h1, h2⟩
theorem row_decl {w : World} {g : Nat} {l : List Dcl} (h : Row w TD g (l.flatMap Dcl.cells)) (k : Nat) (x : Dcl) (hk : l[k]? = some x) :
    (w.cell? ⟨g, k * 6, none⟩ = some (.bool x.lock) ∧ w.cell? ⟨g, k * 6 + 1, none⟩ = some (.int .i64 x.label)) ∧ (w.cell? ⟨g, k * 6 + 2, none⟩ = some (.string x.name) ∧ w.cell? ⟨g, k * 6 + 3, none⟩ = some (.int .i64 x.size)) ∧
    w.cell? ⟨g, k * 6 + 4, none⟩ = some (.string x.by') ∧ w.cell? ⟨g, k * 6 + 5, none⟩ = some (.int .i64 x.p) := by
  have hh : ∀ j, j < 6 → (l.flatMap Dcl.cells)[k * 6 + j]? = (Dcl.cells x)[j]? := fun j hj => flat_get Dcl.cells 6 (fun _ => rfl) l k x hk j hj
  exact ⟨⟨h.cell (hh 0 (by omega)), h.cell (hh 1 (by omega))⟩, ⟨h.cell (hh 2 (by omega)), h.cell (hh 3 (by omega))⟩, h.cell (hh 4 (by omega)), h.cell (hh 5 (by omega))⟩
theorem declT_size (d : Dcl) (h : d.ok) : (declT d).size ≤ 4000100 := by
  obtain ⟨h1, h2, h3⟩ := h
  have c1 : kSemi.size = 1 := rfl
  have c2 : kOpen.size = 1 := rfl
  have c3 : (⟨#[108, 111, 99, 107, 32]⟩ : ByteArray).size = 5 := rfl
  have c4 : (⟨#[112, 117, 98, 108, 105, 99, 32]⟩ : ByteArray).size = 7 := rfl
  have c5 : (⟨#[115, 101, 99, 114, 101, 116, 32]⟩ : ByteArray).size = 7 := rfl
  have c6 : (⟨#[93]⟩ : ByteArray).size = 1 := rfl
  have c7 : (⟨#[32, 98, 121, 32]⟩ : ByteArray).size = 4 := rfl
  unfold declT
  by_cases hs : 0 < d.size
  · have := numT_size d.size (by omega) h1
    simp only [if_pos hs]
    repeat' split
    all_goals simp only [ByteArray.size_append, c1, c2, c3, c4, c5, c6, c7]; omega
  · simp only [if_neg hs]
    repeat' split
    all_goals simp only [ByteArray.size_append, c1, c2, c3, c4, c5, c6, c7]; omega
def declsT (ds : List Dcl) : List UInt8 := ds.flatMap fun d => lineT 0 [declT d]
def thrT (t : Blk) : List UInt8 := lineT 0 [kThread] ++ blkT t 1 ++ lineT 0 [kEnd]
def tsum (ts : List Blk) : Nat := (ts.map fun t => t.bd 1 + 100).sum
structure POk (p : Prg) : Prop where
  ds : ∀ d ∈ p.ds, d.ok
  ts : ∀ t ∈ p.ts, t.ok ∧ t.low ∧ t.wt ≤ 900
  len : p.ds.length * 5000000 + tsum p.ts ≤ 70368744170000
  some : progT p ≠ []
theorem declsT_len (ds : List Dcl) (h : ∀ d ∈ ds, d.ok) : (declsT ds).length ≤ ds.length * 5000000 := by
  induction ds with
  | nil => exact Nat.le_refl _
  | cons d ds ih =>
    have h1 := declT_size d (h d (by simp))
    have h2 := ih fun x hx => h x (by simp [hx])
    simp only [declsT, List.flatMap_cons, List.length_append, line_sum, List.map_cons, List.map_nil, List.sum_cons, List.sum_nil, List.length_cons] at *
    omega
theorem thrT_len (t : Blk) (h : t.ok) : (thrT t).length ≤ t.bd 1 + 100 := by
  have := blkT_len t h 1
  have c1 : kThread.size = 8 := rfl
  have c2 : kEnd.size = 1 := rfl
  simp only [thrT, List.length_append, line_sum, List.map_cons, List.map_nil, List.sum_cons, List.sum_nil, c1, c2]
  omega
theorem thrs_len (ts : List Blk) (h : ∀ t ∈ ts, t.ok ∧ t.low ∧ t.wt ≤ 900) : (ts.flatMap thrT).length ≤ tsum ts := by
  induction ts with
  | nil => exact Nat.le_refl _
  | cons t ts ih =>
    have h1 := thrT_len t (h t (by simp)).1
    have h2 := ih fun x hx => h x (by simp [hx])
    simp only [tsum, List.flatMap_cons, List.length_append, List.map_cons, List.sum_cons] at *
    omega
theorem declsT_succ (ds : List Dcl) (k : Nat) (h : k < ds.length) : declsT (ds.take (k + 1)) = declsT (ds.take k) ++ lineT 0 [declT ds[k]] := by
  unfold declsT
  rw [List.take_succ_eq_append_getElem h, List.flatMap_append]; simp
theorem declsT_le (ds : List Dcl) (k : Nat) : (declsT (ds.take k)).length ≤ (declsT ds).length := by
  have h : declsT ds = declsT (ds.take k) ++ declsT (ds.drop k) := by unfold declsT; rw [← List.flatMap_append, List.take_append_drop]
  rw [h, List.length_append]; omega
theorem thrs_succ (ts : List Blk) (k : Nat) (h : k < ts.length) : (ts.take (k + 1)).flatMap thrT = (ts.take k).flatMap thrT ++ thrT ts[k] := by
  rw [List.take_succ_eq_append_getElem h, List.flatMap_append]; simp
theorem thrs_le (ts : List Blk) (k : Nat) : ((ts.take k).flatMap thrT).length ≤ (ts.flatMap thrT).length := by
  have h : ts.flatMap thrT = (ts.take k).flatMap thrT ++ (ts.drop k).flatMap thrT := by rw [← List.flatMap_append, List.take_append_drop]
  rw [h, List.length_append]; omega
theorem progT_eq (p : Prg) : progT p = declsT p.ds ++ p.ts.flatMap thrT := rfl

/-- A line at the margin. -/
theorem line0_calls (B b : Nat) (m : List UInt8) (s : ByteArray) (w0 w : World) (hw : Hid (LW B b m w0 w)) (hm : m.length + s.size + 1 ≤ 140737488355328) (g : Nat) (hr : w.heap[g]? = some (.cells #[.string s] 9 (0, 0))) (hg : g ≠ b) :
    Calls Tryd.prog 20 #[.pointer (some ⟨b, 0, none⟩), .int .i64 0, .slice (some ⟨g, 0, none⟩) 1 1] w (GoOn B b (m ++ lineT 0 [s]) w0) := by
  refine (line_calls B b g m 0 [s] w hw.out.1 (by omega) hr hg (by show 1 ≤ 100; omega) (by rw [pl]; simp only [List.map_cons, List.map_nil, List.sum_cons, List.sum_nil]; omega)).mono ?_
  rintro e w2 ⟨rfl, k⟩
  exact ⟨rfl, Lib.hid (hw.out.trans k)⟩
theorem LW.alloc {B b : Nat} {l : List UInt8} {w w1 : World} (h : LW B b l w w1) (o : Obj) : LW B b l w (w1.alloc o) := h.below ((Below.refl _ _).alloc (Nat.le_refl _) o)
/-- A fresh writer. -/
theorem fresh_writer (w : World) (o : Obj) : LW w.heap.size (w.heap.size + 1) [] ((w.alloc o).alloc (.cells #[.pointer none, .slice none 0 0] TW)) ((w.alloc o).alloc (.cells #[.pointer none, .slice none 0 0] TW)) :=
  LW.start (.inl ⟨Nat.le_succ _, .slice none 0 0, new_at _ (by simp), Go.World.ownsRowF_nil _ _ _ _, by simp [Value.ownBlock]⟩)
theorem text_end (B b : Nat) (m : List UInt8) (w0 w : World) (h : Hid (LW B b m w0 w)) (hm : m ≠ []) : Calls Tryd.prog 23 #[.pointer (some ⟨b, 0, none⟩)] w fun e w' => e = .returned (.string ⟨m.toArray⟩) ∧ Below B w0 w' := by
  refine (string_k B b m w h.out.1 hm).mono ?_
  rintro e w' ⟨rfl, hb⟩
  exact ⟨rfl, h.out.2.1.trans hb⟩
set_option maxHeartbeats 4000000 in
theorem text_calls (p : Prg) (P : Nat → Prop) (A A' : Option Addr) (n n' c c' : Nat) (w : World) (hd : DsA p.ds P w A n c) (ht : ThA p.ts P w A' n' c') (hok : POk p) (htb : TB w) :
    Calls Tryd.prog 11 #[.agg #[.slice A n c, .slice A' n' c']] w (Says w ⟨(progT p).toArray⟩) := by
  obtain ⟨hn, hds⟩ := hd
  obtain ⟨hn', vs, hvs, hts⟩ := ht
  have hvl := hvs.length
  obtain ⟨B, hB⟩ : ∃ B, B = w.heap.size := ⟨_, rfl⟩
  have hlen := hok.len
  have hdl := declsT_len p.ds hok.ds
  have htl := thrs_len p.ts hok.ts
  have HTB := Lib.hid (TBB.of htb)
  obtain ⟨w2, hw2⟩ : ∃ w2, w2 = (w.alloc (.cells #[.slice A n c, .slice A' n' c'] 39)).alloc (.cells #[.pointer none, .slice none 0 0] TW) := ⟨_, rfl⟩
  have HB2 : Hid (Below w.heap.size w w2) := Lib.hid (by rw [hw2]; exact ((Below.refl _ _).alloc (Nat.le_refl _) _).alloc (by simp) _)
  have HX : Hid (w2.heap[w.heap.size]? = some (.cells #[.slice A n c, .slice A' n' c'] 39 (0, 0))) := Lib.hid (by rw [hw2]; exact blk_alloc (blk_new _ _) _)
  have H0 : Hid (LW w.heap.size (w.heap.size + 1) (declsT (p.ds.take 0)) w2 w2) := Lib.hid (by rw [hw2]; exact fresh_writer _ _)
  have HS2 : Hid (w2.heap.size = w.heap.size + 2) := Lib.hid (by rw [hw2]; simp)
  have HW := Lib.hid hw2
  have HOK := Lib.hid hok
  have HVS := Lib.hid hvs
  have HN := Lib.hid hn
  have HN' := Lib.hid hn'
  have HDS := Lib.hid hds
  have HTS := Lib.hid hts
  have HL := Lib.hid hlen
  have HDL := Lib.hid hdl
  have HTL := Lib.hid htl
  have hn9 : n ≤ 70368744170000 := by omega
  have hn9' : n' ≤ 70368744170000 := by
    have : p.ts.length ≤ tsum p.ts := by
      generalize p.ts = l
      induction l with
      | nil => exact Nat.le_refl _
      | cons a t ih => simp only [tsum, List.map_cons, List.sum_cons, List.length_cons] at *; omega
    omega
  clear hw2 hok hvs hn hn' hds hts hlen hdl htl htb hB hvl
  go_enter Tryd.func11, Tryd.ntmps11
  go_wp2
  rw [← HW.out]
  go_loopw [11] (fun i wr => ∃ k : Nat, k ≤ n ∧ i = .int .i64 k ∧ Hid (LW w.heap.size (w.heap.size + 1) (declsT (p.ds.take k)) w2 wr)) (fun i _ => n - (RowKit.intOf i).toNat)
  case atStart => exact ⟨0, Nat.zero_le _, rfl, H0⟩
  case round =>
    obtain ⟨k, hk, rfl, HK⟩ := hrel
    by_cases hlt : k < n
    · rcases HDS.out with ⟨_, h0, _, _⟩ | ⟨g, rfl, hPg, hnc, hcm, hr⟩
      · omega
      have hkp : k < p.ds.length := by have := HN.out; omega
      have hgl := hr.lt
      obtain ⟨d, hdd⟩ : ∃ d, d = p.ds[k] := ⟨_, rfl⟩
      have hok : d.ok := by rw [hdd]; exact HOK.out.ds _ (List.getElem_mem hkp)
      have hrow : Row wr TD g (p.ds.flatMap Dcl.cells) := by
        obtain ⟨cur, h1, h2⟩ := hr.below HB2.out
        exact ⟨cur, HK.out.keep h1 (by decide) (by omega), h2⟩
      obtain ⟨⟨c0, c1⟩, ⟨c2, c3⟩, c4, c5⟩ := row_decl hrow k d (by rw [hdd]; exact List.getElem?_eq_getElem hkp)
      have hsz := declT_size d hok
      have hlk : (declsT (p.ds.take k)).length + (declT d).size + 1 ≤ 140737488355328 := by
        have := declsT_le p.ds k
        have := HDL.out
        have := HL.out
        omega
      have hnx : declsT (p.ds.take (k + 1)) = declsT (p.ds.take k) ++ lineT 0 [declT d] := by rw [hdd]; exact declsT_succ p.ds k hkp
      have HTd : Hid (∀ w', Below w.heap.size w w' → Calls Tryd.prog 21 #[d.val] w' (Says w' (declT d))) := Lib.hid fun w' hb => decl_calls d hok w' (HTB.out w' hb)
      obtain ⟨r, hrr⟩ : ∃ r, r = declT d := ⟨_, rfl⟩
      rw [← hrr] at hlk hnx HTd
      have HLK := Lib.hid hlk
      have HNX := Lib.hid hnx
      clear hok hrow hsz hlk hnx hrr hr hdd
      go_wp2_with fail
      refine (HTd.out _ (HB2.out.trans (HK.out.alloc _).2.1)).mono ?_
      rintro e w3 ⟨rfl, hb3⟩
      have HW3 := Lib.hid ((HK.out.alloc (dbox d)).below hb3)
      clear hb3
      go_wp2_with fail
      refine (line0_calls _ _ _ r w2 _ (Lib.hid (HW3.out.alloc _)) HLK.out _ (blk_new _ _) (by have := HW3.out.grew; have := HS2.out; omega)).mono ?_
      rintro e w4 ⟨rfl, HW4⟩
      go_wp2
      go_roundw
      case rel => exact ⟨k + 1, by omega, by go_num, by rw [HNX.out]; exact HW4⟩
      case measure => simp [RowKit.intOf]; omega
    · have hkn : k = p.ds.length := by have := HN.out; omega
      have HA : Hid (LW w.heap.size (w.heap.size + 1) (declsT p.ds ++ (p.ts.take 0).flatMap thrT) w2 wr) := by
        have h := HK
        rw [hkn, List.take_length] at h
        simpa using h
      clear hkn HK
      have hx : wr.heap[w.heap.size]? = some (.cells #[.slice A n c, .slice A' n' c'] 39 (0, 0)) := HA.out.keep HX.out (by decide) (by omega)
      have x1 : wr.cell? ⟨w.heap.size, 1, none⟩ = some (.slice A' n' c') := (blk_cell hx 1).trans rfl
      clear hx
      go_wp2
      obtain ⟨wo, rfl⟩ : ∃ wo : World, wo = wr := ⟨_, rfl⟩
      go_loopw [23] (fun i wr => ∃ k : Nat, k ≤ n' ∧ i = .int .i64 k ∧ Hid (LW w.heap.size (w.heap.size + 1) (declsT p.ds ++ (p.ts.take k).flatMap thrT) w2 wr)) (fun i _ => n' - (RowKit.intOf i).toNat)
      case atStart => exact ⟨0, Nat.zero_le _, rfl, HA⟩
      case round =>
        obtain ⟨k, hk, rfl, HK⟩ := hrel
        by_cases hlt : k < n'
        · rcases HTS.out with ⟨_, h0, _, _⟩ | ⟨g, rfl, hPg, hnc, hcm, hr⟩
          · omega
          have hkp : k < p.ts.length := by have := HN'.out; omega
          have hgl := hr.lt
          obtain ⟨t, htt⟩ : ∃ t, t = p.ts[k] := ⟨_, rfl⟩
          obtain ⟨ok1, ok2, ok3⟩ : t.ok ∧ t.low ∧ t.wt ≤ 900 := by rw [htt]; exact HOK.out.ts _ (List.getElem_mem hkp)
          obtain ⟨⟨vA, vn, vc⟩, hv1, hv2⟩ := HVS.out.get k t (by rw [htt]; exact List.getElem?_eq_getElem hkp)
          have hrow : Row wr TB' g (vs.map tcell) := by
            obtain ⟨cur, h1, h2⟩ := hr.below HB2.out
            exact ⟨cur, HK.out.keep h1 (by decide) (by omega), h2⟩
          have c0 : wr.cell? ⟨g, k, none⟩ = some (.slice vA vn vc) := hrow.cell (by simp [hv1, tcell])
          have hnx : (p.ts.take (k + 1)).flatMap thrT = (p.ts.take k).flatMap thrT ++ thrT t := by rw [htt]; exact thrs_succ p.ts k hkp
          have hlk : (declsT p.ds).length + ((p.ts.take (k + 1)).flatMap thrT).length ≤ 70368744170000 := by
            have := thrs_le p.ts (k + 1)
            have := HDL.out
            have := HTL.out
            have := HL.out
            omega
          rw [hnx, List.length_append] at hlk
          have hbt := blkT_len t ok1 1
          have hbd : (declsT p.ds).length + ((p.ts.take k).flatMap thrT).length + t.bd 1 + 100 ≤ 70368744170000 := by
            have h1 : tsum (p.ts.take (k + 1)) ≤ tsum p.ts := by
              have h : tsum p.ts = tsum (p.ts.take (k + 1)) + tsum (p.ts.drop (k + 1)) := by unfold tsum; rw [← List.sum_append, ← List.map_append, List.take_append_drop]
              omega
            have h2 : tsum (p.ts.take (k + 1)) = tsum (p.ts.take k) + (t.bd 1 + 100) := by
              unfold tsum
              rw [List.take_succ_eq_append_getElem hkp, List.map_append, List.sum_append, htt]; simp
            have h3 := thrs_len (p.ts.take k) (fun x hx => HOK.out.ts x (List.mem_of_mem_take hx))
            have := HDL.out
            have := HL.out
            omega
          have HBL := Lib.hid (fun (m : List UInt8) (hm : m.length + t.bd 1 ≤ 70368744177664) (w' : World) (hw : LW w.heap.size (w.heap.size + 1) m w2 w') =>
            (block_any (t.wt + 1) t (by omega) ok2 w.heap.size (w.heap.size + 1) m 1 vA vn vc (fun g => g < w.heap.size) w' hw.1 ((hv2.stay (P' := fun g => g < w.heap.size) (fun g _ hg => hg) (Stay.of fun g _ hl => HB2.out.block g hl) (Stay.of fun g _ hl => HB2.out.block g hl)).stay (fun g h _ => h) (stayO hw.2.2 (by decide) (fun g h => by omega)) (stayO hw.2.2 (by decide) (fun g h => by omega))) (fun g h => by omega) ok1 (HTB.out.next (HB2.out.trans hw.2.1)) hm (by omega)).mono
              (fun e w'' ⟨h1, h2⟩ => (⟨h1, Lib.hid (hw.trans h2)⟩ : GoOn w.heap.size (w.heap.size + 1) (m ++ blkT t 1) w2 e w'')))
          have HNX := Lib.hid hnx
          have HBD := Lib.hid hbd
          have HBT := Lib.hid hbt
          clear ok1 ok2 ok3 hv1 hv2 hrow hnx hlk hbd hbt hr htt
          go_wp2_with fail
          refine (line0_calls _ _ _ kThread w2 _ (Lib.hid (HK.out.alloc _)) (by have := HBD.out; rw [List.length_append]; show _ + 8 + 1 ≤ _; omega) _ (blk_new _ _) (by have := HK.out.grew; have := HS2.out; omega)).mono ?_
          rintro e w4 ⟨rfl, HW4⟩
          go_wp2_with fail
          refine (HBL.out _ (by have := HBD.out; simp only [List.length_append, line_sum, List.map_cons, List.map_nil, List.sum_cons, List.sum_nil, show kThread.size = 8 from rfl]; omega) _ HW4.out).mono ?_
          rintro e w5 ⟨rfl, HW5⟩
          go_wp2_with fail
          refine (line0_calls _ _ _ kEnd w2 _ (Lib.hid (HW5.out.alloc _)) (by have := HBD.out; have := HBT.out; simp only [List.length_append, line_sum, List.map_cons, List.map_nil, List.sum_cons, List.sum_nil, show kThread.size = 8 from rfl, show kEnd.size = 1 from rfl]; omega) _ (blk_new _ _) (by have := HW5.out.grew; have := HS2.out; omega)).mono ?_
          rintro e w6 ⟨rfl, HW6⟩
          go_wp2
          go_roundw
          case rel =>
            refine ⟨k + 1, by omega, by go_num, ?_⟩
            rw [HNX.out, ← List.append_assoc]
            rw [show thrT t = lineT 0 [kThread] ++ blkT t 1 ++ lineT 0 [kEnd] from rfl]
            simpa only [List.append_assoc] using HW6
          case measure => simp [RowKit.intOf]; omega
        · have hkn : k = p.ts.length := by have := HN'.out; omega
          have HA : Hid (LW w.heap.size (w.heap.size + 1) (progT p) w2 wr) := by
            have h := HK
            rw [hkn, List.take_length, ← progT_eq] at h
            exact h
          clear hkn HK
          go_wp2_with fail
          refine (text_end _ _ _ w2 _ HA HOK.out.some).mono ?_
          rintro e w7 ⟨rfl, hb7⟩
          have HB7 := Lib.hid hb7
          clear hb7
          go_wp2
          go_ret
          exact ⟨rfl, HB2.out.trans HB7.out⟩
end Go.Proofs.YtnihgifpfdlnhaaDoor.PT
