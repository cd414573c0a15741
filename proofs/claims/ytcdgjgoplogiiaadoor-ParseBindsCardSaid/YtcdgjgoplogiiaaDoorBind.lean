/- ParseBinds: the walk. -/
import Derived.Test.YtcdgjgoplogiiaaDoorAwk5
import Derived.Test.YtcdgjgoplogiiaaDoorReg
namespace Go.Proofs.YtcdgjgoplogiiaaDoor.PT
open Go.RowKit Go.Lib
set_option linter.unusedVariables false
set_option linter.unusedSimpArgs false
def kBind : ByteArray := ⟨#[116, 104, 114, 101, 97, 100, 32, 123, 32, 118, 32, 61, 32, 105, 32]⟩
def btx (x y : Nat) : ByteArray := kBind ++ signOf x ++ ⟨#[32, 106, 32]⟩ ++ signOf y ++ ⟨#[32, 107, 59, 32, 125]⟩
def bl2 (x : Nat) : Int := if x = 6 ∨ x = 7 ∨ x = 8 then 2 else 1
def btree (x y : Nat) : Tree :=
  if tightOf y ≤ tightOf x then .bin y (.bin x (.name ⟨#[105]⟩ 13) (.name ⟨#[106]⟩ (16 + bl2 x)) 13) (.name ⟨#[107]⟩ (19 + bl2 x + bl2 y)) 13
  else .bin x (.name ⟨#[105]⟩ 13) (.bin y (.name ⟨#[106]⟩ (16 + bl2 x)) (.name ⟨#[107]⟩ (19 + bl2 x + bl2 y)) (16 + bl2 x)) 13
theorem lt10 {x : Nat} (h : x < 10) : x = 0 ∨ x = 1 ∨ x = 2 ∨ x = 3 ∨ x = 4 ∨ x = 5 ∨ x = 6 ∨ x = 7 ∨ x = 8 ∨ x = 9 := by omega
theorem bind_parse (x y : Nat) (hx : x < 10) (hy : y < 10) : parse (btx x y) = .ok ⟨[], [.cons 1 ⟨#[118]⟩ [btree x y] 0 .nil .nil 9 .nil]⟩ := by
  rcases lt10 hx with rfl | rfl | rfl | rfl | rfl | rfl | rfl | rfl | rfl | rfl <;> rcases lt10 hy with rfl | rfl | rfl | rfl | rfl | rfl | rfl | rfl | rfl | rfl <;> kernel_rfl
abbrev bsigns : Array Value := #[.string ⟨#[43]⟩, .string ⟨#[45]⟩, .string ⟨#[42]⟩, .string ⟨#[38]⟩, .string ⟨#[124]⟩, .string ⟨#[94]⟩, .string ⟨#[60, 60]⟩, .string ⟨#[62, 62]⟩, .string ⟨#[61, 61]⟩, .string ⟨#[60]⟩]
theorem bsign_at (x : Nat) (hx : x < 10) : bsigns[x]? = some (.string (signOf x)) := by
  rcases lt10 hx with rfl | rfl | rfl | rfl | rfl | rfl | rfl | rfl | rfl | rfl <;> rfl
theorem idx_tight (x : Nat) (hx : x < 10) (w : World) : (Instr.index 9 (.string ⟨#[54, 54, 55, 52, 49, 50, 53, 53, 51, 51]⟩) (.int .i64 x)).run Tryd.prog w = .ok (.int .u8 (48 + tightOf x)) w := by
  rcases lt10 hx with rfl | rfl | rfl | rfl | rfl | rfl | rfl | rfl | rfl | rfl <;> kernel_rfl
theorem yields_idx {ops : Array Oper} {o : Oper} {a : Act} (x : Nat) (hx : x < 10) (u : Int) (hu : u = 48 + tightOf x) (s i : Operand) (hg : o.guard = none) (hop : o.op = .index 9 s i) (hs : a.eval s = .string ⟨#[54, 54, 55, 52, 49, 50, 53, 53, 51, 51]⟩) (hi : a.eval i = .int .i64 x) : Yields Tryd.prog ops o (.int .u8 u) a := by
  refine Or.inl ⟨by simp [Region.wanted, hg], fun w => ?_⟩
  subst hu
  have h := idx_tight x hx w
  simp only [execOp, hop, hs, hi]
  first
    | (simp only [Sem.run_map, h]; done)
    | (simp [h, Result.andThen]; done)
theorem one_stmt {w : World} {P : Nat → Prop} {k : Nat} {nm : ByteArray} {t : Tree} {m p : Int} {A' : Option Addr} {n' c' : Nat} (h : ThA [.cons k nm [t] m .nil .nil p .nil] P w A' n' c') :
    n' = 1 ∧ ∃ (g g2 g3 : Nat) (c2 c3 : Nat) (e : EV), A' = some ⟨g, 0, none⟩ ∧ w.cell? ⟨g, 0, none⟩ = some (.slice (some ⟨g2, 0, none⟩) 1 c2) ∧ w.cell? ⟨g2, 2, none⟩ = some (.slice (some ⟨g3, 0, none⟩) 1 c3) ∧
      (w.cell? ⟨g3, 0, none⟩ = some (.int .i64 e.k) ∧ w.cell? ⟨g3, 1, none⟩ = some (.int .i64 e.o) ∧ w.cell? ⟨g3, 2, none⟩ = some (.string e.s) ∧ w.cell? ⟨g3, 3, none⟩ = some (.int .u64 e.v) ∧ w.cell? ⟨g3, 4, none⟩ = some (.slice e.A e.n e.c) ∧ w.cell? ⟨g3, 5, none⟩ = some (.int .i64 e.p)) ∧ At t P w e := by
  obtain ⟨h1, vs, ⟨v, r, rfl, hb, hr⟩, hs⟩ := h
  rw [show r = [] from hr] at hs
  refine ⟨h1, ?_⟩
  rcases hs with ⟨_, e0, _⟩ | ⟨g, rfl, hg, _, _, hrow⟩
  · simp at h1; omega
  obtain ⟨hn, l, ⟨x, xs, rfl, _, _, _, _, hes, _, _, hx⟩, hsl⟩ := hb
  rw [show xs = [] from hx] at hsl
  rcases hsl with ⟨_, e0, _⟩ | ⟨g2, hA2, _, _, _, hrow2⟩
  · simp [Blk.len] at hn; omega
  obtain ⟨hen, ys, ⟨y, ys', rfl, hat, hy⟩, hse⟩ := hes
  rw [show ys' = [] from hy] at hse
  rcases hse with ⟨_, e0, _⟩ | ⟨g3, hA3, _, _, _, hrow3⟩
  · simp at hen; omega
  have hv : tcell v = .slice (some ⟨g2, 0, none⟩) 1 v.2.2 := by unfold tcell; rw [hA2, hn]; rfl
  refine ⟨g, g2, g3, v.2.2, x.ec, y, rfl, ?_, ?_, ⟨hrow3.cell rfl, hrow3.cell rfl, hrow3.cell rfl, hrow3.cell rfl, hrow3.cell rfl, hrow3.cell rfl⟩, hat⟩
  · rw [← hv]; exact hrow.cell rfl
  · have : (Value.slice x.eA x.en x.ec) = .slice (some ⟨g3, 0, none⟩) 1 x.ec := by rw [hA3, hen]; rfl
    rw [← this]; exact hrow2.cell rfl
theorem two_kids {w : World} {P : Nat → Prop} {o : Nat} {a b : Tree} {p : Int} {e : EV} (h : At (.bin o a b p) P w e) : ∃ (g c : Nat) (x y : EV), e = ⟨3, o, ⟨#[]⟩, 0, some ⟨g, 0, none⟩, 2, c, p⟩ ∧ 2 ≤ c ∧ At a P w x ∧ At b P w y ∧
    (w.cell? ⟨g, 0, none⟩ = some (.int .i64 x.k) ∧ w.cell? ⟨g, 1, none⟩ = some (.int .i64 x.o) ∧ w.cell? ⟨g, 2, none⟩ = some (.string x.s)) ∧ (w.cell? ⟨g, 6, none⟩ = some (.int .i64 y.k) ∧ w.cell? ⟨g, 7, none⟩ = some (.int .i64 y.o) ∧ w.cell? ⟨g, 8, none⟩ = some (.string y.s)) := by
  obtain ⟨g, c, x, y, _, hc, he, hr, hx, hy⟩ := h
  exact ⟨g, c, x, y, he, hc, hx, hy, ⟨hr.cell rfl, hr.cell rfl, hr.cell rfl⟩, ⟨hr.cell rfl, hr.cell rfl, hr.cell rfl⟩⟩
theorem ThA.same {ts : List Blk} {P : Nat → Prop} {w w' : World} {A : Option Addr} {n c S : Nat} {cs : Array Value} (h : ThA ts P w A n c) (hS : w.heap[S]? = some (.cells cs TPg (0, 0))) (hk : ∀ i, i ≠ S → i < w.heap.size → w'.heap[i]? = w.heap[i]?) : ThA ts P w' A n c := by
  have st : ∀ {E : TypeId}, E ≠ TPg → Stay E P w w' := fun {E} hE i cs _ hc => hk i (by
    rintro rfl
    rw [hS] at hc
    injection hc with hc; injection hc with _ hc _
    exact hE hc.symm) (lt_heap hc)
  obtain ⟨h1, vs, h2, h3⟩ := h
  exact ⟨h1, vs, h2.stay (fun _ h _ => h) (st (by decide)) (st (by decide)), h3.stay (fun _ h _ => h) (st (by decide))⟩
set_option maxRecDepth 100000 in
set_option maxHeartbeats 4000000 in
theorem bind_calls (a b : Int) (x y : Nat) (w : World) (ha : 0 ≤ a) (ha' : a < 256) (hb : 0 ≤ b) (hb' : b < 256) (hx : a % 10 = x) (hy : b % 10 = y) (hg : GT w) : Calls Tryd.prog 4 #[.int .u8 a, .int .u8 b] w fun e w' => e = .returned (.bool true) ∧ Below w.heap.size w w' := by
  have hx10 : x < 10 := by omega
  have hy10 : y < 10 := by omega
  have HX := Lib.hid hx
  have HY := Lib.hid hy
  have HG := Lib.hid hg
  have HP : Hid (parse ((⟨#[116, 104, 114, 101, 97, 100, 32, 123, 32, 118, 32, 61, 32, 105, 32]⟩ : ByteArray) ++ signOf x ++ ⟨#[32, 106, 32]⟩ ++ signOf y ++ ⟨#[32, 107, 59, 32, 125]⟩) = .ok ⟨[], [.cons 1 ⟨#[118]⟩ [btree x y] 0 .nil .nil 9 .nil]⟩) := Lib.hid (bind_parse x y hx10 hy10)
  have hs1 := sign_sz x
  have hs2 := sign_sz y
  clear hx hy hg
  go_enter Tryd.func4, Tryd.ntmps4
  go_upto_region 6 with (go_at_call 11; refine (awake5_calls w HG.out).mono ?_; rintro e w1 ⟨rfl, hb1⟩; have HB1 := Lib.hid hb1; clear hb1)
  simp only [HX.out, HY.out]
  obtain ⟨w3, hw3⟩ : ∃ w3, w3 = w1.alloc (.cells bsigns 9) := ⟨_, rfl⟩
  show Code.wp _ _ _ _ (w1.alloc (.cells bsigns 9))
  rw [← hw3]
  have HB3 : Hid (Below w.heap.size w w3) := Lib.hid (by rw [hw3]; exact HB1.out.alloc HB1.out.size _)
  have HS3 : Hid (w3.heap[w1.heap.size]? = some (.cells bsigns 9 (0, 0))) := Lib.hid (by rw [hw3]; exact blk_new _ _)
  clear hw3
  have s1 : w3.cell? ⟨w1.heap.size, x, none⟩ = some (.string (signOf x)) := (blk_cell HS3.out x).trans (bsign_at x hx10)
  have s2 : w3.cell? ⟨w1.heap.size, y, none⟩ = some (.string (signOf y)) := (blk_cell HS3.out y).trans (bsign_at y hy10)
  have i1 : (0 : Int) ≤ (x : Int) := by omega
  have i2 : (x : Int) < 10 := by omega
  have i3 : (0 : Int) ≤ (y : Int) := by omega
  have i4 : (y : Int) < 10 := by omega
  have hl3 := lt_heap HS3.out
  have z1 : ¬ 9223372036854775807 < 15 + (signOf x).size := by omega
  have z2 : ¬ 9223372036854775807 < 15 + (signOf x).size + 3 := by omega
  have z3 : ¬ 9223372036854775807 < 15 + (signOf x).size + 3 + (signOf y).size := by omega
  have z4 : ¬ 9223372036854775807 < 15 + (signOf x).size + 3 + (signOf y).size + 5 := by omega
  go_region_held3 (fun w' => w'.cell? ⟨w1.heap.size, x, none⟩ = some (.string (signOf x)) ∧ w'.cell? ⟨w1.heap.size, y, none⟩ = some (.string (signOf y)))
    (first
      | with_reducible exact ⟨s1, s2⟩
      | with_reducible exact ⟨cell_dr s1, cell_dr s2⟩
      | with_reducible exact ⟨t1, t2⟩
      | with_reducible exact ⟨cell_dr (cell_al s1 _), cell_dr (cell_al s2 _)⟩
      | with_reducible exact ⟨cell_al t1 _, cell_al t2 _⟩
      | go_keep)
    (first
      | (go_at_call 12; (with_reducible refine (prog_ok HP.out w3.drew).mono ?_); rintro e w4 ⟨A, n, c, A', n', c', rfl, hb4, ⟨hn, _⟩, hth⟩; obtain rfl : n = 0 := hn; have HTH := Lib.hid hth; have HB4 : Hid (Below w3.heap.size w3 w4) := Lib.hid ⟨hb4.os, hb4.tape, hb4.output, hb4.size, hb4.block⟩; have t1 : w4.cell? ⟨w1.heap.size, x, none⟩ = some (.string (signOf x)) := (HB4.out.cell (p := ⟨w1.heap.size, x, none⟩) hl3).trans s1; have t2 : w4.cell? ⟨w1.heap.size, y, none⟩ = some (.string (signOf y)) := (HB4.out.cell (p := ⟨w1.heap.size, y, none⟩) hl3).trans s2; clear hth hb4)
      | (go_at_call 12; (with_reducible refine (prog_ok HP.out (w3.alloc (.cells #[.slice none 0 0, .slice none 0 0] TPg)).drew).mono ?_); rintro e w4 ⟨A, n, c, A', n', c', rfl, hb4, ⟨hn, _⟩, hth⟩; obtain rfl : n = 0 := hn; have HTH := Lib.hid hth; have HB4 : Hid (Below (w3.alloc (.cells #[.slice none 0 0, .slice none 0 0] TPg)).heap.size (w3.alloc (.cells #[.slice none 0 0, .slice none 0 0] TPg)) w4) := Lib.hid ⟨hb4.os, hb4.tape, hb4.output, hb4.size, hb4.block⟩; have t1 : w4.cell? ⟨w1.heap.size, x, none⟩ = some (.string (signOf x)) := (HB4.out.cell (p := ⟨w1.heap.size, x, none⟩) (by simp; omega)).trans (cell_al s1 _); have t2 : w4.cell? ⟨w1.heap.size, y, none⟩ = some (.string (signOf y)) := (HB4.out.cell (p := ⟨w1.heap.size, y, none⟩) (by simp; omega)).trans (cell_al s2 _); have HZ := Lib.hid (blk_below (blk_new w3 (.cells #[.slice none 0 0, .slice none 0 0] TPg)) HB4.out); have z5 : w4.cell? ⟨w3.heap.size, 0, none⟩ = some (.slice none 0 0) := (blk_cell HZ.out 0).trans rfl; have z6 : w4.cell? ⟨w3.heap.size, 1, none⟩ = some (.slice none 0 0) := (blk_cell HZ.out 1).trans rfl; have z7 : w4.frozen? ⟨w3.heap.size, 0, none⟩ = false := blk_frozen HZ.out 0; have z8 : w4.frozen? ⟨w3.heap.size, 1, none⟩ = false := blk_frozen HZ.out 1; have hne3 : w3.heap.size ≠ w1.heap.size := (by omega); clear hth hb4))
  · obtain ⟨P, hP⟩ : ∃ P, P = w4.heap.size := ⟨_, rfl⟩
    obtain ⟨w5, hw5⟩ : ∃ w5, w5 = w4.alloc (.cells #[.slice A 0 c, .slice A' n' c'] TPg) := ⟨_, rfl⟩
    have HP5 : Hid (w5.heap[P]? = some (.cells #[.slice A 0 c, .slice A' n' c'] TPg (0, 0))) := Lib.hid (by rw [hw5, hP]; exact blk_new _ _)
    have HB5 : Hid (Below w.heap.size w w5) := Lib.hid (by rw [hw5]; exact (HB3.out.trans (HB4.out.mono HB3.out.size)).alloc (Nat.le_trans HB3.out.size HB4.out.size) _)
    have HTH5 : Hid (ThA [.cons 1 ⟨#[118]⟩ [btree x y] 0 .nil .nil 9 .nil] (fun i => w3.heap.size ≤ i) w5 A' n' c') := Lib.hid (by
      rw [hw5]
      obtain ⟨h1, vs, h2, h3⟩ := HTH.out
      exact ⟨h1, vs, h2.mono (fun _ h _ => h) (fun i _ hi => Below.heap_alloc _ _ _ hi), h3.mono (fun _ h _ => h) (fun i _ hi => Below.heap_alloc _ _ _ hi)⟩)
    show Exit.then _ _ _ _ (w4.alloc (.cells #[.slice A 0 c, .slice A' n' c'] TPg))
    rw [← hw5, ← hP]
    clear hw5 hP t1 t2
    clear z1 z2 z3 z4 s1 s2 hl3
    obtain ⟨rfl, g, g2, g3, c2, c3, e, rfl, k1, k2, ⟨y0, y1, y2, y3, y4, y5⟩, hat⟩ := one_stmt HTH5.out
    have p0 := (blk_cell HP5.out 0).trans (show _ = some (Value.slice A 0 c) from rfl)
    have p1 := (blk_cell HP5.out 1).trans (show _ = some (Value.slice (some ⟨g, 0, none⟩) 1 c') from rfl)
    by_cases hle : tightOf y ≤ tightOf x
    · rw [show btree x y = _ from if_pos hle] at hat
      obtain ⟨g4, c4, xa, xb, rfl, hc4, hxa, hxb, ⟨a0, a1, a2⟩, ⟨b0, b1, b2⟩⟩ := two_kids hat
      obtain ⟨_, _, _, _, rfl, _⟩ := two_kids hxa
      rw [show xb = _ from hxb] at b0 b1 b2
      have HAT := Lib.hid hat
      clear hat hxa hxb
      go_upto_region 10 with fail
      obtain ⟨u, hu⟩ : ∃ u : Int, u = 48 + tightOf x := ⟨_, rfl⟩
      obtain ⟨v, hv⟩ : ∃ v : Int, v = 48 + tightOf y := ⟨_, rfl⟩
      have HU := Lib.hid hu
      have HV := Lib.hid hv
      have hvu : v ≤ u := by omega
      have HK := Lib.hid (And.intro p0 (And.intro p1 (And.intro k1 (And.intro k2 (And.intro a0 (And.intro a1 (And.intro a2 (And.intro b0 (And.intro b1 b2)))))))))
      have HL := Lib.hid (And.intro (lt_heap HP5.out) hc4)
      clear hle hu hv HAT p0 p1 k1 k2 a0 a1 a2 b0 b1 b2 hc4 y0 y1 y2 y3 y4 y5
      refine wp_region_S [] (by kernel_rfl) SL.nil (fun hS => ?_)
      (refine wpAnyS_free 0 (v := ?_) rfl (by kernel_rfl) (by kernel_rfl) (by kernel_rfl) (by simp) (fun _ _ _ h => h) (Or.inl ⟨by rfl, ?_⟩) hS (fun hS => ?_); rotate_left; · ((intro w; go_simp) <;> with_reducible rfl); try simp only [List.getElem_toArray, List.getElem_cons_succ, List.getElem_cons_zero, Act.put, List.setIfInBounds_toArray, List.set_cons_zero, List.set_cons_succ])
      (refine wpAnyS_free 1 (v := ?_) rfl (by kernel_rfl) (by kernel_rfl) (by kernel_rfl) (by simp) (fun _ _ _ h => h) (Or.inl ⟨by rfl, ?_⟩) hS (fun hS => ?_); rotate_left; · ((intro w; go_simp) <;> with_reducible rfl); try simp only [List.getElem_toArray, List.getElem_cons_succ, List.getElem_cons_zero, Act.put, List.setIfInBounds_toArray, List.set_cons_zero, List.set_cons_succ])
      (refine wpAnyS_free 3 (v := ?_) rfl (by kernel_rfl) (by kernel_rfl) (by kernel_rfl) (by simp) (fun _ _ _ h => h) (Or.inl ⟨by rfl, ?_⟩) hS (fun hS => ?_); rotate_left; · ((intro w; go_simp) <;> with_reducible rfl); try simp only [List.getElem_toArray, List.getElem_cons_succ, List.getElem_cons_zero, Act.put, List.setIfInBounds_toArray, List.set_cons_zero, List.set_cons_succ])
      (refine wpAnyS_free 4 (v := ?_) rfl (by kernel_rfl) (by kernel_rfl) (by kernel_rfl) (by simp) (fun _ _ _ h => h) (Or.inl ⟨by rfl, ?_⟩) hS (fun hS => ?_); rotate_left; · ((intro w; go_simp) <;> with_reducible rfl); try simp only [List.getElem_toArray, List.getElem_cons_succ, List.getElem_cons_zero, Act.put, List.setIfInBounds_toArray, List.set_cons_zero, List.set_cons_succ])
      (refine wpAnyS_free 2 rfl (by kernel_rfl) (by kernel_rfl) (by kernel_rfl) (by simp) (fun _ _ _ h => h) (yields_idx x hx10 _ HU.out _ _ (by rfl) (by rfl) (by rfl) (by rfl)) hS (fun hS => ?_); try simp only [List.getElem_toArray, List.getElem_cons_succ, List.getElem_cons_zero, Act.put, List.setIfInBounds_toArray, List.set_cons_zero, List.set_cons_succ])
      (refine wpAnyS_free 5 rfl (by kernel_rfl) (by kernel_rfl) (by kernel_rfl) (by simp) (fun _ _ _ h => h) (yields_idx y hy10 _ HV.out _ _ (by rfl) (by rfl) (by rfl) (by rfl)) hS (fun hS => ?_); try simp only [List.getElem_toArray, List.getElem_cons_succ, List.getElem_cons_zero, Act.put, List.setIfInBounds_toArray, List.set_cons_zero, List.set_cons_succ])
      (refine wpAnyS_free 6 (v := ?_) rfl (by kernel_rfl) (by kernel_rfl) (by kernel_rfl) (by simp) (fun _ _ _ h => h) (Or.inl ⟨by rfl, ?_⟩) hS (fun hS => ?_); rotate_left; · ((intro w; go_simp) <;> with_reducible rfl); try simp only [List.getElem_toArray, List.getElem_cons_succ, List.getElem_cons_zero, Act.put, List.setIfInBounds_toArray, List.set_cons_zero, List.set_cons_succ])
      refine wpAnyS_done (by kernel_rfl) ?_ _
      obtain ⟨E, hE⟩ : ∃ E, E = w5.heap.size := ⟨_, rfl⟩
      obtain ⟨W6, hW6⟩ : ∃ W6, W6 = (w5.alloc (.cells (EV.cells ⟨3, y, ⟨#[]⟩, 0, some ⟨g4, 0, none⟩, 2, c4, 13⟩).toArray TE)).drew := ⟨_, rfl⟩
      have HE6 : Hid (W6.heap[E]? = some (.cells (EV.cells ⟨3, y, ⟨#[]⟩, 0, some ⟨g4, 0, none⟩, 2, c4, 13⟩).toArray TE (0, 0))) := Lib.hid (by rw [hW6, hE]; exact blk_new w5 _)
      have HB6 : Hid (Below w.heap.size w W6) := Lib.hid (by rw [hW6]; exact (HB5.out.alloc HB5.out.size _).drew)
      have keep : ∀ {a : Addr} {z : Value}, w5.cell? a = some z → W6.cell? a = some z := fun h => by rw [hW6]; exact cell_dr (cell_al h _)
      obtain ⟨_, _, _, _, a0, a1, a2, b0, b1, b2⟩ := HK.out
      replace a0 := keep a0
      replace a1 := keep a1
      replace a2 := keep a2
      replace b0 := keep b0
      replace b1 := keep b1
      replace b2 := keep b2
      have hc4 := HL.out.2
      show Exit.then _ _ _ _ (w5.alloc (.cells (EV.cells ⟨3, y, ⟨#[]⟩, 0, some ⟨g4, 0, none⟩, 2, c4, 13⟩).toArray TE)).drew
      rw [← hW6, ← hE]
      clear keep hW6 hE HU HV hS
      obtain ⟨y0, y1, y2, y3, y4, y5⟩ := cells6 (x := ⟨3, y, ⟨#[]⟩, 0, some ⟨g4, 0, none⟩, 2, c4, 13⟩) HE6.out
      go_wp2
      go_ret
      exact ⟨rfl, HB6.out⟩
    · rw [show btree x y = _ from if_neg hle] at hat
      obtain ⟨g4, c4, xa, xb, rfl, hc4, hxa, hxb, ⟨a0, a1, a2⟩, ⟨b0, b1, b2⟩⟩ := two_kids hat
      obtain ⟨_, _, _, _, rfl, _⟩ := two_kids hxb
      rw [show xa = _ from hxa] at a0 a1 a2
      have HAT := Lib.hid hat
      clear hat hxa hxb
      go_upto_region 10 with fail
      obtain ⟨u, hu⟩ : ∃ u : Int, u = 48 + tightOf x := ⟨_, rfl⟩
      obtain ⟨v, hv⟩ : ∃ v : Int, v = 48 + tightOf y := ⟨_, rfl⟩
      have HU := Lib.hid hu
      have HV := Lib.hid hv
      have hvu : ¬ v ≤ u := by omega
      have HK := Lib.hid (And.intro p0 (And.intro p1 (And.intro k1 (And.intro k2 (And.intro a0 (And.intro a1 (And.intro a2 (And.intro b0 (And.intro b1 b2)))))))))
      have HL := Lib.hid (And.intro (lt_heap HP5.out) hc4)
      clear hle hu hv HAT p0 p1 k1 k2 a0 a1 a2 b0 b1 b2 hc4 y0 y1 y2 y3 y4 y5
      refine wp_region_S [] (by kernel_rfl) SL.nil (fun hS => ?_)
      (refine wpAnyS_free 0 (v := ?_) rfl (by kernel_rfl) (by kernel_rfl) (by kernel_rfl) (by simp) (fun _ _ _ h => h) (Or.inl ⟨by rfl, ?_⟩) hS (fun hS => ?_); rotate_left; · ((intro w; go_simp) <;> with_reducible rfl); try simp only [List.getElem_toArray, List.getElem_cons_succ, List.getElem_cons_zero, Act.put, List.setIfInBounds_toArray, List.set_cons_zero, List.set_cons_succ])
      (refine wpAnyS_free 1 (v := ?_) rfl (by kernel_rfl) (by kernel_rfl) (by kernel_rfl) (by simp) (fun _ _ _ h => h) (Or.inl ⟨by rfl, ?_⟩) hS (fun hS => ?_); rotate_left; · ((intro w; go_simp) <;> with_reducible rfl); try simp only [List.getElem_toArray, List.getElem_cons_succ, List.getElem_cons_zero, Act.put, List.setIfInBounds_toArray, List.set_cons_zero, List.set_cons_succ])
      (refine wpAnyS_free 3 (v := ?_) rfl (by kernel_rfl) (by kernel_rfl) (by kernel_rfl) (by simp) (fun _ _ _ h => h) (Or.inl ⟨by rfl, ?_⟩) hS (fun hS => ?_); rotate_left; · ((intro w; go_simp) <;> with_reducible rfl); try simp only [List.getElem_toArray, List.getElem_cons_succ, List.getElem_cons_zero, Act.put, List.setIfInBounds_toArray, List.set_cons_zero, List.set_cons_succ])
      (refine wpAnyS_free 4 (v := ?_) rfl (by kernel_rfl) (by kernel_rfl) (by kernel_rfl) (by simp) (fun _ _ _ h => h) (Or.inl ⟨by rfl, ?_⟩) hS (fun hS => ?_); rotate_left; · ((intro w; go_simp) <;> with_reducible rfl); try simp only [List.getElem_toArray, List.getElem_cons_succ, List.getElem_cons_zero, Act.put, List.setIfInBounds_toArray, List.set_cons_zero, List.set_cons_succ])
      (refine wpAnyS_free 2 rfl (by kernel_rfl) (by kernel_rfl) (by kernel_rfl) (by simp) (fun _ _ _ h => h) (yields_idx x hx10 _ HU.out _ _ (by rfl) (by rfl) (by rfl) (by rfl)) hS (fun hS => ?_); try simp only [List.getElem_toArray, List.getElem_cons_succ, List.getElem_cons_zero, Act.put, List.setIfInBounds_toArray, List.set_cons_zero, List.set_cons_succ])
      (refine wpAnyS_free 5 rfl (by kernel_rfl) (by kernel_rfl) (by kernel_rfl) (by simp) (fun _ _ _ h => h) (yields_idx y hy10 _ HV.out _ _ (by rfl) (by rfl) (by rfl) (by rfl)) hS (fun hS => ?_); try simp only [List.getElem_toArray, List.getElem_cons_succ, List.getElem_cons_zero, Act.put, List.setIfInBounds_toArray, List.set_cons_zero, List.set_cons_succ])
      (refine wpAnyS_free 6 (v := ?_) rfl (by kernel_rfl) (by kernel_rfl) (by kernel_rfl) (by simp) (fun _ _ _ h => h) (Or.inl ⟨by rfl, ?_⟩) hS (fun hS => ?_); rotate_left; · ((intro w; go_simp) <;> with_reducible rfl); try simp only [List.getElem_toArray, List.getElem_cons_succ, List.getElem_cons_zero, Act.put, List.setIfInBounds_toArray, List.set_cons_zero, List.set_cons_succ])
      refine wpAnyS_done (by kernel_rfl) ?_ _
      obtain ⟨E, hE⟩ : ∃ E, E = w5.heap.size := ⟨_, rfl⟩
      obtain ⟨W6, hW6⟩ : ∃ W6, W6 = (w5.alloc (.cells (EV.cells ⟨3, x, ⟨#[]⟩, 0, some ⟨g4, 0, none⟩, 2, c4, 13⟩).toArray TE)).drew := ⟨_, rfl⟩
      have HE6 : Hid (W6.heap[E]? = some (.cells (EV.cells ⟨3, x, ⟨#[]⟩, 0, some ⟨g4, 0, none⟩, 2, c4, 13⟩).toArray TE (0, 0))) := Lib.hid (by rw [hW6, hE]; exact blk_new w5 _)
      have HB6 : Hid (Below w.heap.size w W6) := Lib.hid (by rw [hW6]; exact (HB5.out.alloc HB5.out.size _).drew)
      have keep : ∀ {a : Addr} {z : Value}, w5.cell? a = some z → W6.cell? a = some z := fun h => by rw [hW6]; exact cell_dr (cell_al h _)
      obtain ⟨_, _, _, _, a0, a1, a2, b0, b1, b2⟩ := HK.out
      replace a0 := keep a0
      replace a1 := keep a1
      replace a2 := keep a2
      replace b0 := keep b0
      replace b1 := keep b1
      replace b2 := keep b2
      have hc4 := HL.out.2
      show Exit.then _ _ _ _ (w5.alloc (.cells (EV.cells ⟨3, x, ⟨#[]⟩, 0, some ⟨g4, 0, none⟩, 2, c4, 13⟩).toArray TE)).drew
      rw [← hW6, ← hE]
      clear keep hW6 hE HU HV hS
      obtain ⟨y0, y1, y2, y3, y4, y5⟩ := cells6 (x := ⟨3, x, ⟨#[]⟩, 0, some ⟨g4, 0, none⟩, 2, c4, 13⟩) HE6.out
      go_wp2
      go_ret
      exact ⟨rfl, HB6.out⟩
  · obtain ⟨P, hP⟩ : ∃ P, P = w3.heap.size := ⟨_, rfl⟩
    obtain ⟨w5, hw5⟩ : ∃ w5, w5 = (w4.setCell ⟨w3.heap.size, 0, none⟩ (.slice A 0 c)).setCell ⟨w3.heap.size, 1, none⟩ (.slice A' n' c') := ⟨_, rfl⟩
    have HP5 : Hid (w5.heap[P]? = some (.cells #[.slice A 0 c, .slice A' n' c'] TPg (0, 0))) := Lib.hid (by rw [hw5, hP]; exact blk_put (blk_put HZ.out 0 _ rfl) 1 _ rfl)
    have HB5 : Hid (Below w.heap.size w w5) := Lib.hid (by rw [hw5]; exact ((((HB3.out.alloc HB3.out.size _).trans (HB4.out.mono (by have := HB3.out.size; simp; omega))).setCell (p := ⟨w3.heap.size, 0, none⟩) HB3.out.size _).setCell (p := ⟨w3.heap.size, 1, none⟩) HB3.out.size _))
    have HTH5 : Hid (ThA [.cons 1 ⟨#[118]⟩ [btree x y] 0 .nil .nil 9 .nil] (fun i => w3.heap.size ≤ i) w5 A' n' c') := Lib.hid (by
      rw [hw5]
      have := HTH.out.same HZ.out (w' := (w4.setCell ⟨w3.heap.size, 0, none⟩ (.slice A 0 c)).setCell ⟨w3.heap.size, 1, none⟩ (.slice A' n' c')) (fun i hi _ => (Below.heap_setCell _ _ _ _ hi).trans (Below.heap_setCell _ _ _ _ hi))
      obtain ⟨h1, vs, h2, h3⟩ := this
      have hP' : ∀ i, (w3.alloc (.cells #[.slice none 0 0, .slice none 0 0] TPg)).drew.heap.size ≤ i → w3.heap.size ≤ i := fun i hi => by
        have : w3.heap.size + 1 ≤ i := by simpa using hi
        omega
      exact ⟨h1, vs, h2.mono (fun i hi _ => hP' i hi) (fun _ _ _ => rfl), h3.mono (fun i hi _ => hP' i hi) (fun _ _ _ => rfl)⟩)
    show Exit.then _ _ _ _ ((w4.setCell ⟨w3.heap.size, 0, none⟩ (.slice A 0 c)).setCell ⟨w3.heap.size, 1, none⟩ (.slice A' n' c'))
    rw [← hw5, ← hP]
    clear hw5 hP t1 t2 z5 z6 z7 z8 hne3
    clear z1 z2 z3 z4 s1 s2 hl3
    obtain ⟨rfl, g, g2, g3, c2, c3, e, rfl, k1, k2, ⟨y0, y1, y2, y3, y4, y5⟩, hat⟩ := one_stmt HTH5.out
    have p0 := (blk_cell HP5.out 0).trans (show _ = some (Value.slice A 0 c) from rfl)
    have p1 := (blk_cell HP5.out 1).trans (show _ = some (Value.slice (some ⟨g, 0, none⟩) 1 c') from rfl)
    by_cases hle : tightOf y ≤ tightOf x
    · rw [show btree x y = _ from if_pos hle] at hat
      obtain ⟨g4, c4, xa, xb, rfl, hc4, hxa, hxb, ⟨a0, a1, a2⟩, ⟨b0, b1, b2⟩⟩ := two_kids hat
      obtain ⟨_, _, _, _, rfl, _⟩ := two_kids hxa
      rw [show xb = _ from hxb] at b0 b1 b2
      have HAT := Lib.hid hat
      clear hat hxa hxb
      go_upto_region 10 with fail
      obtain ⟨u, hu⟩ : ∃ u : Int, u = 48 + tightOf x := ⟨_, rfl⟩
      obtain ⟨v, hv⟩ : ∃ v : Int, v = 48 + tightOf y := ⟨_, rfl⟩
      have HU := Lib.hid hu
      have HV := Lib.hid hv
      have hvu : v ≤ u := by omega
      have HK := Lib.hid (And.intro p0 (And.intro p1 (And.intro k1 (And.intro k2 (And.intro a0 (And.intro a1 (And.intro a2 (And.intro b0 (And.intro b1 b2)))))))))
      have HL := Lib.hid (And.intro (lt_heap HP5.out) hc4)
      clear hle hu hv HAT p0 p1 k1 k2 a0 a1 a2 b0 b1 b2 hc4 y0 y1 y2 y3 y4 y5
      refine wp_region_S [] (by kernel_rfl) SL.nil (fun hS => ?_)
      (refine wpAnyS_free 0 (v := ?_) rfl (by kernel_rfl) (by kernel_rfl) (by kernel_rfl) (by simp) (fun _ _ _ h => h) (Or.inl ⟨by rfl, ?_⟩) hS (fun hS => ?_); rotate_left; · ((intro w; go_simp) <;> with_reducible rfl); try simp only [List.getElem_toArray, List.getElem_cons_succ, List.getElem_cons_zero, Act.put, List.setIfInBounds_toArray, List.set_cons_zero, List.set_cons_succ])
      (refine wpAnyS_free 1 (v := ?_) rfl (by kernel_rfl) (by kernel_rfl) (by kernel_rfl) (by simp) (fun _ _ _ h => h) (Or.inl ⟨by rfl, ?_⟩) hS (fun hS => ?_); rotate_left; · ((intro w; go_simp) <;> with_reducible rfl); try simp only [List.getElem_toArray, List.getElem_cons_succ, List.getElem_cons_zero, Act.put, List.setIfInBounds_toArray, List.set_cons_zero, List.set_cons_succ])
      (refine wpAnyS_free 3 (v := ?_) rfl (by kernel_rfl) (by kernel_rfl) (by kernel_rfl) (by simp) (fun _ _ _ h => h) (Or.inl ⟨by rfl, ?_⟩) hS (fun hS => ?_); rotate_left; · ((intro w; go_simp) <;> with_reducible rfl); try simp only [List.getElem_toArray, List.getElem_cons_succ, List.getElem_cons_zero, Act.put, List.setIfInBounds_toArray, List.set_cons_zero, List.set_cons_succ])
      (refine wpAnyS_free 4 (v := ?_) rfl (by kernel_rfl) (by kernel_rfl) (by kernel_rfl) (by simp) (fun _ _ _ h => h) (Or.inl ⟨by rfl, ?_⟩) hS (fun hS => ?_); rotate_left; · ((intro w; go_simp) <;> with_reducible rfl); try simp only [List.getElem_toArray, List.getElem_cons_succ, List.getElem_cons_zero, Act.put, List.setIfInBounds_toArray, List.set_cons_zero, List.set_cons_succ])
      (refine wpAnyS_free 2 rfl (by kernel_rfl) (by kernel_rfl) (by kernel_rfl) (by simp) (fun _ _ _ h => h) (yields_idx x hx10 _ HU.out _ _ (by rfl) (by rfl) (by rfl) (by rfl)) hS (fun hS => ?_); try simp only [List.getElem_toArray, List.getElem_cons_succ, List.getElem_cons_zero, Act.put, List.setIfInBounds_toArray, List.set_cons_zero, List.set_cons_succ])
      (refine wpAnyS_free 5 rfl (by kernel_rfl) (by kernel_rfl) (by kernel_rfl) (by simp) (fun _ _ _ h => h) (yields_idx y hy10 _ HV.out _ _ (by rfl) (by rfl) (by rfl) (by rfl)) hS (fun hS => ?_); try simp only [List.getElem_toArray, List.getElem_cons_succ, List.getElem_cons_zero, Act.put, List.setIfInBounds_toArray, List.set_cons_zero, List.set_cons_succ])
      (refine wpAnyS_free 6 (v := ?_) rfl (by kernel_rfl) (by kernel_rfl) (by kernel_rfl) (by simp) (fun _ _ _ h => h) (Or.inl ⟨by rfl, ?_⟩) hS (fun hS => ?_); rotate_left; · ((intro w; go_simp) <;> with_reducible rfl); try simp only [List.getElem_toArray, List.getElem_cons_succ, List.getElem_cons_zero, Act.put, List.setIfInBounds_toArray, List.set_cons_zero, List.set_cons_succ])
      refine wpAnyS_done (by kernel_rfl) ?_ _
      obtain ⟨E, hE⟩ : ∃ E, E = w5.heap.size := ⟨_, rfl⟩
      obtain ⟨W6, hW6⟩ : ∃ W6, W6 = (w5.alloc (.cells (EV.cells ⟨3, y, ⟨#[]⟩, 0, some ⟨g4, 0, none⟩, 2, c4, 13⟩).toArray TE)).drew := ⟨_, rfl⟩
      have HE6 : Hid (W6.heap[E]? = some (.cells (EV.cells ⟨3, y, ⟨#[]⟩, 0, some ⟨g4, 0, none⟩, 2, c4, 13⟩).toArray TE (0, 0))) := Lib.hid (by rw [hW6, hE]; exact blk_new w5 _)
      have HB6 : Hid (Below w.heap.size w W6) := Lib.hid (by rw [hW6]; exact (HB5.out.alloc HB5.out.size _).drew)
      have keep : ∀ {a : Addr} {z : Value}, w5.cell? a = some z → W6.cell? a = some z := fun h => by rw [hW6]; exact cell_dr (cell_al h _)
      obtain ⟨_, _, _, _, a0, a1, a2, b0, b1, b2⟩ := HK.out
      replace a0 := keep a0
      replace a1 := keep a1
      replace a2 := keep a2
      replace b0 := keep b0
      replace b1 := keep b1
      replace b2 := keep b2
      have hc4 := HL.out.2
      show Exit.then _ _ _ _ (w5.alloc (.cells (EV.cells ⟨3, y, ⟨#[]⟩, 0, some ⟨g4, 0, none⟩, 2, c4, 13⟩).toArray TE)).drew
      rw [← hW6, ← hE]
      clear keep hW6 hE HU HV hS
      obtain ⟨y0, y1, y2, y3, y4, y5⟩ := cells6 (x := ⟨3, y, ⟨#[]⟩, 0, some ⟨g4, 0, none⟩, 2, c4, 13⟩) HE6.out
      go_wp2
      go_ret
      exact ⟨rfl, HB6.out⟩
    · rw [show btree x y = _ from if_neg hle] at hat
      obtain ⟨g4, c4, xa, xb, rfl, hc4, hxa, hxb, ⟨a0, a1, a2⟩, ⟨b0, b1, b2⟩⟩ := two_kids hat
      obtain ⟨_, _, _, _, rfl, _⟩ := two_kids hxb
      rw [show xa = _ from hxa] at a0 a1 a2
      have HAT := Lib.hid hat
      clear hat hxa hxb
      go_upto_region 10 with fail
      obtain ⟨u, hu⟩ : ∃ u : Int, u = 48 + tightOf x := ⟨_, rfl⟩
      obtain ⟨v, hv⟩ : ∃ v : Int, v = 48 + tightOf y := ⟨_, rfl⟩
      have HU := Lib.hid hu
      have HV := Lib.hid hv
      have hvu : ¬ v ≤ u := by omega
      have HK := Lib.hid (And.intro p0 (And.intro p1 (And.intro k1 (And.intro k2 (And.intro a0 (And.intro a1 (And.intro a2 (And.intro b0 (And.intro b1 b2)))))))))
      have HL := Lib.hid (And.intro (lt_heap HP5.out) hc4)
      clear hle hu hv HAT p0 p1 k1 k2 a0 a1 a2 b0 b1 b2 hc4 y0 y1 y2 y3 y4 y5
      refine wp_region_S [] (by kernel_rfl) SL.nil (fun hS => ?_)
      (refine wpAnyS_free 0 (v := ?_) rfl (by kernel_rfl) (by kernel_rfl) (by kernel_rfl) (by simp) (fun _ _ _ h => h) (Or.inl ⟨by rfl, ?_⟩) hS (fun hS => ?_); rotate_left; · ((intro w; go_simp) <;> with_reducible rfl); try simp only [List.getElem_toArray, List.getElem_cons_succ, List.getElem_cons_zero, Act.put, List.setIfInBounds_toArray, List.set_cons_zero, List.set_cons_succ])
      (refine wpAnyS_free 1 (v := ?_) rfl (by kernel_rfl) (by kernel_rfl) (by kernel_rfl) (by simp) (fun _ _ _ h => h) (Or.inl ⟨by rfl, ?_⟩) hS (fun hS => ?_); rotate_left; · ((intro w; go_simp) <;> with_reducible rfl); try simp only [List.getElem_toArray, List.getElem_cons_succ, List.getElem_cons_zero, Act.put, List.setIfInBounds_toArray, List.set_cons_zero, List.set_cons_succ])
      (refine wpAnyS_free 3 (v := ?_) rfl (by kernel_rfl) (by kernel_rfl) (by kernel_rfl) (by simp) (fun _ _ _ h => h) (Or.inl ⟨by rfl, ?_⟩) hS (fun hS => ?_); rotate_left; · ((intro w; go_simp) <;> with_reducible rfl); try simp only [List.getElem_toArray, List.getElem_cons_succ, List.getElem_cons_zero, Act.put, List.setIfInBounds_toArray, List.set_cons_zero, List.set_cons_succ])
      (refine wpAnyS_free 4 (v := ?_) rfl (by kernel_rfl) (by kernel_rfl) (by kernel_rfl) (by simp) (fun _ _ _ h => h) (Or.inl ⟨by rfl, ?_⟩) hS (fun hS => ?_); rotate_left; · ((intro w; go_simp) <;> with_reducible rfl); try simp only [List.getElem_toArray, List.getElem_cons_succ, List.getElem_cons_zero, Act.put, List.setIfInBounds_toArray, List.set_cons_zero, List.set_cons_succ])
      (refine wpAnyS_free 2 rfl (by kernel_rfl) (by kernel_rfl) (by kernel_rfl) (by simp) (fun _ _ _ h => h) (yields_idx x hx10 _ HU.out _ _ (by rfl) (by rfl) (by rfl) (by rfl)) hS (fun hS => ?_); try simp only [List.getElem_toArray, List.getElem_cons_succ, List.getElem_cons_zero, Act.put, List.setIfInBounds_toArray, List.set_cons_zero, List.set_cons_succ])
      (refine wpAnyS_free 5 rfl (by kernel_rfl) (by kernel_rfl) (by kernel_rfl) (by simp) (fun _ _ _ h => h) (yields_idx y hy10 _ HV.out _ _ (by rfl) (by rfl) (by rfl) (by rfl)) hS (fun hS => ?_); try simp only [List.getElem_toArray, List.getElem_cons_succ, List.getElem_cons_zero, Act.put, List.setIfInBounds_toArray, List.set_cons_zero, List.set_cons_succ])
      (refine wpAnyS_free 6 (v := ?_) rfl (by kernel_rfl) (by kernel_rfl) (by kernel_rfl) (by simp) (fun _ _ _ h => h) (Or.inl ⟨by rfl, ?_⟩) hS (fun hS => ?_); rotate_left; · ((intro w; go_simp) <;> with_reducible rfl); try simp only [List.getElem_toArray, List.getElem_cons_succ, List.getElem_cons_zero, Act.put, List.setIfInBounds_toArray, List.set_cons_zero, List.set_cons_succ])
      refine wpAnyS_done (by kernel_rfl) ?_ _
      obtain ⟨E, hE⟩ : ∃ E, E = w5.heap.size := ⟨_, rfl⟩
      obtain ⟨W6, hW6⟩ : ∃ W6, W6 = (w5.alloc (.cells (EV.cells ⟨3, x, ⟨#[]⟩, 0, some ⟨g4, 0, none⟩, 2, c4, 13⟩).toArray TE)).drew := ⟨_, rfl⟩
      have HE6 : Hid (W6.heap[E]? = some (.cells (EV.cells ⟨3, x, ⟨#[]⟩, 0, some ⟨g4, 0, none⟩, 2, c4, 13⟩).toArray TE (0, 0))) := Lib.hid (by rw [hW6, hE]; exact blk_new w5 _)
      have HB6 : Hid (Below w.heap.size w W6) := Lib.hid (by rw [hW6]; exact (HB5.out.alloc HB5.out.size _).drew)
      have keep : ∀ {a : Addr} {z : Value}, w5.cell? a = some z → W6.cell? a = some z := fun h => by rw [hW6]; exact cell_dr (cell_al h _)
      obtain ⟨_, _, _, _, a0, a1, a2, b0, b1, b2⟩ := HK.out
      replace a0 := keep a0
      replace a1 := keep a1
      replace a2 := keep a2
      replace b0 := keep b0
      replace b1 := keep b1
      replace b2 := keep b2
      have hc4 := HL.out.2
      show Exit.then _ _ _ _ (w5.alloc (.cells (EV.cells ⟨3, x, ⟨#[]⟩, 0, some ⟨g4, 0, none⟩, 2, c4, 13⟩).toArray TE)).drew
      rw [← hW6, ← hE]
      clear keep hW6 hE HU HV hS
      obtain ⟨y0, y1, y2, y3, y4, y5⟩ := cells6 (x := ⟨3, x, ⟨#[]⟩, 0, some ⟨g4, 0, none⟩, 2, c4, 13⟩) HE6.out
      go_wp2
      go_ret
      exact ⟨rfl, HB6.out⟩
end Go.Proofs.YtcdgjgoplogiiaaDoor.PT
