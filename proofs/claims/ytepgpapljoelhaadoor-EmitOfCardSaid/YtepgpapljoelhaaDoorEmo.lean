/- The contract of emit.Of. -/
import Derived.Test.YtepgpapljoelhaaDoorLay
import Derived.Test.YtepgpapljoelhaaDoorPEx4
namespace Go.Proofs.YtepgpapljoelhaaDoor.PE
open Go.RowKit Go.Proofs.YtepgpapljoelhaaDoorW.PrintWords Go.Proofs.YtepgpapljoelhaaDoorW.PrintLast Go.Proofs.YtepgpapljoelhaaDoorW.PrintMore
set_option linter.unusedVariables false
set_option linter.unusedSimpArgs false

/-! ### plain -/
/-- What is laid of the first k codes. -/
def outTo (fr : Int) (ws : List Int) (l : List S37) (k : Nat) : List S37 := (l.take k).flatMap (codeOut fr ws)
def startOf (fr : Int) (ws : List Int) (l : List S37) (k : Nat) : Int := ((outTo fr ws l k).length : Int)
def aim (fr : Int) (ws : List Int) (l : List S37) (c : S37) : S37 := if jm c = true then ⟨c.f0, c.f1, c.f2, c.f3, c.f4, c.f5, c.f6, startOf fr ws l c.f7.toNat⟩ else c
/-- emit.Of's codes. -/
def emitL (fr : Int) (ws : List Int) (l : List S37) : List S37 := (outTo fr ws l l.length).map (aim fr ws l)
theorem outTo_succ (fr : Int) (ws : List Int) (l : List S37) (k : Nat) (h : k < l.length) : outTo fr ws l (k + 1) = outTo fr ws l k ++ codeOut fr ws l[k] := by
  unfold outTo
  rw [List.take_succ_eq_append_getElem h, List.flatMap_append]
  simp
theorem outTo_len (fr : Int) (ws : List Int) (l : List S37) : ∀ k, (outTo fr ws l k).length ≤ 5 * k
  | 0 => by simp [outTo]
  | k + 1 => by
    have h := outTo_len fr ws l k
    by_cases hk : k < l.length
    · rw [outTo_succ fr ws l k hk, List.length_append]
      have := codeOut_len fr ws l[k]
      omega
    · unfold outTo at *
      rw [List.take_of_length_le (by omega)] at *
      omega
theorem goodn_calls (n K : Nat) (A : Option Addr) (c : Nat) (l : List S37) (r : Bool) (w : World) (hn : n = l.length) (hr : Kd.C k37 w A n l) (hc : n ≤ c) (h : code_Good.f K l = some r) : Calls Tryd.prog 21 #[.slice A n c] w fun e w' => e = .returned (.bool r) ∧ Below w.heap.size w w' := by
  subst hn
  exact code_Good.calls K A c l r w hr hc h
theorem valuesn_calls (n K : Nat) (A : Option Addr) (c : Nat) (l : List S37) (r : Int) (w : World) (hn : n = l.length) (hr : Kd.C k37 w A n l) (hc : n ≤ c) (h : code_Values.f K l = some r) : Calls Tryd.prog 10 #[.slice A n c] w fun e w' => e = .returned (.int .i64 r) ∧ Below w.heap.size w w' := by
  subst hn
  exact code_Values.calls K A c l r w hr hc h
theorem boxcell (w w' : World) (Aw : Option Addr) (nw cw : Nat) (sl : Int) (h : Below (w.alloc (.cells #[.slice Aw nw cw, .int .i64 sl] 33)).drew.heap.size (w.alloc (.cells #[.slice Aw nw cw, .int .i64 sl] 33)).drew w') : w'.cell? ⟨w.heap.size, 0, none⟩ = some (.slice Aw nw cw) := blk_cell (blk_below (w := (w.alloc (.cells #[.slice Aw nw cw, .int .i64 sl] 33)).drew) (show (w.alloc (.cells #[.slice Aw nw cw, .int .i64 sl] 33)).drew.heap[w.heap.size]? = some (.cells #[.slice Aw nw cw, .int .i64 sl] 33 (0, 0)) from blk_new w _) h) 0
theorem al_below {w w1 : World} {o : Obj} (h : Below (w.alloc o).drew.heap.size (w.alloc o).drew w1) : Below w.heap.size w w1 :=
  (((Below.refl _ _).alloc (Nat.le_refl _) o).drew).trans (h.mono (by show w.heap.size ≤ (w.alloc o).heap.size; simp))
def EmitPost (w : World) (out : List S37) (e : Ending) (w' : World) : Prop := ∃ v, e = .returned (.tuple #[v, .bool true]) ∧ Kd.R k37 37 w' w.heap.size (fun _ => True) v out ∧ Below w.heap.size w w'
def NoPost (w : World) (e : Ending) (w' : World) : Prop := e = .returned (.tuple #[.slice none 0 0, .bool false]) ∧ Below w.heap.size w w'
set_option maxHeartbeats 4000000 in
set_option maxRecDepth 100000 in
theorem emitNo_good (A : Option Addr) (cap : Nat) (l : List S37) (Aw : Option Addr) (nw cw : Nat) (sl fr : Int) (K : Nat) (w : World) (hr : Kd.C k37 w A l.length l) (hc : l.length ≤ cap) (hg : code_Good.f K l = some false) :
    Calls Tryd.prog 11 #[.slice A l.length cap, .agg #[.slice Aw nw cw, .int .i64 sl], .int .u64 fr] w (NoPost w) := by
  obtain ⟨n, hn⟩ : ∃ n, n = l.length := ⟨_, rfl⟩
  rw [← hn] at hr hc ⊢
  have HN := Lib.hid hn
  have HR := Lib.hid hr
  have HG := Lib.hid hg
  clear hn hr hg
  go_enter Tryd.func11, Tryd.ntmps11
  go_wp2_with fail
  first | (go_region_law (first
    | (go_simp; go_at_call 21; refine (goodn_calls n K A cap l false _ HN.out ?s1 hc HG.out).mono ?_; (case s1 => repeat (first | exact HR.out | (with_reducible refine Kd.C_alloc ?_ _) | (with_reducible refine Kd.C_drewN ?_ _) | (with_reducible refine Kd.C_drew ?_))); rintro e w1 ⟨rfl, hb1⟩))) | fail
  all_goals (go_wp2_with fail)
  all_goals go_ret2
  all_goals exact ⟨rfl, al_below hb1⟩
set_option maxHeartbeats 4000000 in
set_option maxRecDepth 100000 in
theorem emitNo_len (A : Option Addr) (cap : Nat) (l : List S37) (Aw : Option Addr) (nw cw : Nat) (sl fr : Int) (K KV : Nat) (nv : Int) (w : World) (hr : Kd.C k37 w A l.length l) (hc : l.length ≤ cap) (hg : code_Good.f K l = some true) (hv : code_Values.f KV l = some nv) (hne : (nw : Int) ≠ nv) :
    Calls Tryd.prog 11 #[.slice A l.length cap, .agg #[.slice Aw nw cw, .int .i64 sl], .int .u64 fr] w (NoPost w) := by
  obtain ⟨n, hn⟩ : ∃ n, n = l.length := ⟨_, rfl⟩
  rw [← hn] at hr hc ⊢
  have HN := Lib.hid hn
  have HR := Lib.hid hr
  have HG := Lib.hid hg
  have HV := Lib.hid hv
  have t0 : ((nw : Int) != nv) = true := by simpa using hne
  have t1 : ((nw : Int) == nv) = false := by simpa using hne
  clear hn hr hg hv hne
  go_enter Tryd.func11, Tryd.ntmps11
  go_wp2_with fail
  first | (go_region_law (first
    | (go_simp; go_at_call 21; refine (goodn_calls n K A cap l true _ HN.out ?s1 hc HG.out).mono ?_; (case s1 => repeat (first | exact HR.out | (with_reducible refine Kd.C_alloc ?_ _) | (with_reducible refine Kd.C_drewN ?_ _) | (with_reducible refine Kd.C_drew ?_))); rintro e w1 ⟨rfl, hb1⟩; have b0 := boxcell w w1 Aw nw cw sl hb1)
    | (go_simp; go_at_call 10; refine (valuesn_calls n KV A cap l nv _ HN.out ?s1 hc HV.out).mono ?_; (case s1 => exact Kd.C_below HR.out (al_below hb1)); rintro e w2 ⟨rfl, hb2⟩; have b2 := (hb2.cell (World.block_lt_of_cell? w1 _ b0)).trans b0))) | fail
  all_goals (go_wp2_with fail)
  all_goals go_ret2
  all_goals exact ⟨rfl, (al_below hb1).trans (hb2.mono (al_below hb1).size)⟩
/-- What stands while emit.Of lays its codes. -/
structure OS (w0 : World) (be sb n nw cw : Nat) (Aw : Option Addr) (fr : Int) (v : Value) (out : List S37) (f : Nat → Int) (wr : World) : Prop where
  em : EM wr (fun k => k < w0.heap.size ∨ k = sb) be Aw nw cw fr v out
  row : wr.rowIs sb 3 n (fun i => .int .i64 (f i))
  old : Below w0.heap.size w0 wr
  ord : w0.heap.size ≤ be ∧ be < sb
section
variable {w0 w w' : World} {be sb n nw cw : Nat} {Aw : Option Addr} {fr : Int} {v v' : Value} {out out' : List S37} {f : Nat → Int}
theorem OS.step (h : OS w0 be sb n nw cw Aw fr v out f w) (hp : Pz (fun k => k < w0.heap.size ∨ k = sb) w w') (he : EM w' (fun k => k < w0.heap.size ∨ k = sb) be Aw nw cw fr v' out') : OS w0 be sb n nw cw Aw fr v' out' f w' :=
  ⟨he, World.rowIs.of_block h.row (hp.block sb (.inr rfl)), h.old.trans (hp.toBelow fun k hk => .inl hk), h.ord⟩
theorem OS.below (h : OS w0 be sb n nw cw Aw fr v out f w) (hb : Below w.heap.size w w') : OS w0 be sb n nw cw Aw fr v out f w' :=
  h.step (Pz.of hb h.em.2.2.2) (h.em.below hb)
theorem OS.alloc (h : OS w0 be sb n nw cw Aw fr v out f w) (o : Obj) : OS w0 be sb n nw cw Aw fr v out f (w.alloc o) := h.below ((Below.refl _ _).alloc (Nat.le_refl _) o)
theorem OS.setRow (h : OS w0 be sb n nw cw Aw fr v out f w) (i : Nat) (x : Int) : OS w0 be sb n nw cw Aw fr v out (fun j => if j = i then x else f j) (w.setCell ⟨sb, i, none⟩ (.int .i64 x)) := by
  have o := h.ord
  exact ⟨h.em.set (.inr rfl) i _, (World.rowIs.set h.row i _).congr (fun j hj => by by_cases e : j = i <;> simp [e]), h.old.setCell (by show w0.heap.size ≤ sb; omega) _, o⟩
end
theorem OS.start {w0 w2 w3 : World} {n nw cw : Nat} {Aw : Option Addr} {fr : Int} (hB : Below w0.heap.size w0 w2) (ho : w3.ownsRow (w2.heap.size + 1) 3 1 (.slice (some ⟨(w2.alloc (.cells #[.slice Aw nw cw, .int .u64 fr, .slice none 0 0] 76)).heap.size, 0, none⟩) n n) n (madeCells (Value.int IntKind.i64 0).cells (n * 1)).toList) (hg : (w2.alloc (.cells #[.slice Aw nw cw, .int .u64 fr, .slice none 0 0] 76)).grownBy w3 none) :
    OS w0 w2.heap.size (w2.heap.size + 1) n nw cw Aw fr (.slice none 0 0) [] (fun _ => 0) w3 := by
  have hs2 : (w2.alloc (.cells #[.slice Aw nw cw, .int .u64 fr, .slice none 0 0] 76)).heap.size = w2.heap.size + 1 := by simp
  rw [hs2] at ho
  have hb3 : Below (w2.heap.size + 1) (w2.alloc (.cells #[.slice Aw nw cw, .int .u64 fr, .slice none 0 0] 76)) w3 := (Below.refl _ _).grown hg (by omega) (fun k e => by cases e)
  have hb2 : Below w2.heap.size w2 w3 := ((Below.refl _ _).alloc (Nat.le_refl _) _).trans (hb3.mono (by omega))
  have hsz := hB.size
  obtain ⟨hrow, hlt⟩ := own_rowI3 (f := fun _ => .int .i64 0) ho (made3 n)
  refine ⟨⟨(hb3.block _ (by omega)).trans (blk_new w2 _), Kd.R_nil _ _ _ _ _, ?_, ?_⟩, hrow, hB.trans (hb2.mono hsz), ⟨hsz, by omega⟩⟩
  · rintro (h | h) <;> omega
  · rintro k (h | h) <;> omega
theorem box8 {w : World} {g : Nat} {c : S37} (h : w.heap[g]? = some (.cells (cells37 c) 37 (0, 0))) : w.cell? ⟨g, 0, none⟩ = some (.int .i64 c.f0) ∧ w.cell? ⟨g, 1, none⟩ = some (.int .i64 c.f1) ∧ w.cell? ⟨g, 2, none⟩ = some (.int .i64 c.f2) ∧ w.cell? ⟨g, 3, none⟩ = some (.int .i64 c.f3) ∧ w.cell? ⟨g, 4, none⟩ = some (.int .i64 c.f4) ∧ w.cell? ⟨g, 5, none⟩ = some (.int .i64 c.f5) ∧ w.cell? ⟨g, 6, none⟩ = some (.int .u64 c.f6) ∧ w.cell? ⟨g, 7, none⟩ = some (.int .i64 c.f7) :=
  ⟨blk_cell h 0, blk_cell h 1, blk_cell h 2, blk_cell h 3, blk_cell h 4, blk_cell h 5, blk_cell h 6, blk_cell h 7⟩
theorem R37_base {w : World} {base : Nat} {ok : Nat → Prop} {v : Value} {xs : List S37} (h : Kd.R k37 37 w 0 ok v xs) (hv : ∀ k, v.ownBlock = some k → base ≤ k) : Kd.R k37 37 w base (fun _ => True) v xs := by
  obtain ⟨h0, inner, ⟨h1, h2⟩, hr⟩ := h
  refine ⟨fun _ _ => trivial, inner, ⟨h1, ?_⟩, hr.imp_ (fun x cs hm => by have := k37_openM hm; subst this; exact k37_mkM _ _ _ x)⟩
  rcases h2 with h2 | ⟨g, cap, cur, e, hb, r⟩
  · exact .inl h2
  · exact .inr ⟨g, cap, cur, e, hv g (by rw [e]; rfl), r⟩
def tgt (c : S37) (x : Int) : S37 := ⟨c.f0, c.f1, c.f2, c.f3, c.f4, c.f5, c.f6, x⟩
section
variable {w0 w w' : World} {be sb n nw cw g m cv : Nat} {Aw : Option Addr} {fr : Int} {v v' : Value} {out out' : List S37} {f : Nat → Int}
theorem OS.el (h : OS w0 be sb n nw cw Aw fr (.slice (some ⟨g, 0, none⟩) m cv) out f w) {j : Nat} (hj : j < m) {D : S37} (hD : D = rd_T37 out (j : Int)) :
    (w.cell? ⟨g, j * 8, none⟩ = some (.int .i64 D.f0) ∧ w.cell? ⟨g, j * 8 + 1, none⟩ = some (.int .i64 D.f1) ∧ w.cell? ⟨g, j * 8 + 2, none⟩ = some (.int .i64 D.f2) ∧ w.cell? ⟨g, j * 8 + 3, none⟩ = some (.int .i64 D.f3) ∧ w.cell? ⟨g, j * 8 + 4, none⟩ = some (.int .i64 D.f4) ∧ w.cell? ⟨g, j * 8 + 5, none⟩ = some (.int .i64 D.f5) ∧ w.cell? ⟨g, j * 8 + 6, none⟩ = some (.int .u64 D.f6) ∧ w.cell? ⟨g, j * 8 + 7, none⟩ = some (.int .i64 D.f7)) ∧ w.frozen? ⟨g, j * 8 + 7, none⟩ = false := by
  obtain ⟨c, hcl, hM, hcc, hfr⟩ := Kd.R_elem h.em.2.1 z37 (j : Int) (by omega) (by omega)
  obtain rfl := k37_openM hM
  subst hD
  exact ⟨⟨hcc 0 _ rfl, hcc 1 _ rfl, hcc 2 _ rfl, hcc 3 _ rfl, hcc 4 _ rfl, hcc 5 _ rfl, hcc 6 _ rfl, hcc 7 _ rfl⟩, hfr 7⟩
theorem OS.setTgt (h : OS w0 be sb n nw cw Aw fr (.slice (some ⟨g, 0, none⟩) m cv) out f w) {j : Nat} (hj : j < m) (x : Int) :
    OS w0 be sb n nw cw Aw fr (.slice (some ⟨g, 0, none⟩) m cv) (out.set j (tgt (rd_T37 out (j : Int)) x)) f (w.setCell ⟨g, j * 8 + 7, none⟩ (.int .i64 x)) := by
  have hg := h.em.2.1.1 g rfl
  have hg1 : g ≠ sb := fun e => hg.2 (.inr e)
  have hg2 : w0.heap.size ≤ g := Nat.le_of_not_lt fun e => hg.2 (.inl e)
  obtain ⟨c, hcl, hM, hcc, hfr⟩ := Kd.R_elem h.em.2.1 z37 (j : Int) (by omega) (by omega)
  obtain rfl := k37_openM hM
  have HP := (Kd.R_seg h.em.2.1 (j : Int) (by omega) (by omega) (seg := [.int .i64 x]) (j := 7) hcl hcc (show 8 ≤ 8 from by decide) (x' := tgt (rd_T37 out (j : Int)) x) (k37_mkM _ _ _ (tgt (rd_T37 out (j : Int)) x)) (fun _ hk => hk)).1
  exact ⟨⟨blk_far h.em.1 (fun e => hg.1 (by have e' : be = g := e; exact e'.symm)) _, HP, h.em.2.2.1, fun k hk => by have := h.em.2.2.2 k hk; simpa [World.setCell] using this⟩, World.rowIs.setOther h.row (fun e => hg1 (by have e' : sb = g := e; exact e'.symm)) _, h.old.setCell hg2 _, h.ord⟩
end
/-- What is laid, the first j of it aimed. -/
def aimTo (fr : Int) (ws : List Int) (l out : List S37) (j : Nat) : List S37 := (out.take j).map (aim fr ws l) ++ out.drop j
theorem aimTo_rd (fr : Int) (ws : List Int) (l out : List S37) (j : Nat) (hj : j < out.length) : rd_T37 (aimTo fr ws l out j) (j : Int) = out[j] := by
  rw [rdT_at _ j (by simp [aimTo]; omega)]
  unfold aimTo
  rw [List.getElem_append_right (by simp; omega)]
  simp [Nat.min_eq_left (Nat.le_of_lt hj)]
theorem aimTo_succ (fr : Int) (ws : List Int) (l out : List S37) (j : Nat) (hj : j < out.length) : aimTo fr ws l out (j + 1) = (aimTo fr ws l out j).set j (aim fr ws l out[j]) := by
  unfold aimTo
  rw [List.take_succ_eq_append_getElem hj, List.set_append_right _ _ (by simp; omega)]
  have e : j - ((out.take j).map (aim fr ws l)).length = 0 := by simp; omega
  rw [e, List.drop_eq_getElem_cons hj, List.set_cons_zero, List.map_append]
  simp
theorem aimTo_id (fr : Int) (ws : List Int) (l out : List S37) (j : Nat) (hj : j < out.length) : (aimTo fr ws l out j).set j out[j] = aimTo fr ws l out j := by
  have h : (aimTo fr ws l out j).length = out.length := by simp [aimTo]; omega
  have e := aimTo_rd fr ws l out j hj
  rw [rdT_at _ j (by omega)] at e
  rw [← e]
  exact List.set_getElem_self _
theorem aimTo_end (fr : Int) (ws : List Int) (l out : List S37) : aimTo fr ws l out out.length = out.map (aim fr ws l) := by simp [aimTo]
theorem jm_setRegs (ws : List Int) (c : S37) : (setRegs ws c).f0 = c.f0 ∧ (setRegs ws c).f7 = c.f7 := by
  unfold setRegs
  split <;> exact ⟨rfl, rfl⟩
theorem jm_code (fr : Int) (ws : List Int) (c D : S37) (hD : D ∈ codeOut fr ws c) (hj : jm D = true) : jm c = true ∧ D.f7 = c.f7 := by
  have hR := jm_setRegs ws c
  have hreads : ∀ k, ∀ x ∈ readsTo fr ws (us c) k, jm x = false := by
    intro k
    induction k with
    | zero => intro x hx; cases hx
    | succ k ih =>
      intro x hx
      rcases List.mem_append.1 hx with hx | hx
      · exact ih x hx
      · unfold regC at hx
        split at hx
        · cases hx
        · rw [List.mem_singleton.1 hx]; rfl
  unfold codeOut at hD
  rcases List.mem_append.1 hD with hD | hD
  · rw [hreads _ D hD] at hj
    cases hj
  · have main : ∀ x : S37, x.f0 = c.f0 → x.f7 = c.f7 → D = x → jm c = true ∧ D.f7 = c.f7 := by
      rintro x h0 h7 rfl
      refine ⟨?_, h7⟩
      unfold jm at hj ⊢
      rw [← h0]
      exact hj
    split at hD
    · split at hD
      · rcases List.mem_cons.1 hD with hD | hD
        · exact main (setTo (setRegs ws c) 5) hR.1 hR.2 hD
        · rw [List.mem_singleton.1 hD] at hj
          cases hj
      · exact main (setTo (setRegs ws c) (rd ws (dv c))) hR.1 hR.2 (List.mem_singleton.1 hD)
    · exact main _ hR.1 hR.2 (List.mem_singleton.1 hD)
theorem jm_out (fr : Int) (ws : List Int) (l : List S37) (k : Nat) (D : S37) (hD : D ∈ outTo fr ws l k) (hj : jm D = true) : ∃ c ∈ l, jm c = true ∧ D.f7 = c.f7 := by
  obtain ⟨c, hc, hD⟩ := List.mem_flatMap.1 hD
  exact ⟨c, List.mem_of_mem_take hc, jm_code fr ws c D hD hj⟩
def sk (fr : Int) (ws : List Int) (l : List S37) (k : Nat) (j : Nat) : Int := if j < k then startOf fr ws l j else 0
set_option maxHeartbeats 4000000 in
set_option maxRecDepth 100000 in
theorem emit_calls (A : Option Addr) (cap : Nat) (l : List S37) (Aw : Option Addr) (nw cw : Nat) (ws : List Int) (sl fr : Int) (K KV : Nat) (w : World) (hr : Kd.C k37 w A l.length l) (hc : l.length ≤ cap) (hW : Kd.C (Kd.int .i64) w Aw nw ws) (hg : code_Good.f K l = some true) (hv : code_Values.f KV l = some (nw : Int)) (hl : l.length ≤ 10000)
    (hu : ∀ c ∈ l, ∀ u ∈ us c, 0 ≤ u ∧ u < (nw : Int)) (hd : ∀ c ∈ l, db c = true → 0 ≤ dv c ∧ dv c < (nw : Int)) (hj : ∀ c ∈ l, jm c = true → 0 ≤ c.f7 ∧ c.f7 < (l.length : Int)) :
    Calls Tryd.prog 11 #[.slice A l.length cap, .agg #[.slice Aw nw cw, .int .i64 sl], .int .u64 fr] w (EmitPost w (emitL fr ws l)) := by
  obtain ⟨i0, hi, hz0, hz1, hz2⟩ := info_parts info3e
  obtain ⟨n, hn⟩ : ∃ n, n = l.length := ⟨_, rfl⟩
  rw [← hn] at hr hc hl ⊢
  have HN := Lib.hid hn
  have HR := Lib.hid hr
  have HW := Lib.hid hW
  have HG := Lib.hid hg
  have HV := Lib.hid hv
  have HU := Lib.hid hu
  have HD := Lib.hid hd
  have HJ := Lib.hid hj
  have t0 : ((nw : Int) != (nw : Int)) = false := by simp
  clear hn hr hg hv hW hu hd hj
  go_enter Tryd.func11, Tryd.ntmps11
  go_wp2_with fail
  first | (go_region_law (first
    | (go_simp; go_at_call 21; refine (goodn_calls n K A cap l true _ HN.out ?s1 hc HG.out).mono ?_; (case s1 => repeat (first | exact HR.out | (with_reducible refine Kd.C_alloc ?_ _) | (with_reducible refine Kd.C_drewN ?_ _) | (with_reducible refine Kd.C_drew ?_))); rintro e w1 ⟨rfl, hb1⟩; have b0 := boxcell w w1 Aw nw cw sl hb1)
    | (go_simp; go_at_call 10; refine (valuesn_calls n KV A cap l (nw : Int) _ HN.out ?s1 hc HV.out).mono ?_; (case s1 => exact Kd.C_below HR.out (al_below hb1)); rintro e w2 ⟨rfl, hb2⟩; have b2 := (hb2.cell (World.block_lt_of_cell? w1 _ b0)).trans b0))) | fail
  all_goals
    have HBW : Hid (Below w.heap.size w w2) := Lib.hid ((al_below hb1).trans (hb2.mono (al_below hb1).size))
    clear hb1 hb2 b0 t0
    go_wp2_with (first
      | (at_make; refine wpList_make_full _ rfl _ _ 28 rfl (w2.heap.size + 1) 3 i0 (.int .i64 0) 1 Tryd.underlying28 hi hz0 hz1 .i64 .i64 n n n rfl rfl rfl rfl (by rw [hz2]; omega) (by unfold maxLen; omega) (by simp) ?_; intro w3 hown3 hg3; have HOW := Lib.hid hown3; have HG3 := Lib.hid hg3; clear hown3 hg3)
      | fail)
    have hOS := OS.start HBW.out HOW.out HG3.out
    have hs2 : (w2.alloc (.cells #[.slice Aw nw cw, .int .u64 fr, .slice none 0 0] 76)).heap.size = w2.heap.size + 1 := by simp
    try rw [hs2]
    clear HOW HG3 hs2 hi hz0 hz1 hz2 HBW b2
    generalize w2.heap.size + 1 = sb at hOS ⊢
    generalize w2.heap.size = be at hOS ⊢
    have HOS := Lib.hid hOS
    clear hOS
    go_loopw [37] (fun i wr => ∃ (v1 : Value) (k : Nat), k ≤ n ∧ i = .int .i64 k ∧ Hid (OS w be sb n nw cw Aw fr v1 (outTo fr ws l k) (sk fr ws l k) wr)) (fun i _ => n - (intOf i).toNat)
    case atStart => exact ⟨.slice none 0 0, 0, Nat.zero_le _, rfl, Lib.hid (by
      have e : sk fr ws l 0 = fun _ => 0 := funext fun j => by simp [sk]
      rw [e]
      simpa [outTo] using HOS.out)⟩
    case round =>
      clear HOS
      obtain ⟨v1, k, hk, rfl, HOS⟩ := hrel
      by_cases hkn : k < n
      · have hkl : k < l.length := by rw [← HN.out]; exact hkn
        obtain ⟨ad, rfl, x0, x1, x2, x3, x4, x5, x6, x7⟩ := at_T37 (Kd.C_below HR.out HOS.out.old) (k : Int) (by omega) (by omega)
        rw [Int.toNat_natCast] at x0 x1 x2 x3 x4 x5 x6 x7
        obtain ⟨c, hc0⟩ : ∃ c, c = rd_T37 l (k : Int) := ⟨_, rfl⟩
        rw [← hc0] at x0 x1 x2 x3 x4 x5 x6 x7
        have hcl : c = l[k] := by rw [hc0]; exact rdT_at l k hkl
        have hcm : c ∈ l := by rw [hcl]; exact List.getElem_mem _
        obtain ⟨Av, m, cv, rfl, HRM⟩ := slice_of HOS.out.em.2.1
        have hOA := HOS.out.alloc (.cells (cells37 c) 37)
        obtain ⟨c0, c1, c2, f2⟩ := hOA.em.cells
        have r0 := World.rowIs.cell hOA.row hkn
        have rz := World.rowIs.frozen hOA.row k
        have hOR := hOA.setRow k (m : Int)
        have hbox : ((wr.alloc (.cells (cells37 c) 37)).setCell ⟨sb, k, none⟩ (.int .i64 (m : Int))).heap[wr.heap.size]? = some (.cells (cells37 c) 37 (0, 0)) := blk_far (blk_new wr _) (fun e => by have e' : wr.heap.size = sb := e; have := World.rowIs.lt HOS.out.row; omega) _
        have hlen : (outTo fr ws l k).length ≤ 999000 := by have := outTo_len fr ws l k; omega
        have HC := Lib.hid (code_calls w (fun k => k < w.heap.size ∨ k = sb) be nw cw Aw fr (.slice Av m cv) (outTo fr ws l k) ws c _ hOR.em HW.out hOR.old (fun k hk => .inl hk) (HU.out c hcm) (HD.out c hcm) hlen)
        have HCL := Lib.hid hcl
        have HOR := Lib.hid hOR
        obtain ⟨g0, g1, g2, g3, g4, g5, g6, g7⟩ := box8 hbox
        clear hc0 hcl hOA hOR hbox hcm
        unfold cells37 at HC c0 c1 c2 f2 r0 rz HOR g0 g1 g2 g3 g4 g5 g6 g7
        go_wp2_with fail
        refine HC.out.mono ?_
        rintro e w5 ⟨v2, rfl, hE5, hP5⟩
        have HO5 := Lib.hid (HOR.out.step hP5 hE5)
        clear hE5 hP5 HC HOR g0 g1 g2 g3 g4 g5 g6 g7 c0 c1 c2 f2 r0 rz x0 x1 x2 x3 x4 x5 x6 x7
        go_wp2_with fail
        go_roundw
        case rel =>
          refine ⟨v2, k + 1, by omega, by go_num, Lib.hid ?_⟩
          have e1 : outTo fr ws l (k + 1) = outTo fr ws l k ++ codeOut fr ws c := by rw [outTo_succ fr ws l k hkl, HCL.out]
          have e2 : sk fr ws l (k + 1) = fun j => if j = k then (m : Int) else sk fr ws l k j := by
            funext j
            unfold sk startOf
            by_cases ej : j = k
            · subst ej
              rw [if_pos (by omega), if_pos rfl, HRM.out.1]
            · rw [if_neg ej]
              by_cases hj : j < k
              · rw [if_pos (by omega), if_pos hj]
              · rw [if_neg (by omega), if_neg hj]
          rw [e1, e2]
          exact HO5.out
        case measure => simp [intOf]; omega
      · obtain rfl : k = n := by omega
        obtain ⟨out, hout⟩ : ∃ out, out = outTo fr ws l k := ⟨_, rfl⟩
        rw [← hout] at HOS
        have HOUT := Lib.hid hout
        obtain ⟨Av, m, cv, rfl, HRM⟩ := slice_of HOS.out.em.2.1
        obtain ⟨c0, c1, c2, f2⟩ := HOS.out.em.cells
        have hm1 : m ≤ 1000000 := by
          have h1 := outTo_len fr ws l k
          rw [HRM.out.1, hout]
          omega
        clear hout
        go_wp2_with fail
        clear c0 c1 c2 f2
        go_loopw [59] (fun i wr => ∃ (j : Nat), j ≤ m ∧ i = .int .i64 j ∧ Hid (OS w be sb k nw cw Aw fr (.slice Av m cv) (aimTo fr ws l out j) (sk fr ws l k) wr)) (fun i _ => m - (intOf i).toNat)
        case atStart => exact ⟨0, Nat.zero_le _, rfl, Lib.hid (by simpa [aimTo] using HOS.out)⟩
        case round =>
          clear HOS
          obtain ⟨j, hj, rfl, HOS⟩ := hrel
          by_cases hjm : j < m
          · have hjo : j < out.length := by rw [← HRM.out.1]; exact hjm
            obtain ⟨g, hAv⟩ : ∃ g, Av = some ⟨g, 0, none⟩ := by
              obtain ⟨g, cap', e, _⟩ := Kd.R_form HRM.out.2 (by omega)
              injection e with e1 e2 e3
              exact ⟨g, e1⟩
            subst hAv
            obtain ⟨D, hD0⟩ : ∃ D, D = rd_T37 (aimTo fr ws l out j) (j : Int) := ⟨_, rfl⟩
            obtain ⟨⟨x0, x1, x2, x3, x4, x5, x6, x7⟩, xz⟩ := HOS.out.el hjm hD0
            have hD1 : D = out[j] := by rw [hD0]; exact aimTo_rd fr ws l out j hjo
            have hDm : D ∈ outTo fr ws l k := by rw [hD1, ← HOUT.out]; exact List.getElem_mem _
            have hJ := Jumps_eq D
            have HS := aimTo_succ fr ws l out j hjo
            rw [← hD1] at HS
            have HAS := Lib.hid HS
            have HD0 := Lib.hid hD0
            clear hD0 hD1 HS
            by_cases hjD : jm D = true
            · obtain ⟨c, hcm, hcj, hc7⟩ := jm_out fr ws l k D hDm hjD
              obtain ⟨y0, y1⟩ := HJ.out c hcm hcj
              rw [← hc7, ← HN.out] at y1
              rw [← hc7] at y0
              rw [hjD] at hJ
              have HJM := Lib.hid hJ
              have HJD := Lib.hid hjD
              clear hcm hcj hc7 hJ hDm hjD
              go_wp2_with fail
              refine (code_Jumps.calls D.f0 D.f1 D.f2 D.f3 D.f4 D.f5 D.f6 D.f7 true (go D) _ HJM.out).mono ?_
              rintro e w6 ⟨rfl, hb6⟩
              have hO6 := (HOS.out.alloc (.cells (cells37 D) 37)).below hb6
              have b7 : w6.cell? ⟨wr.heap.size, 7, none⟩ = some (.int .i64 D.f7) := blk_cell (blk_below (blk_new wr (.cells (cells37 D) 37)) hb6) 7
              obtain ⟨c0, c1, c2, f2⟩ := hO6.em.cells
              clear x0 x1 x2 x3 x4 x5 x6 x7 xz c0 c1 f2 hb6
              obtain ⟨⟨x0, x1, x2, x3, x4, x5, x6, x7⟩, xz⟩ := hO6.el hjm HD0.out
              have r0 := World.rowIs.cell hO6.row (i := D.f7.toNat) (by omega)
              obtain ⟨st, hst⟩ : ∃ st, st = sk fr ws l k D.f7.toNat := ⟨_, rfl⟩
              rw [← hst] at r0
              have HST := Lib.hid hst
              have HO7 := Lib.hid (hO6.setTgt hjm st)
              have hlt : D.f7.toNat < k := by omega
              clear hst hO6
              go_wp2_with fail
              go_region
              all_goals (try (go_wp2_with fail))
              all_goals go_roundw
              case rel =>
                refine ⟨j + 1, by omega, by go_num, Lib.hid ?_⟩
                have e1 : aimTo fr ws l out (j + 1) = (aimTo fr ws l out j).set j (tgt (rd_T37 (aimTo fr ws l out j) (j : Int)) st) := by
                  rw [HAS.out, ← HD0.out, HST.out]
                  unfold aim sk
                  rw [if_pos HJD.out, if_pos hlt]
                  rfl
                rw [e1]
                exact HO7.out.below ((Below.refl _ _).drew)
              case measure => simp [intOf]; omega
            · have hjD' : jm D = false := by simpa using hjD
              rw [hjD'] at hJ
              have HJM := Lib.hid hJ
              have HJD := Lib.hid hjD'
              clear hJ hDm hjD hjD'
              go_wp2_with fail
              refine (code_Jumps.calls D.f0 D.f1 D.f2 D.f3 D.f4 D.f5 D.f6 D.f7 false (go D) _ HJM.out).mono ?_
              rintro e w6 ⟨rfl, hb6⟩
              have HO6 := Lib.hid ((HOS.out.alloc (.cells (cells37 D) 37)).below hb6)
              clear x0 x1 x2 x3 x4 x5 x6 x7 xz hb6
              go_wp2_with fail
              go_roundw
              case rel =>
                refine ⟨j + 1, by omega, by go_num, Lib.hid ?_⟩
                have e1 : aimTo fr ws l out (j + 1) = aimTo fr ws l out j := by
                  rw [HAS.out]
                  unfold aim
                  rw [if_neg (by rw [HJD.out]; simp), HD0.out, aimTo_rd fr ws l out j hjo]
                  exact aimTo_id fr ws l out j hjo
                rw [e1]
                exact HO6.out
              case measure => simp [intOf]; omega
          · obtain rfl : j = m := by omega
            obtain ⟨c0, c1, c2, f2⟩ := HOS.out.em.cells
            have HEND : Hid (aimTo fr ws l out j = emitL fr ws l) := Lib.hid (by rw [HRM.out.1, aimTo_end, HOUT.out]; rw [HN.out]; rfl)
            go_wp2_with fail
            go_ret2
            refine ⟨_, rfl, ?_, HOS.out.old⟩
            rw [← HEND.out]
            exact R37_base HOS.out.em.2.1 (fun g hg => Nat.le_of_not_lt fun e => (HOS.out.em.2.1.1 g hg).2 (.inl e))
end Go.Proofs.YtepgpapljoelhaaDoor.PE
